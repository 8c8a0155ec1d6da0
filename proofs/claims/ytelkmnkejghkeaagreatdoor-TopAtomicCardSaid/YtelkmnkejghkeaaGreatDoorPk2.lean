/- The law TopAtomic: pack 2 of its texts. -/
import Derived.ScopeJumps
import Derived.Below
import Derived.OpenShut
import Derived.Test.YtelkmnkejghkeaaGreatDoorPk1
set_option linter.unusedSimpArgs false
set_option linter.unusedVariables false
set_option maxRecDepth 100000
namespace Go.Ab
open Go
section
variable {vs:Array Value}{c:Cx}{u:Value}{w':World}{mt:TypeId}
variable {P : Program} {U : TypeId → TI}
def callable (P : Program) (f : FuncId) : Prop := ∃ fn, P.funcs[f]? = some fn ∧ (fn.name == "runtime.NumGoroutine") = false ∧ fn.body.isNone = false
def Bq(P:Program)(f:FuncId)(vs:Array Value)(w:World)(K:Value→World→Prop):Prop:=
 (callable P f∧Calls P f vs w fun e w' =>∃u,e= .returned u∧K u w')∨∃u w',(callFunc f vs).run P w= .ok (.value u) w'∧K u w'
theorem Bq.mono{f}{w}{K K'}(h:Bq P f vs w K)(hk:∀u w',K u w'→K' u w'):Bq P f vs w K' :=by
 rcases h with⟨h1,h2⟩|⟨u,w',h1,h2⟩
 ·exact .inl ⟨h1,h2.mono fun e w' ⟨u,h3,h4⟩=>⟨u,h3,hk _ _ h4⟩⟩
 ·exact .inr ⟨u,w',h1,hk _ _ h2⟩
theorem rj{f}(hc:callable P f)(vs)(w):(callFunc f vs).run P w= .ok (.enter f vs) w:=by
 obtain ⟨fn,hfn,hname,hbody⟩:=hc;have h3 : fn.name ≠ "runtime.NumGoroutine" := afv;have h4:fn.body≠none:=fun hh=>by rw [hh] at hbody; cases hbody
 simp[callFunc,hfn,h3,h4]
theorem Bq.calls{f}{w}{K}(hc:callable P f)(h:Bq P f vs w K):Calls P f vs w fun e w' =>∃u,e= .returned u∧K u w' :=by
 rcases h with⟨h1,h2⟩|⟨u,w',h1,h2⟩
 ·omega
 grind [rj]
def ai(P:Program)(f:FuncId)(args:List AV)(h:Heap)(Q:AV→Heap→Prop):Prop:=
 ∀c (vs:Array Value),Sub h c.h→Good c→vs.size=args.length→(∀i (hi:i<args.length),Rep c args[i] (vs.getD i undef))→Bq P f vs c.w (fm c Q)
theorem fm.mono{Q Q'}(h:fm c Q u w')(hq:∀x h,Q x h→Q' x h):fm c Q' u w' :=by obtain⟨c',x,h',h1,h2,h3,h4,h5,h6⟩:=h;exact⟨c',x,h',h1,h2,h3,h4,h5,hq _ _ h6⟩
theorem ai.mono{f}{args}{h}{Q Q'}(hf:ai P f args h Q)(hq:∀x h,Q x h→Q' x h):ai P f args h Q' :=
 fun c vs h1 h2 h3 h4=>(hf c vs h1 h2 h3 h4).mono fun u w' h6=>h6.mono hq
def Gx(y:AV)(n:Nat):AV:=match y with
 |.ob id off len cap sz=> .ob id off (min len n) cap sz
 |y=>y
theorem MZ{y}(n)(h:Rep c y u):∃u',Rep c (Gx y n) u'∧(∀sz k,Builtin.firstCells sz k u' =Builtin.firstCells sz k u)∧
  ∀w m,(Builtin.lenOf u').run P w= .ok m w→m≤n→∃m',(Builtin.lenOf u).run P w= .ok m' w∧Nat.min m' n=m:=by
 cases y with
 |ob id off len cap sz=>
  obtain⟨o,rfl,h1,h2,cs,t,h3,h4⟩:=h.jM;refine⟨.slice (some ⟨(c.φ id).block,o,none⟩) (min len n) cap,.ob _ _ _ _ _ _ cs t h3 afu h2 h4,fun _ _=>rfl,fun w m hm hn=>⟨len,afJ,?_⟩⟩
  simp_all [Builtin.lenOf,Sem.run_pure,Result.ok.injEq,and_true]
 |_=>exact⟨u,h,fun _ _=>rfl,fun w m hm hn=>⟨m,hm,Nat.min_eq_left hn⟩⟩
def DA(U:TypeId→TI)(h:Heap)(ts:TypeId)(x y:AV)(Q:AV→Heap→Prop):Prop:=
 match (U ts).k with
 |.slice e=>match x with
  |.oa id off len=>(U e).sz=1∧iY U e h y fun ys=>Sized 1 ys∧(∀z∈ys,bB z=false)∧match h id with
   |some (.obj cs t)=>ys.length≤len∧off+len≤cs.length∧Q (.i ys.length) (upd h id (some (.obj (over cs off ys) t)))
   |_=>False
  |.ob id off len _ sz=>(U e).sz≠0∧sz=(U e).sz∧iY U e h (Gx y len) fun ys=>Sized (U e).sz ys∧match h id with
   |some (.obj cs t)=>ys.length≤len∧off+len*(U e).sz≤cs.length∧Q (.i ys.length) (upd h id (some (.obj (over cs off (au ys)) t)))
   |_=>False
  |_=>False
 |_=>False
def HH:Operand→Bool
 |.const (.slice none _ _)=>true
 |_=>false
def Pn(U:TypeId→TI)(h:Heap)(op:BinOp)(ty:TypeId)(x:AV)(Q:AV→Heap→Prop):Prop:=
 match (U ty).k,op,x with
 |.slice _,.eql,.sl xs _=>∀b:Bool,(xs≠ []→b=false)→Q (.b b) h
 |.slice _,.neq,.sl xs _=>∀b:Bool,(xs≠ []→b=true)→Q (.b b) h
 |.slice _,.eql,.oa .. =>Q (.b false) h
 |.slice _,.neq,.oa .. =>Q (.b true) h
 |.slice _,.eql,.ob .. =>Q (.b false) h
 |.slice _,.neq,.ob .. =>Q (.b true) h
 |_,_,_=>False
def Wi(sz m id:Nat):AV:=if sz=1 then .oa id 0 m else .ob id 0 m m sz
def Bc(m:List (AV×AV))(b v:AV):List (AV×AV):=if(getM m b).isSome then m.map (fun p=>if tu p.1 b then(p.1,v)else p)else m++ [(b,v)]
def JE(U:TypeId→TI)(ρ:Env)(mt:TypeId):Option Operand→Prop
 |none=>True
 |some x=>(∃kt e,(U mt).k= .map kt e)∧withv ρ x fun a=>∃kk n,a= .v (.int kk n)
def bg(P:Program)(U:TypeId→TI)(ρ:Env)(h:Heap)(o:Oper)(Q:AV→Heap→Prop):Prop:=
 match o.op with
 |.alloc t=>if isUnit (U t).k then∀id,h id=none→Q (.ptr id 0) (upd h id (some (.obj [] t)))else(U t).sz≠0∧fit (U t).zero (U t).sz∧∀id,h id=none→Q (.ptr id 0) (upd h id (some (.obj (U t).zero.cells t)))
 |.box t x=>(U t).sz≠0∧withv ρ x fun y=>fit y (U t).sz∧∀id,h id=none→Q (.ptr id 0) (upd h id (some (.obj y.cells t)))
 |.store t a x=>if isUnit (U t).k then withv ρ a fun p=>withv ρ x fun y=>y= .agg []∧match p with
   |.ptr .. =>Q (.v undef) h
   |_=>False
  else(U t).sz≠0∧withv ρ a fun p=>withv ρ x fun y=>match p with
  |.ptr id off=>match h id with
   |some (.obj cs t')=>fit y (U t).sz∧off+(U t).sz≤cs.length∧Q (.v undef) (upd h id (some (.obj (over cs off y.cells) t')))
   |_=>False
  |_=>False
 |.makeSlice t l m=>withv ρ l fun a=>withv ρ m fun b=>match (U t).k,a,b with
  |.slice e,.v (.int _ n),.v (.int _ n')=>n=n'∧0≤n∧n<lim∧n*(U e).bytes≤281474976710656∧(U e).sz≠0∧fit (U e).zero (U e).sz∧
   ∀id,h id=none→Q (Wi (U e).sz n.toNat id) (upd h id (some (.obj (cQ (U e).zero n.toNat (U e).sz) e)))
  |_,_,_=>False
 |.makeMap mt r=>JE U ρ mt r∧∀id,h id=none→Q (.mp id) (upd h id (some (.mp [])))
 |.mapUpdate mt x y z=>withv ρ x fun a=>withv ρ y fun b=>withv ρ z fun v=>match (U mt).k,a with
  |.map kt e,.mp id=>gY (U kt).k b∧match h id with
   |some (.mp m)=>(∀p∈m,gY (U kt).k p.1)∧Q (.v undef) (upd h id (some (.mp (Bc m b v))))
   |_=>False
  |_,_=>False
 |.call c=>match c.callee with
  |.value q=>withv ρ q fun y=>match y with
   |.fn f cap=>withvs ρ c.args.toList fun ys=>ai P f (ys++cap) h Q
   |_=>False
  |.builtin .append=>match c.args.toList,c.argTypes.toList with
   | [x,y],[ts,tx]=>withv ρ x fun a=>withv ρ y fun b=>apT (sk U h ts a b Q) (FZ U h ts a b Q) (U tx).k
   |_,_=>False
  |.builtin .copy=>match c.args.toList,c.argTypes.toList with
   | [x,y],[ts,_]=>withv ρ x fun a=>withv ρ y fun b=>DA U h ts a b Q
   |_,_=>False
  |_=>pv U ρ h o.op fun x=>Q x h
 |.binOp op ty x y _=>if HH y then withv ρ x fun a=>Pn U h op ty a Q else pv U ρ h o.op fun x=>Q x h
 |_=>pv U ρ h o.op fun x=>Q x h
def mH(P:Program)(c:Cx)(Q:AV→Heap→Prop):Result Next→Prop
 |.ok (.value u) w' =>fm c Q u w'
 |.ok .skip w' =>fm c Q undef w'
 |.ok (.enter f args) w' =>w' =c.w∧Calls P f args w' fun e w'' =>∃u,e= .returned u∧fm c Q u w''
 |_=>False
theorem wC{ρ:Env}{h:Heap}{o:Oper}{Q:AV→Heap→Prop}(hU:∀t,aQ P U t)(hp:pv U ρ h o.op fun x=>Q x h){a:Act}{n:Nat}(hs:Sub h c.h)(g:Good c)(he:cw c n ρ a):
  mH P c Q ((execOp a.eval o).run P c.w):=by
 obtain⟨X,hQ,hX⟩:=Ae hU hp;obtain⟨u,c',h1,h2,h3,h4,h5⟩:=hX c a n hs g he;rw[h1];exact⟨c',X,h,rfl,h2,h3,h5,afv,hQ⟩
theorem zl{h}(hs:Sub h c.h){id}(hid:c.h id=none):h id=none:=by exact akx
theorem qk{h:Heap}{t:TypeId}{y:AV}{n:Nat}{Q:AV→Heap→Prop}(hs:Sub h c.h)(g:Good c)(hr:Rep c y u)(hf:fit y n)
  (hQ:∀id,h id=none→Q (.ptr id 0) (upd h id (some (.obj y.cells t)))):fm c Q (.pointer (some ⟨c.w.heap.size,0,none⟩)) (c.w.alloc (.cells u.cells t)):=by
 obtain⟨id,hid⟩:=g.fresh;obtain⟨f1,f2,f3,f4⟩:=hr.fits hf;refine⟨c.aB (.cells u.cells t) id ⟨c.w.heap.size,0,none⟩ (.obj y.cells t),_,_,rfl,?_,Ext.aB c _ id _ _ rfl (.inl hid),?_,hs.upd id _,hQ id (zl hs hid)⟩
 ·refine g.aB _ _ (0,0) id _ _ rfl (.inl hid) (fun cs t' hh=>?_) (fun n sz hh=>afB)
  grind
 ·have:=Rep.ptr (c:=c.aB (.cells u.cells t) id ⟨c.w.heap.size,0,none⟩ (.obj y.cells t)) id 0 y.cells t ahQ
  simpa[Cx.aB,ah]using this
theorem FK{ρ:Env}{h:Heap}{o:Oper}{Q:AV→Heap→Prop}{t:TypeId}(hU:∀t,aQ P U t)(ho:o.op= .alloc t)(hz:(U t).sz≠0)(hf:fit (U t).zero (U t).sz)
  (hQ:∀id,h id=none→Q (.ptr id 0) (upd h id (some (.obj (U t).zero.cells t))))  {a:Act} (hs:Sub h c.h) (g:Good c):mH P c Q ((execOp a.eval o).run P c.w):=by
 obtain⟨i,i1,i2,i3,z,z1,z2,z3⟩:=(hU t).info hz;have hz0:(zeroValue t).run P c.w= .ok z c.w:=agz;have:=qk (t:=t) hs g (z3 c) hf hQ;have hr:(execOp a.eval o).run P c.w= .ok (.value (.pointer (some ⟨c.w.heap.size,0,none⟩))) (c.w.alloc (.cells z.cells t)):=by simp_all [execOp,Instr.alloc,newVar,newRow]
 rw[hr];exact agc
theorem LN{ρ:Env}{h:Heap}{o:Oper}{Q:AV→Heap→Prop}{t:TypeId}{x:Operand}(ho:o.op= .box t x)
  (hk:withv ρ x fun y=>fit y (U t).sz∧∀id,h id=none→Q (.ptr id 0) (upd h id (some (.obj y.cells t))))  {a:Act} {n:Nat} (hs:Sub h c.h) (g:Good c) (he:cw c n ρ a):
  mH P c Q ((execOp a.eval o).run P c.w):=by
 obtain⟨y,hy,hf,hQ⟩:=aJ hk;have:=qk (t:=t) hs g (aI he hy) hf hQ;have hr:(execOp a.eval o).run P c.w= .ok (.value (.pointer (some ⟨c.w.heap.size,0,none⟩))) (c.w.alloc (.cells (a.eval x).cells t)):=by simp[execOp,ho,Instr.box,newVar,newRow]
 rw[hr];exact agc
theorem FQ{ρ:Env}{h:Heap}{o:Oper}{Q:AV→Heap→Prop}{t:TypeId}{p x:Operand}(hU:∀t,aQ P U t)(ho:o.op= .store t p x)(hk:bg P U ρ h o Q){a:Act}{n:Nat}(hs:Sub h c.h)(g:Good c)(he:cw c n ρ a):
  mH P c Q ((execOp a.eval o).run P c.w):=by
 simp only[bg,ho]at hk
 by_cases hun:isUnit (U t).k=true
 ·rw[if_pos hun]at hk
  obtain⟨i,i1,_,i3⟩:=(hU t).unit (vO hun);obtain⟨A,hA,hk⟩:=aJ hk;obtain⟨y,hy,hk2⟩:=aJ hk;obtain⟨rfl,hk2⟩:=hk2;split at hk2
  ·obtain⟨hu,_⟩:=(aI he hA).lO
   obtain⟨vs,hv,hn,_⟩:=(aI he hy).pQ;have hr:(execOp a.eval o).run P c.w= .ok .skip c.w:=by simp_all [execOp,Instr.storeAt,Instr.sureAddr,storeVar,sizeOf,typeInfo,Value.cells,storeCells]
   rw[hr];exact agF
  grind
 rw[if_neg hun]at hk;obtain⟨hz,hk⟩:=hk;obtain⟨A,hA,hk⟩:=aJ hk;obtain⟨y,hy,hk2⟩:=aJ hk;split at hk2
 ·rename_i id off
  split at hk2
  ·rename_i cs t' hid
   obtain⟨hf,hb,hQ⟩:=hk2;obtain⟨f1,f2,f3,f4⟩:=(aI he hy).fits hf;obtain⟨hu,_⟩:=(aI he hA).lO;obtain⟨h1,h2⟩:=jy (P:=P) (off:=off) (xs:=y.cells) (vs:=(a.eval x).cells.toList) (u:=undef) (X:=.v undef) hs g hid afv afu
    ajB (fun _ _=> .v _) hQ
   have hr:(execOp a.eval o).run P c.w= .ok .skip (c.w.setCells (c.φ id).block off (a.eval x).cells.toList):=by simp[execOp,ho,Instr.storeAt,hu,Instr.sureAddr,storeVar,bD hU hz,f1,h1]
   rw[hr];exact ajE
  grind
 grind
theorem Bg{ρ:Env}{h:Heap}{o:Oper}{Q:AV→Heap→Prop}{r:Option Operand}(hU:∀t,aQ P U t)(ho:o.op= .makeMap mt r)(hr:JE U ρ mt r)(hk:∀id,h id=none→Q (.mp id) (upd h id (some (.mp []))))
   {a:Act} {n:Nat} (hs:Sub h c.h) (g:Good c) (he:cw c n ρ a):mH P c Q ((execOp a.eval o).run P c.w):=by
 obtain⟨id,hid⟩:=g.fresh;have hfr:h id=none:=by exact akx
 have hrun:(execOp a.eval o).run P c.w= .ok (.value (.map (some c.w.heap.size))) (c.w.alloc (.map #[] 0)):=by
  cases r with
  |none=>simp[execOp,ho,Instr.makeMap]
  |some x=>obtain⟨⟨kt,e,hty⟩,hv⟩:=hr;have hd:=(hU mt).desc;rw[hty]at hd;obtain⟨A,hA,kk,m,rfl⟩:=aJ hv;simp[execOp,ho,Instr.makeMap,run_underlying hd,(aI he hA).bV,asInt,asIntOf]
 rw[hrun];refine⟨c.aB (.map #[] 0) id ⟨c.w.heap.size,0,none⟩ (.mp []),_,_,rfl,g.allocMap id hid,Ext.aB _ _ id _ _ rfl (.inl hid),?_,hs.upd id _,hk id hfr⟩;have:=Rep.mp (c:=c.aB (.map #[] 0) id ⟨c.w.heap.size,0,none⟩ (.mp [])) id [] ahQ;simpa[Cx.aB,ah]using this
theorem yc{ρ:Env}{h:Heap}{o:Oper}{Q:AV→Heap→Prop}{x y z:Operand}(hU:∀t,aQ P U t)(ho:o.op= .mapUpdate mt x y z)
  (hk:withv ρ x fun a=>withv ρ y fun b=>withv ρ z fun v=>match (U mt).k,a with
   |.map kt e,.mp id=>gY (U kt).k b∧match h id with
    |some (.mp m)=>(∀p∈m,gY (U kt).k p.1)∧Q (.v undef) (upd h id (some (.mp (Bc m b v))))
    |_=>False
   |_,_=>False)
   {a:Act} {n:Nat} (hs:Sub h c.h) (g:Good c) (he:cw c n ρ a):mH P c Q ((execOp a.eval o).run P c.w):=by
 obtain⟨A,hA,hk⟩:=aJ hk;obtain⟨b,hB,hk⟩:=aJ hk;obtain⟨v,hV,hk⟩:=aJ hk;have hd:=(hU mt).desc;split at hk
 ·rename_i kt e id hty hp' hp''
  clear hp' hp'';rw[hty]at hd;obtain⟨hb,hk⟩:=hk;split at hk
  ·rename_i m hid
   obtain⟨hm,hQ⟩:=hk;have hcid:=hs _ _ hid;obtain⟨hu,_⟩:=(aI he hA).HD;have hv:=EO hb (aI he hB);have hval:=aI he hV;obtain⟨es,cl,e1,e2,e3⟩:=g.mp id m hcid;obtain⟨K,l,hl⟩:=uA hU hb;have hchk:=K.check c.w false hl;have hg:=g.keys id m hcid;rcases Eo hU hb hm e2 (fun i h1 h2=>(e3 i h1 h2).1) c.w with⟨f1,f2⟩|⟨j,hj,hj',f1,f2⟩
   ·have hget:=getM_none hb hm f2
    have hset:Bc m b v=m++ [(b,v)]:=by grind [Bc]
    have hrun:(execOp a.eval o).run P c.w= .ok .skip (c.turn id (es.push {key:=jB b,val:=a.eval z,born:=cl}) (cl+1) (m++ [(b,v)])).w:=by
     simp[execOp,ho,hu,hv,Instr.mapUpdate,run_underlying hd,MapKept.run_getObj_map e1,hchk,f1,MapKept.run_setObj_map _ e1,Cx.turn]
     try rfl
    rw[hrun];rw[hset]at hQ;refine⟨c.turn id (es.push {key:=jB b,val:=a.eval z,born:=cl}) (cl+1) (m++ [(b,v)]),_,_,rfl,g.turn id _ es _ cl _ m hcid e1 afv (fun i h1 h2=>?_) ?_,Ext.turn id _ es _ cl _ m hcid e1,.v _,hs.upd id _,hQ⟩
    ·grind
    grind
   ·have hget:=C2 hb hm hg j hj f2
    have hset:Bc m b v=m.map (fun p=>if tu p.1 b then(p.1,v)else p):=by grind [Bc]
    have hst:=K.stays c.w hl;have hkey:es[j].key=jB b:=(e3 j hj hj').1.trans f2;have hrun:(execOp a.eval o).run P c.w= .ok .skip (c.turn id (es.modify j fun e=> {e with key:=jB b,val:=a.eval z}) cl (m.map (fun p=>if tu p.1 b then(p.1,v)else p))).w:=by
     simp[execOp,ho,hu,hv,Instr.mapUpdate,run_underlying hd,MapKept.run_getObj_map e1,hchk,f1,hj',hkey,hst,MapKept.run_setObj_map _ e1,Cx.turn]
     try rfl
    rw[hrun];rw[hset]at hQ;refine⟨c.turn id (es.modify j fun e=> {e with key:=jB b,val:=a.eval z}) cl (m.map (fun p=>if tu p.1 b then(p.1,v)else p)),_,_,rfl,g.turn id _ es _ cl _ m hcid e1 afv (fun i h1 h2=>?_) ?_,Ext.turn id _ es _ cl _ m hcid e1,.v _,hs.upd id _,hQ⟩
    ·have hi:i<m.length:=by grind
     have h3:i<es.size:=afu;rw[Array.getElem_modify,afk]
     by_cases hij:j=i
     ·subst hij
      have hke:tu m[j].1 b=true:=(rJ (hm _ (afo hj)) hb).2 f2;rw[if_pos rfl,if_pos hke];exact⟨f2.symm,hval⟩
     ·have hke:tu m[i].1 b=false:=by
       cases hh:tu m[i].1 b with
       |false=>rfl
       |true=>grind [rJ,afo,List.pairwise_iff_getElem,Nat.lt_or_gt_of_ne]
      rw[if_neg hij,if_neg afv];exact e3 i hi h3
    grind
  ·exact afR
 ·exact afR
theorem yb{ρ:Env}{h:Heap}{o:Oper}{Q:AV→Heap→Prop}{t:TypeId}{l m:Operand}(hU:∀t,aQ P U t)(ho:o.op= .makeSlice t l m)(hk:bg P U ρ h o Q){a:Act}{n:Nat}(hs:Sub h c.h)(g:Good c)(he:cw c n ρ a):
  mH P c Q ((execOp a.eval o).run P c.w):=by
 simp only[bg,ho]at hk;obtain⟨A,hA,hk⟩:=aJ hk;obtain⟨B,hB,hk2⟩:=aJ hk;clear hk;have hd:=(hU t).desc;split at hk2
 ·rename_i e k1 n1 k2 n2 hty
  rw[hty]at hd;obtain⟨rfl,h0,hlim,hbytes,hz,hf,hQ⟩:=hk2;obtain⟨i,i1,i2,i3,z,z1,z2,z3⟩:=(hU e).info hz;have hz0:(zeroValue e).run P c.w= .ok z c.w:=agz;obtain⟨f1,f2,f3,f4⟩:=(z3 c).fits hf;have hw:IntKind.i64.wrap n1=n1:=by grind [lim,IntWalk.i64_in]
  generalize hcells:(Array.range (n1.toNat*(U e).sz)).map (fun j=>(if n1.toNat*(U e).sz=0 then #[]else z.cells)[j % (if n1.toNat*(U e).sz=0 then #[]else z.cells).size]!)=cells
  have hr:(execOp a.eval o).run P c.w= .ok (.value (.slice (some ⟨c.w.heap.size,0,none⟩) n1.toNat n1.toNat)) (c.w.alloc (.cells cells e)):=by
   have hcap:¬(n1<0∨281474976710656<(U e).bytes*n1):=by grind
   have h00:¬(n1<0):=afu;have hcap' :¬(281474976710656<(U e).bytes*n1):=fun hh=>hcap (.inr hh)
   by_cases hn:n1.toNat*(U e).sz=0
   ·simp only[hn,if_true]at hcells
    simp[execOp,ho,(aI he hA).bV,(aI he hB).bV,Instr.makeSlice,run_underlying hd,asInt,asIntOf,typeInfo,i1,i3,hw,bD hU hz,newRow,hcap',h00,hn];simp at hcells;rw[←hcells]
   ·simp only[hn,if_false]at hcells
    simp[execOp,ho,(aI he hA).bV,(aI he hB).bV,Instr.makeSlice,run_underlying hd,asInt,asIntOf,typeInfo,i1,i3,hw,bD hU hz,newRow,hcap',h00,hn,hz0,hcells]
  rw[hr];obtain⟨id,hid⟩:=g.fresh;refine⟨c.aB (.cells cells e) id ⟨c.w.heap.size,0,none⟩ (.obj (cQ (U e).zero n1.toNat (U e).sz) e),_,_,rfl,?_,Ext.aB c _ id _ _ rfl (.inl hid),?_,hs.upd id _,hQ id (zl hs hid)⟩
  ·refine g.aB _ _ (0,0) id _ _ rfl (.inl hid) (fun cs t' hh=>?_) (fun n sz hh=>afB)
   cases hh;have hsz:cells.size=n1.toNat*(U e).sz:=afv;refine⟨rfl,rfl,by grind [cQ],fun j hj=>?_⟩
   have hj' :j<n1.toNat*(U e).sz:=by grind [cQ]
   have hmod:j % (U e).sz<(U e).sz:=Nat.mod_lt _ afu;have e1:(cQ (U e).zero n1.toNat (U e).sz)[j]=(U e).zero.cells[j % (U e).sz]'afu:=by grind [cQ]
   have e2:cells.getD j undef=z.cells.getD (j % (U e).sz) undef:=by rw[←hcells];have hne:¬(n1.toNat*(U e).sz=0):=afu;simp only[hne,if_false];have h9:j % (U e).sz<z.cells.size:=afu;simp[hj',z2];rw[getElem!_pos z.cells (j % (U e).sz) h9,Array.getElem?_eq_getElem h9];rfl
   rw[e1,e2];exact⟨f3 _ afu,f4 _ hmod⟩
  ·have r1:=Rep.oa (c:=c.aB (.cells cells e) id ⟨c.w.heap.size,0,none⟩ (.obj (cQ (U e).zero n1.toNat (U e).sz) e)) id 0 n1.toNat n1.toNat 0 (cQ (U e).zero n1.toNat (U e).sz) e
    ahQ (Nat.le_refl _) afu (fun _=>⟨rfl,by simp only[cQ,afj,List.length_range];have:=Nat.le_mul_of_pos_right n1.toNat (show 0<(U e).sz by omega);omega⟩)
   have r2:=Rep.ob (c:=c.aB (.cells cells e) id ⟨c.w.heap.size,0,none⟩ (.obj (cQ (U e).zero n1.toNat (U e).sz) e)) id 0 n1.toNat n1.toNat (U e).sz 0 (cQ (U e).zero n1.toNat (U e).sz) e
    ahQ (Nat.le_refl _) afu (fun _=>⟨rfl,by grind [cQ,afj,List.length_range]⟩)
   simp only[Cx.aB,ah]at r1 r2;unfold Wi;split
   ·simpa[Cx.aB,ah]using r1
   ·simpa[Cx.aB,ah]using r2
 ·exact hk2.elim
theorem HZ{h}{ts tx ty}{x y}{Q}(hU:∀t,aQ P U t)(hk:DA U h ts x y Q)(c)(u v)
  (hs:Sub h c.h) (g:Good c) (hx:Rep c x u) (hy:Rep c y v):
  ∃r w',(Builtin.copy_ #[ts,tx] ty #[u,v]).run P c.w= .ok r w'∧fm c Q r w' :=by
 unfold DA at hk;have hd:=(hU ts).desc;split at hk
 ·rename_i e hty
  rw[hty]at hd;split at hk
  ·rename_i id off len
   obtain⟨hz,hk⟩:=hk;obtain⟨ys,hk',hsrc⟩:=sd (P:=P) afu hk;clear hk;obtain⟨hsy,hna,hk⟩:=hk';split at hk
   ·rename_i cs t hid
    obtain⟨hle,hb,hQ⟩:=hk;rw[hz]at hsrc;obtain⟨hl,val,row,hlen,hfirst⟩:=hsrc c v hs g hy hsy;obtain⟨cap,o',rfl,h1,h2,h3,_⟩:=hx.qp;have hcells:∀i (hi:i<ys.length),ys[i].cells= [ys[i]]:=fun i hi=>by have hh:=hna _ (afo hi);generalize ys[i]=q at hh;cases q<;>simp[bB]at hh<;>rfl
    have hrow:∀i (hi:i<ys.length),Rep c ys[i] (val i 0):=fun i hi=>by have:=row.hr i hi 0 afv;simpa only[hcells i hi,List.getElem_singleton]using this
    have hget:∀j,j<ys.length→(cm 1 ys.length val).getD j undef=val j 0:=fun j hj=>by
     have:=ie (sz:=1) (n:=ys.length) (val:=val) hj (show 0<1 by omega)
     rw[Nat.mul_one,Nat.add_zero]at this;simp[List.getD,this]
    obtain⟨s1,s2⟩:=jy (P:=P) (off:=off) (xs:=ys) (vs:=cm 1 ys.length val) (u:=.int .i64 ys.length) (X:=.i ys.length) hs g hid (by simp[aX]) afu
     (fun j hj=>by rw[hget j hj];exact⟨hrow j hj,row.ho j 0 hj afu⟩) (fun _ _=> .v _) hQ
    refine⟨_,_,?_,s2⟩;have hmin:Nat.min ys.length len=ys.length:=afv
    by_cases h0:ys.length=0
    ·have e0:cm 1 ys.length val= []:=by grind [cm]
     rw[e0]at hfirst s1⊢;simp[Builtin.copy_,run_underlying hd,hlen,hmin,bD hU (show(U e).sz≠0 by omega),hz,hfirst,goInt,storeCells,World.setCells]
    ·obtain rfl:=h3 afu
     simp[Builtin.copy_,run_underlying hd,hlen,hmin,bD hU (show(U e).sz≠0 by omega),hz,hfirst,goInt,s1]
   ·exact afR
  ·rename_i id off len cap0 sz0
   obtain⟨hz,rfl,hk⟩:=hk;obtain⟨ys,hk',hsrc⟩:=sd (P:=P) hz hk;clear hk;obtain⟨hsy,hk⟩:=hk';split at hk
   ·rename_i cs t hid
    obtain⟨hle,hb,hQ⟩:=hk;obtain⟨v',hy',hfc,hlv⟩:=MZ (P:=P) len hy;obtain⟨hl,val,row,hlen,hfirst⟩:=hsrc c v' hs g hy' hsy;rw[hfc]at hfirst;obtain⟨m',hm1,hm2⟩:=hlv c.w _ (hlen c.w) hle;obtain⟨o',rfl,h1,h2,cs',t',h4,h5⟩:=hx.jM;obtain⟨hly,hry⟩:=row.flat afu;have hle2:ys.length*(U e).sz≤len*(U e).sz:=Nat.mul_le_mul_right _ hle;obtain⟨s1,s2⟩:=jy (P:=P) (off:=off) (xs:=au ys) (vs:=cm (U e).sz ys.length val) (u:=.int .i64 ys.length) (X:=.i ys.length) hs g hid (by grind [aX]) afu
     hry (fun _ _=> .v _) hQ
    refine⟨_,_,?_,s2⟩
    by_cases h0:ys.length=0
    ·have e0:cm (U e).sz ys.length val= []:=by grind [cm]
     rw[e0]at hfirst s1⊢;simp[Builtin.copy_,run_underlying hd,hm1,hm2,bD hU hz,hfirst,goInt,storeCells,World.setCells]
    ·obtain⟨rfl,_⟩:=h5 afu
     simp[Builtin.copy_,run_underlying hd,hm1,hm2,bD hU hz,hfirst,goInt,s1]
   ·exact afR
  ·exact afR
 ·exact afR
theorem HY{f:FuncId}{h:Heap}{Q:AV→Heap→Prop}{ys:List AV}(hf:ai P f ys h Q)(hs:Sub h c.h)(g:Good c)(h1:vs.size=ys.length)(h2:∀i (hi:i<ys.length),Rep c ys[i] (vs.getD i undef)):
  mH P c Q ((callFunc f vs).run P c.w):=by
 rcases hf c vs hs g h1 h2 with⟨hc,hcall⟩|⟨u,w',hr,hk⟩
 ·rw[rj hc]
  exact⟨rfl,hcall⟩
 ·rw[hr]
  exact hk
theorem wI{Q}{s}{r}(hr:s.run P c.w= .ok r w')(hc:fm c Q r w'):mH P c Q ((do pure (.value (←s)):Sem Next).run P c.w):=by simp only[Sem.run_bind,hr,Result.andThen_ok,Sem.run_pure];exact hc
theorem eV{ty e}(h:P.underlying ty=some (.slice e))(d)(a)(l k l' k')(w):(Op.equalIn (d+1) ty (.slice a l k) (.slice none l' k')).run P w= .ok a.isNone w:=by cases a<;>simp[Op.equalIn,run_underlying h]
theorem LS{ρ:Env}{h:Heap}{o:Oper}{Q:AV→Heap→Prop}{op:BinOp}{t t' :TypeId}{x y:Operand}(hU:∀t,aQ P U t)(ho:o.op= .binOp op t x y t')(hy:HH y=true)(hk:withv ρ x fun a=>Pn U h op t a Q)
   {a:Act} {n:Nat} (hs:Sub h c.h) (g:Good c) (he:cw c n ρ a):mH P c Q ((execOp a.eval o).run P c.w):=by
 obtain⟨A,hA,hk2⟩:=aJ hk;clear hk;obtain⟨l',k',rfl⟩:∃l' k',y= .const (.slice none l' k'):=by
  unfold HH at hy
  grind
 have hev:a.eval (.const (.slice none l' k'))= .slice none l' k' :=rfl;have hd:=(hU t).desc;have hgu:∀ad l k,(eqGuard op t x (.const (.slice none l' k')) (.slice ad l k) (.slice none l' k')).run P c.w= .ok () c.w:=fun ad l k=>ic _ _ _ _ _ _ _ rfl
 unfold Pn at hk2;split at hk2
 ·rename_i e xs p hty
  rw[hty]at hd;obtain⟨ad,cap,sz,val,hu,sl⟩:=(aI he hA).iX;have h1:(execOp a.eval o).run P c.w= .ok (.value (.bool ad.isNone)) c.w:=by simp_all [execOp,binOp,lP,eV]
  rw[h1];refine⟨c,_,h,rfl,g,.refl c,.v _,hs,hk2 _ fun hne=>?_⟩
  cases ad with
  |some q=>rfl
  |none=>have:=sl.h0 rfl;have:=sl.hc;have:=List.length_pos_iff.2 hne;omega
 ·rename_i e xs p hty
  rw[hty]at hd;obtain⟨ad,cap,sz,val,hu,sl⟩:=(aI he hA).iX;have h1:(execOp a.eval o).run P c.w= .ok (.value (.bool (!ad.isNone))) c.w:=by simp_all [execOp,binOp,lP,eV]
  rw[h1];refine⟨c,_,h,rfl,g,.refl c,.v _,hs,hk2 _ fun hne=>?_⟩
  cases ad with
  |some q=>rfl
  |none=>have:=sl.h0 rfl;have:=sl.hc;have:=List.length_pos_iff.2 hne;omega
 ·rename_i e id off len hty
  rw[hty]at hd;obtain⟨cap,o',hu,_⟩:=(aI he hA).qp;have h1:(execOp a.eval o).run P c.w= .ok (.value (.bool false)) c.w:=by simp_all [execOp,binOp,lP,eV]
  rw[h1];exact agF
 ·rename_i e id off len hty
  rw[hty]at hd;obtain⟨cap,o',hu,_⟩:=(aI he hA).qp;have h1:(execOp a.eval o).run P c.w= .ok (.value (.bool true)) c.w:=by simp_all [execOp,binOp,lP,eV]
  rw[h1];exact agF
 ·rename_i e id off len cap0 sz0 hty
  rw[hty]at hd;obtain⟨o',hu,_⟩:=(aI he hA).jM;have h1:(execOp a.eval o).run P c.w= .ok (.value (.bool false)) c.w:=by simp_all [execOp,binOp,lP,eV]
  rw[h1];exact agF
 ·rename_i e id off len cap0 sz0 hty
  rw[hty]at hd;obtain⟨o',hu,_⟩:=(aI he hA).jM;have h1:(execOp a.eval o).run P c.w= .ok (.value (.bool true)) c.w:=by simp_all [execOp,binOp,lP,eV]
  rw[h1];exact agF
 ·exact hk2.elim
theorem nU{ρ:Env}{h:Heap}{o:Oper}{Q:AV→Heap→Prop}(hU:∀t,aQ P U t)(hk:bg P U ρ h o Q){a:Act}{n:Nat}(hs:Sub h c.h)(g:Good c)(he:cw c n ρ a):
  mH P c Q ((execOp a.eval o).run P c.w):=by
 have hk0:=hk;unfold bg at hk;split at hk
 ·rename_i t ho
  split at hk
  ·rename_i hun
   obtain⟨i,i1,i2,_⟩:=(hU t).unit (vO hun);have hz0:(zeroValue t).run P c.w= .ok (.agg #[]) c.w:=agz;have:=qk (t:=t) (y:=.agg []) (u:=.agg #[]) (n:=0) hs g (.agg [] #[] rfl afB afB) rfl hk;have hr:(execOp a.eval o).run P c.w= .ok (.value (.pointer (some ⟨c.w.heap.size,0,none⟩))) (c.w.alloc (.cells (Value.agg #[]).cells t)):=by simp_all [execOp,Instr.alloc,newVar,newRow]
   rw[hr];exact agc
  ·exact FK (ρ:=ρ) hU ho hk.1 hk.2.1 hk.2.2 hs g
 ·rename_i t x ho
  exact LN ho hk.2 hs g he
 ·rename_i t p x ho
  exact FQ hU ho hk0 hs g he
 ·rename_i t l m ho
  exact yb hU ho hk0 hs g he
 ·rename_i t r ho
  exact Bg hU ho hk.1 hk.2 hs g he
 ·rename_i t x y z ho
  exact yc hU ho hk hs g he
 ·rename_i cl ho
  obtain⟨callee,args,ts⟩:=cl;simp only at hk;split at hk
  ·rename_i q
   obtain⟨y,hy,hk⟩:=aJ hk;split at hk
   ·rename_i f cap
    obtain⟨ys,hys,hk⟩:=fE hk;obtain⟨vs,hu,hn,hr⟩:=(aI he hy).GQ;obtain⟨h1,h2⟩:=ym he _ _ hys;have:(execOp a.eval o).run P c.w=(callFunc f (args.map a.eval++vs)).run P c.w:=by grind [execOp,resolve,Deferred.ofValue,invoke]
    rw[this];refine HY hk hs g afv fun i hi=>?_
    have hsz:(args.map a.eval).size=ys.length:=afv
    by_cases hlt:i<ys.length
    ·have e1:(ys++cap)[i]=ys[i]:=by grind
     have hlt' :i<args.size:=afv;have:=h2 i afu hlt;rw[e1];have e2:(args.map a.eval++vs).getD i undef=a.eval args.toList[i]:=by
      have h9:i<(args.map a.eval++vs).size:=afv;rw[Array.getD,dif_pos h9]
      show(args.map a.eval++vs)[i]=_
      grind
     rw[e2];exact agc
    ·have hi' :i<ys.length+cap.length:=by grind
     have e1:(ys++cap)[i]=cap[i - ys.length]:=afv;rw[e1];have e2:(args.map a.eval++vs).getD i undef=vs.getD (i - ys.length) undef:=by
      have h9:i<(args.map a.eval++vs).size:=afv;have h8:i - ys.length<vs.size:=afu;rw[Array.getD,dif_pos h9,Array.getD,dif_pos h8]
      show(args.map a.eval++vs)[i]=_
      rw[Array.getElem_append_right afu]
      simp_all
     rw[e2];exact hr _ afu
   ·exact afR
  ·split at hk
   ·rename_i x y t1 t2 hA hB
    obtain⟨A,hA',hk⟩:=aJ hk;obtain⟨B,hB',hk2⟩:=aJ hk;obtain⟨r,w',hr,hc⟩:∃r w',(Builtin.append_ #[t1,t2] o.type #[a.eval x,a.eval y]).run P c.w= .ok r w'∧fm c Q r w' :=by
     unfold apT at hk2;split at hk2
     ·rename_i ki hki
      exact JY hU hki hk2 c _ _ hs g (aI he hA') (aI he hB')
     ·exact alc
     ·exact alc
     grind
    rw[cq ho];have e1:args= #[x,y]:=afv;have e2:ts= #[t1,t2]:=afv;subst e1;subst e2
    exact wI afv hc
   ·exact afR
  ·split at hk
   ·rename_i x y t1 t2 hA hB
    obtain⟨A,hA',hk⟩:=aJ hk;obtain⟨B,hB',hk2⟩:=aJ hk;obtain⟨r,w',hr,hc⟩:=HZ (P:=P) (tx:=t2) (ty:=o.type) hU hk2 c _ _ hs g (aI he hA') (aI he hB');rw[cq ho];have e1:args= #[x,y]:=afv;have e2:ts= #[t1,t2]:=afv;subst e1;subst e2
    exact wI afv hc
   ·exact afR
  ·exact wC hU hk hs g he
 ·rename_i op ty x y t' ho
  split at hk
  ·rename_i hy
   exact LS hU ho hy hk hs g he
  ·exact wC hU afu hs g he
 ·exact wC hU hk hs g he
end
section
variable (P : Program) (U : TypeId → TI) (n : Nat)
def rB(all:List Oper)(g:Nat):Option Tmp:=(all[g]?).bind (·.dst)
def kD(all:List Oper)(ρ:Env)(gd:Option (Nat×Bool))(yes no:Env→Prop):Prop:=
 match gd with
 |none=>yes ρ
 |some (g,want)=>match rB all g with
  |some d=>match lk ρ d with
   |some (.v (.bool t))=>(t=want→yes ((d,.b want)::ρ))∧(t= !want→no ((d,.b (!want))::ρ))
   |some (.v (.tuple _))=>no ρ
   |_=>False
  |none=>False
def KOp(k:Env→Heap→Prop)(ρ:Env)(d:Option Tmp)(x:AV)(h:Heap):Prop:=k (put ρ d x) h
def lg(all:List Oper):List Oper→Env→Heap→(Env→Heap→Prop)→Prop
 | [],ρ,h,K=>K ρ h
 |o::os,ρ,h,K=>fk n o.dst=true∧kD all ρ o.guard
   (fun ρ=>bg P U ρ h o (KOp (fun ρ h=>lg all os ρ h K) ρ o.dst))
   (fun ρ=>lg all os (put ρ o.dst (.v undef)) h K)
def WPK(K:Exit→Env→Heap→Prop)(c0:Cx)(e:Exit)(a:Act)(w:World):Prop:=
 ∃c ρ h,c.w=w∧Good c∧Ext c0 c∧cw c n ρ a∧Sub h c.h∧K e ρ h
end
section
variable {P : Program} {U : TypeId → TI} {n : Nat}
theorem cw.learn{c}{ρ}{a}(h:cw c n ρ a){d}{t}(hd:lk ρ d=some (.b t)){b}(hb:t=b):cw c n ((d,.b b)::ρ) a:=by
 subst hb;refine⟨h.size,h.defers,fun t' x hx=>?_⟩
 simp only[lk]at hx;split at hx
 ·rename_i e;subst e
  cases hx;exact h.rep _ _ hd
 ·exact h.rep _ _ hx
theorem L2{c}{ρ}{a}(h:cw c n ρ a){d}{u}(hd:lk ρ d=some (.v u))(hu:u≠undef∨d<a.tmps.size):a.tmps[d]? =some u:=by
 have:=(h.rep d _ hd).bV
 by_cases hlt:d<a.tmps.size
 ·simpa[hlt]using this
 ·have e:a.tmps.getD d undef=undef:=by grind
  rw[e]at this;rcases hu with hu|hu
  ·exact(hu this.symm).elim
  ·exact(hlt hu).elim
theorem EA{all}{ρ}{o}{yes no}(hg:kD all ρ o.guard yes no){c}{a}(he:cw c n ρ a):
  ∃ρ',cw c n ρ' a∧((Region.wanted o (yielded all.toArray a.tmps)=true∧yes ρ')∨(Region.wanted o (yielded all.toArray a.tmps)=false∧no ρ')):=by
 unfold kD at hg;split at hg
 ·grind [Region.wanted]
 ·rename_i g want hgd
  split at hg
  ·rename_i d hd
   have hd' :(all[g]?).bind (·.dst)=some d:=hd
   split at hg
   ·rename_i t ht
    obtain⟨h1,h2⟩:=hg;have hy:yielded all.toArray a.tmps g=some t:=by
     have:=L2 he ht (by grind [undef])
     simp[yielded,hd',this]
    by_cases e:t=want
    ·exact⟨_,he.learn ht e,.inl ⟨by grind [Region.wanted],h1 e⟩⟩
    ·have e' :t= !want:=by cases t<;>cases want<;>simp_all
     exact⟨_,he.learn ht e',.inr ⟨by grind [Region.wanted],h2 e'⟩⟩
   ·rename_i vs ht
    refine⟨ρ,he,.inr ⟨?_,hg⟩⟩;have hy:yielded all.toArray a.tmps g=none:=by
     have:=(he.rep _ _ ht).bV
     by_cases hlt:d<a.tmps.size
     ·have e:a.tmps[d]? =some (.tuple vs):=by simp_all
      simp[yielded,hd',e]
     ·have e:a.tmps[d]? =none:=by grind
      simp[yielded,hd',e]
    simp[Region.wanted,hgd,hy]
   ·exact hg.elim
  grind
theorem WPK.after{K}{c0 c1}(he:Ext c0 c1){e}{a}{w}(h:WPK n K c1 e a w):WPK n K c0 e a w:=by obtain⟨c,ρ,hh,h1,h2,h3,h4⟩:=h;exact⟨c,ρ,hh,h1,h2,he.trans h3,h4⟩
theorem sn(hU:∀t,aQ P U t){all}{K}(c0):∀(l:List Oper) (ρ:Env) (h:Heap),lg P U n all l ρ h (K .normal)→
  ∀c a,Ext c0 c→Sub h c.h→Good c→cw c n ρ a→wpList P all.toArray (WPK n K c0) l a c.w
 | [],ρ,h,hk,c,a,hE,hs,g,he=>⟨c,ρ,h,rfl,g,hE,he,hs,hk⟩
 |o::os,ρ,h,hk,c,a,hE,hs,g,he=>by
  obtain⟨hd,hk⟩:=hk;obtain⟨ρ',he',hk⟩:=EA hk he;unfold wpList;rcases hk with⟨hw,hk⟩|⟨hw,hk⟩
  ·rw[if_pos hw]
   left
   have hu:=nU hU hk hs g he';have next:∀u w',fm c (KOp (fun ρ h=>lg P U n all os ρ h (K .normal)) ρ' o.dst) u w'→wpList P all.toArray (WPK n K c0) os (a.put o.dst u) w' :=by
    rintro u w' ⟨c',x,h',rfl,g',hE',hr,hs',hK⟩
    exact sn hU c0 os _ h' hK c' _ (hE.trans hE') hs' g' ((he'.mono hE').put hd hr)
   unfold Oper.wp;generalize (execOp a.eval o).run P c.w=r at hu;cases r with
   |ok nx w' =>exact aj1
   |halt x w' =>exact hu.elim
  ·rw[if_neg afv]
   exact sn hU c0 os _ h hk c _ hE hs g (he'.put hd (.v _))
end
section
variable {P : Program} {U : TypeId → TI}
theorem Ej{ρ ρ'}{x}(h:∀t,x= .tmp t→lk ρ t=lk ρ' t):ev ρ x=ev ρ' x:=by
 cases x with
 |tmp t=>exact h t rfl
 |_=>rfl
theorem mZ{ρ ρ'}:∀ {xs:List Operand},(∀x∈xs,ev ρ x=ev ρ' x)→evs ρ xs=evs ρ' xs
 | [],_=>rfl
 |x::r,h=>by simp only[evs];rw[h x afB,mZ fun y hy=>h y afv]
theorem tG{ρ ρ'}{x}{d}{k}(h:∀y,x=some y→ev ρ y=ev ρ' y):eU ρ x d k=eU ρ' x d k:=by
 cases x with
 |none=>rfl
 |some y=>simp only[eU,withv,h y rfl]
theorem vl{ρ ρ'}{fs}{k}:∀ {ps:List (Nat×Operand)} {cs:List AV},(∀p∈ps,ev ρ p.2=ev ρ' p.2)→withps U ρ fs ps cs k=withps U ρ' fs ps cs k
 | [],_,_=>rfl
 |(i,x)::r,cs,h=>by
  simp only[withps,withv];have h1:ev ρ x=ev ρ' x:=ajB;rw[h1];have h2:∀cs',withps U ρ fs r cs' k=withps U ρ' fs r cs' k:=fun cs' =>vl fun p hp=>h p afv
  simp only[h2]
theorem Ly{ρ ρ'}{hp}{b}{args}{ts}{k}(h:∀x∈args,ev ρ x=ev ρ' x):pvB U ρ hp b args ts k=pvB U ρ' hp b args ts k:=by
 cases b<;>simp only[pvB,withvs,mZ h]
 ·grind [withv]
 grind [withv]
theorem A8{ρ ρ'}{ty}{y}{lo hi mx}{k}(h1:∀x,lo=some x→ev ρ x=ev ρ' x)(h2:∀x,hi=some x→ev ρ x=ev ρ' x)(h3:∀x,mx=some x→ev ρ x=ev ρ' x):
  sC U ρ ty y lo hi mx k=sC U ρ' ty y lo hi mx k:=by
 have e1:∀d (k:Int→Prop),eU ρ lo d k=eU ρ' lo d k:=fun d k=>tG h1
 have e2:∀d (k:Int→Prop),eU ρ hi d k=eU ρ' hi d k:=fun d k=>tG h2
 cases mx with
 |none=>simp only[sC,e1,e2]
 |some m=>
  have e3:∀d (k:Int→Prop),eU ρ (some m) d k=eU ρ' (some m) d k:=fun d k=>tG h3
  simp only[sC,e1,e2,e3]
theorem Ft{ρ ρ'}{h}{op}{k}(he:∀x∈op.operands,ev ρ x=ev ρ' x):pv U ρ h op k=pv U ρ' h op k:=by
 cases op<;>simp only[pv]
 case move x=>grind [withv,Op.operands]
 case assign x=>grind [withv,Op.operands]
 case pick c a b=>simp_all [withv,Op.operands]
 case nilCheck x=>grind [withv,Op.operands]
 case binOp op ty x y ty' =>grind [withv,Op.operands]
 case unOp op ty x=>grind [withv,Op.operands]
 case convert s d x=>grind [withv,Op.operands]
 case field ty x f=>grind [withv,Op.operands]
 case extract x i=>grind [withv,Op.operands]
 case index ty x y=>grind [withv,Op.operands]
 case fieldAddr ty x f=>grind [withv,Op.operands]
 case indexAddr ty x y=>grind [withv,Op.operands]
 case load ty x=>grind [withv,Op.operands]
 case slice ty x lo hi mx=>
  simp only[withv,he x agT]
  grind [A8,Op.operands]
 case lookup mt x y ok=>grind [withv,Op.operands]
 case buildSlice ty n ps=>grind [evs,mZ,Op.operands,withvs]
 case build ty ps=>
  have:∀fs cs (k:List AV→Prop),withps U ρ fs ps.toList cs k=withps U ρ' fs ps.toList cs k:=fun fs cs k=>vl fun p hp=>he p.2 (by simp only[Op.operands,List.mem_toArray,List.mem_map];grind)
  simp only[this]
 case makeInterface ty x=>grind [withv,Op.operands]
 case makeFunc fn first cap=>grind [evs,mZ,Op.operands,withvs]
 grind [builtin,Ly,Op.operands,Call.operands]
def restrict(ρ:Env)(S:List Nat):Env:=ρ.filter fun p=>S.contains p.1
theorem l9(S)(t):∀ρ:Env,lk (restrict ρ S) t=if S.contains t then lk ρ t else none
 | []=>by simp[restrict,lk]
 |(k,x)::r=>by
  have ih:=l9 S t r;simp only[restrict,List.filter_cons]at ih⊢
  by_cases hk:S.contains k=true
  ·rw[if_pos hk]
   simp only[lk]
   by_cases e:k=t
   ·subst e;rw[if_pos rfl,if_pos hk,if_pos rfl]
   ·rw[if_neg e,if_neg e];exact ih
  ·rw[if_neg hk]
   rw[ih]
   by_cases e:k=t
   ·subst e
    simp only[hk];rfl
   ·simp only[lk,if_neg e]
def fy(op:Op):List Nat:=op.operands.toList.filterMap fun|.tmp t=>some t|_=>none
abbrev EF:=Nat→Option AV
def DUpon(P:Program)(c:Cx)(h:Heap)(X:AV):Result Next→Prop
 |.ok (.value u) w' =>∃c',c'.w=w'∧Good c'∧Ext c c'∧Sub h c'.h∧Rep c' X u
 |.ok .skip w' =>∃c',c'.w=w'∧Good c'∧Ext c c'∧Sub h c'.h∧Rep c' X undef
 |.ok (.enter f args) w' =>w' =c.w∧Calls P f args w' fun e w'' =>∃u,e= .returned u∧∃c',c'.w=w''∧Good c'∧Ext c c'∧Sub h c'.h∧Rep c' X u
 |_=>False
def DOK(P:Program)(o:Oper)(F:EF)(h:Heap)(X:AV):Prop:=
 ∀(c:Cx) (a:Act),Sub h c.h→Good c→a.defers= []→(∀t∈fy o.op,∀x,F t=some x→Rep c x (a.tmps.getD t undef))→DUpon P c h X ((execOp a.eval o).run P c.w)
def jk(P:Program)(U:TypeId→TI)(ρ:Env)(h:Heap)(o:Oper)(Q:AV→Prop):Prop:=
 match o.op with
 |.call c=>match c.callee with
  |.value q=>withv ρ q fun y=>match y with
   |.fn f cap=>withvs ρ c.args.toList fun ys=>∃X,ai P f (ys++cap) h (fun x h' =>x=X∧h' =h)∧Q X
   |_=>False
  |_=>pv U ρ h o.op Q
 |_=>pv U ρ h o.op Q
theorem Iv{ρ}{h}{o}{Q}(hU:∀t,aQ P U t)(hk:jk P U ρ h o Q):∃X,Q X∧DOK P o (lk ρ) h X:=by
 have hev:∀x∈o.op.operands,ev (restrict ρ (fy o.op)) x=ev ρ x:=fun x hx=>Ej fun t ht=>by exact ald
 have henv:∀ {c:Cx} {a:Act},a.defers= []→(∀t∈fy o.op,∀x,lk ρ t=some x→Rep c x (a.tmps.getD t undef))→cw c a.tmps.size (restrict ρ (fy o.op)) a:=fun hd hr=>
  ⟨rfl,hd,fun t x hx=>by
   rw[l9]at hx;split at hx
   ·rename_i hc
    exact hr t afv x hx
   ·cases hx⟩
 have pure:pv U ρ h o.op Q→∃X,Q X∧DOK P o (lk ρ) h X:=fun hp=>by
  rw[←Ft hev]at hp;obtain⟨X,hQ,hX⟩:=Ae hU hp;refine⟨X,hQ,fun c a hs g hd hr=>?_⟩
  obtain⟨u,c',h1,h2,h3,h4,h5⟩:=hX c a _ hs g (henv hd hr);rw[h1];exact⟨c',rfl,h2,h3,afv,h5⟩
 unfold jk at hk;split at hk
 ·rename_i cl ho
  obtain⟨callee,args,ts⟩:=cl;simp only at hk;split at hk
  ·rename_i q
   obtain⟨y,hy,hk⟩:=aJ hk;split at hk
   ·rename_i f cap
    obtain⟨ys,hys,X,hf,hQ⟩:=fE hk;refine⟨X,hQ,fun c a hs g hd hr=>?_⟩
    have he:=henv hd hr;have hvc:bg P U (restrict ρ (fy o.op)) h o (fun x h' =>x=X∧h' =h):=by
     have e1:ev (restrict ρ (fy o.op)) q=some (.fn f cap):=by grind [Op.operands,Call.operands]
     have e2:evs (restrict ρ (fy o.op)) args.toList=some ys:=by grind [mZ,Op.operands,Call.operands]
     simp only[bg,ho];simp only[ho]at e1 e2;simp only[withv,e1,withvs,e2];exact hf
    have hu:=nU hU hvc hs g he;generalize (execOp a.eval o).run P c.w=r at hu;have conv:∀u w',fm c (fun x h' =>x=X∧h' =h) u w'→∃c',c'.w=w'∧Good c'∧Ext c c'∧Sub h c'.h∧Rep c' X u:=by
     rintro u w' ⟨c',x,h',h1,h2,h3,h4,h5,rfl,rfl⟩
     grind
    cases r with
    |ok nx w' =>
     cases nx<;>simp only[mH]at hu<;>simp only[DUpon]
     case value u=>exact conv _ _ hu
     case skip=>exact conv _ _ hu
     case enter f args=>exact⟨hu.1,hu.2.mono fun e w'' ⟨u,he,hc⟩=>⟨u,he,conv _ _ hc⟩⟩
    |halt x w' =>exact hu.elim
   ·exact afR
  ·exact pure hk
 ·exact pure hk
end
section
variable {F F':EF}{j:Nat}{oi:Oper}{listed:Array Bool}{E:Array Bool→Prop}{c c0:Cx}
variable {P : Program} {U : TypeId → TI} {ops : Array Oper} {md : Region.Mode} {h : Heap}
def iu(F:EF):Option Tmp→AV→EF
 |some d,x=>upd F d (some x)
 |none,_=>F
theorem tD(ρ)(d)(x):lk (put ρ d x)=iu (lk ρ) d x:=by
 cases d with
 |none=>rfl
 |some d=>
  funext t
  simp only[put,lk,iu,upd]
  grind
def cL(ops:Array Oper)(F:EF)(o:Oper):Option Bool:=
 match o.guard with
 |none=>some true
 |some (g,want)=>match (ops[g]?).bind (·.dst)with
  |some d=>match F d with
   |some (.v (.bool t))=>some (t==want)
   |some (.v (.tuple _))=>some false
   |_=>none
  |none=>none
def wP(P:Program)(ops:Array Oper)(h:Heap)(o:Oper)(K:EF→Prop)(F:EF):Prop:=
 (cL ops F o=some true∧∃X,DOK P o F h X∧K (iu F o.dst X))∨(cL ops F o=some false∧K (iu F o.dst (.v undef)))
def dOp(P:Program)(ops:Array Oper)(h:Heap)(i:Nat)(K:EF→Prop)(F:EF):Prop:=
 match ops[i]? with
 |none=>K F
 |some o=>wP P ops h o K F
def dList(P:Program)(ops:Array Oper)(h:Heap)(Q:EF→Prop):List Oper→EF→Prop
 | [],F=>Q F
 |o::r,F=>wP P ops h o (dList P ops h Q r) F
theorem Gy{o}{K K'}(hk:∀F,K F→K' F)(hs:wP P ops h o K F):wP P ops h o K' F:=by
 rcases hs with⟨h1,X,h2,h3⟩|⟨h1,h2⟩
 ·exact .inl ⟨h1,X,h2,hk _ h3⟩
 ·exact .inr ⟨h1,hk _ h2⟩
theorem D6{i}{K K'}(hk:∀F,K F→K' F)(hs:dOp P ops h i K F):dOp P ops h i K' F:=by grind [dOp,Gy]
def YD(P:Program)(ops:Array Oper)(h:Heap)(o:Oper)(X:AV)(F:EF):Prop:=
 (cL ops F o=some true∧DOK P o F h X)∨(cL ops F o=some false∧X= .v undef)
theorem D7{o}{X}{K}(hy:YD P ops h o X F)(hk:K (iu F o.dst X)):wP P ops h o K F:=by
 rcases hy with⟨h1,h2⟩|⟨h1,rfl⟩
 ·exact .inl ⟨h1,X,h2,hk⟩
 ·exact .inr ⟨h1,hk⟩
theorem DJ{o}{K}(hs:wP P ops h o K F):∃X,YD P ops h o X F∧K (iu F o.dst X):=by
 rcases hs with⟨h1,X,h2,h3⟩|⟨h1,h2⟩
 ·exact⟨X,.inl ⟨h1,h2⟩,h3⟩
 ·exact⟨_,.inr ⟨h1,rfl⟩,h2⟩
theorem qu{d}{x}{t}(hd:∀e,d=some e→e≠t):iu F d x t=F t:=by
 cases d with
 |none=>rfl
 |some e=>exact ag _ _ afv
theorem nq(F){x y}(v u)(hd:∀d,x=some d→y≠some d):iu (iu F x v) y u=iu (iu F y u) x v:=by
 cases x with
 |none=>rfl
 |some d=>cases y with
  |none=>rfl
  |some e=>
   funext t
   simp only[iu,upd]
   grind
theorem Bo{o}{X}(hf:∀t∈fy o.op,F t=F' t)(hd:DOK P o F h X):DOK P o F' h X:=
 fun c a hs g hdf hr=>hd c a hs g hdf fun t ht x hx=>hr t ht x afv
theorem mg{o:Oper}{t:Nat}(ht:t∈fy o.op):t∈o.looksAt ops:=by simp only[Oper.looksAt,List.mem_append];exact .inl ht
theorem eN{o}(hf:∀t∈o.looksAt ops,F t=F' t):cL ops F o=cL ops F' o:=by grind [cL,Oper.looksAt]
theorem DI{o}{X}(hf:∀t∈o.looksAt ops,F t=F' t)(hy:YD P ops h o X F):YD P ops h o X F' :=by
 rcases hy with⟨h1,h2⟩|⟨h1,h2⟩
 ·exact .inl ⟨aiS,Bo (by grind [mg]) h2⟩
 ·exact .inr ⟨aiS,h2⟩
theorem Qf{oj}{X}(hj:ops[j]? =some oj)(hap:oi.apart ops oj=true){K}
  (hy:YD P ops h oi X F) (hs:dOp P ops h j K (iu F oi.dst X)):dOp P ops h j (fun F' =>YD P ops h oi X F'∧K (iu F' oi.dst X)) F:=by
 obtain⟨h1,h2,h3⟩:=Oper.apart_spec hap;unfold dOp at*;simp only[hj]at*;have hlook:∀t∈oj.looksAt ops,iu F oi.dst X t=F t:=fun t ht=>qu fun e he hte=>h1 e he (hte▸ht)
 have hlook2:∀u,∀t∈oi.looksAt ops,F t=iu F oj.dst u t:=fun u t ht=>(qu fun e he hte=>h3 e he (hte▸ht)).symm
 rcases hs with⟨w1,Y,w2,w3⟩|⟨w1,w2⟩
 ·refine .inl ⟨aiS,Y,Bo (by grind [mg]) w2,DI (hlook2 Y) hy,?_⟩
  rw[←nq F X Y h2];exact w3
 ·refine .inr ⟨aiS,DI (hlook2 _) hy,?_⟩
  rw[←nq F X _ h2];exact w2
theorem Kc{i}{X}{K}(hi:ops[i]? =some oi)(hy:YD P ops h oi X F)(hk:K (iu F oi.dst X)):dOp P ops h i K F:=by grind [dOp,D7]
structure Sys (ops:Array Oper) (S:Nat→(EF→Heap→Prop)→EF→Heap→Prop) (Y:Nat→AV→EF→Prop):Prop where
 mono:∀ {i:Nat} {F:EF} {h:Heap} {K K' :EF→Heap→Prop},(∀F h,K F h→K' F h)→S i K F h→S i K' F h
 of:∀ {i:Nat} {oi:Oper} {X:AV} {F:EF} {h:Heap} {K:EF→Heap→Prop},ops[i]? =some oi→Y i X F→K (iu F oi.dst X) h→S i K F h
 put:∀ {i j:Nat} {oi oj:Oper} {X:AV} {F:EF} {h:Heap} {K:EF→Heap→Prop},ops[i]? =some oi→ops[j]? =some oj→oi.apart ops oj=true→Y i X F→S j K (iu F oi.dst X) h→S j (fun F' h' =>Y i X F'∧K (iu F' oi.dst X) h') F h
def sP(md:Region.Mode)(ops:Array Oper)(S:Nat→(EF→Heap→Prop)→EF→Heap→Prop)(E:Array Bool→Prop)(Q:EF→Heap→Prop):Nat→Array Bool→EF→Heap→Prop
 |0,listed,F,h=>E listed∧Q F h
 |fuel+1,listed,F,h=>Region.ready md ops listed≠ []∧∀i∈Region.ready md ops listed,S i (sP md ops S E Q fuel (listed.setIfInBounds i true)) F h
def Closed(md:Region.Mode)(ops:Array Oper)(listed:Array Bool):Prop:=∀j oj,ops[j]? =some oj→listed.getD j false=true→∀e∈oj.after,Region.binds md e=true→listed.getD e.on false=true
def Ju(md:Region.Mode)(ops:Array Oper)(k:Nat):List Nat:=match ops[k]? with
 |some o=>(o.after.toList.filter (Region.binds md)).map (·.on)
 |none=>[]
def kg(md:Region.Mode)(ops:Array Oper)(s:List Nat):List Nat:=(List.range ops.size).filter fun k=>s.contains k||s.any fun j=>(Ju md ops j).contains k
def F5(md:Region.Mode)(ops:Array Oper)(z:Nat):Bool:=(List.range ops.size).all fun k=>(kg md ops (kg md ops (kg md ops [z]))).contains k
theorem fq{z:Nat}(hc:Closed md ops listed)(hz:z∈Region.ready md ops listed){s:List Nat}(hs:∀k∈s,k≠z→listed.getD k false=true):∀k∈kg md ops s,k≠z→listed.getD k false=true:=by
 intro k hk hkz;simp only[kg,List.mem_filter,Bool.or_eq_true,List.contains_iff_mem,List.any_eq_true]at hk;obtain⟨_,h1|⟨j,hj,hp⟩⟩:=hk
 ·grind
 ·unfold Ju at hp
  cases ho:ops[j]? with
  |none=>grind
  |some o=>
   rw[ho]at hp;simp only[List.mem_map,List.mem_filter]at hp;obtain⟨e,⟨he,hb⟩,rfl⟩:=hp
   by_cases hjz:j=z
   ·grind [mem_ready]
   ·exact hc j o ho (hs j hj hjz) e afv hb
theorem Mg{z:Nat}(hz:F5 md ops z=true)(hc:Closed md ops listed){i:Nat}(h1:z∈Region.ready md ops listed)(h2:i∈Region.ready md ops listed):i=z:=by
 obtain⟨hun,oi,hoi,_⟩:=mem_ready.1 h2;unfold F5 at hz;rw[List.all_eq_true]at hz;have hm:=hz i afv;rw[List.contains_iff_mem]at hm;have s0:∀k∈ [z],k≠z→listed.getD k false=true:=fun k hk hn=>absurd (by simpa using hk) hn
 have s3:=fq hc h1 (fq hc h1 (fq hc h1 s0))
 by_cases e:i=z
 ·exact e
 ·have:=s3 i hm e
  exfalso
  grind
theorem Closed.set(hc:Closed md ops listed)(hj:j∈Region.ready md ops listed):Closed md ops (listed.setIfInBounds j true):=by
 have up:∀k,listed.getD k false=true→(listed.setIfInBounds j true).getD k false=true:=fun k hk=>by
  by_cases e:j=k
  ·subst e
   rcases Nat.lt_or_ge j listed.size with h' |h'
   ·simp[h']
   grind
  simp_all
 intro k ok hk hl e he hb
 by_cases hkj:j=k
 ·grind [mem_ready]
 ·rw[getD_set_ne false hkj]at hl
  exact up _ (hc k ok hk hl e he hb)
theorem Closed.none(md)(ops)(m):Closed md ops (Array.replicate m false):=fun j oj _ hl=>by
 rcases Nat.lt_or_ge j m with h' |h'
 ·simp_all
 grind
def Ends(md:Region.Mode)(ops:Array Oper)(E:Array Bool→Prop)(i:Nat):Prop:=∀listed,Closed md ops listed→i∈Region.ready md ops listed→E (listed.setIfInBounds i true)→∀j∈Region.ready md ops listed,j=i
def GG(md:Region.Mode)(ops:Array Oper):Option Nat→Array Bool→Bool
 |none,l=>(Region.ready md ops l).isEmpty
 |some z,l=>Region.ready md ops l== [z] && (Region.ready md ops (l.setIfInBounds z true)).isEmpty
def yF(md:Region.Mode)(ops:Array Oper)(z:Option Nat)(l:Array Bool):Prop:=GG md ops z l=true
theorem y8{z}(hz:∀k,z=some k→F5 md ops k=true)(i):Ends md ops (yF md ops z) i:=fun listed hcl hr he j hj=>by
 by_cases e:j=i
 ·exact e
 have hm:=ready_mono hj e;cases z with
 |none=>simp only[yF,GG,List.isEmpty_iff]at he;rw[he]at hm;cases hm
 |some z=>simp only[yF,GG,Bool.and_eq_true,beq_iff_eq]at he;rw[he.1]at hm;obtain rfl:=List.mem_singleton.1 hm;exact(Mg (hz _ rfl) hcl hj hr).symm
theorem Sys.first{S:Nat→(EF→Heap→Prop)→EF→Heap→Prop}{Y:Nat→AV→EF→Prop}(s:Sys ops S Y){Q:EF→Heap→Prop}{i:Nat}{X:AV}(hi:ops[i]? =some oi)(hend:Ends md ops E i):
  ∀(fuel:Nat) (listed:Array Bool) (F:EF) (h:Heap),Closed md ops listed→Region.free md ops listed i=true→
   i∈Region.ready md ops listed→Y i X F→
   sP md ops S E Q fuel (listed.setIfInBounds i true) (iu F oi.dst X) h→sP md ops S E Q (fuel+1) listed F h:=by
 suffices go:∀(fuel:Nat) (listed:Array Bool) (F:EF) (h:Heap),Closed md ops listed→
   (∀j oj,ops[j]? =some oj→j≠i→listed.getD j true=false→(∀e∈oj.after,Region.binds md e=true→e.on≠i)→oi.apart ops oj=true)→
   i∈Region.ready md ops listed→Y i X F→
   sP md ops S E Q fuel (listed.setIfInBounds i true) (iu F oi.dst X) h→sP md ops S E Q (fuel+1) listed F h from
  fun fuel listed F h hcl hf=>go fuel listed F h hcl (Region.free_spec hi hf)
 intro fuel
 induction fuel with
 |zero=>
  intro listed F h hcl _ hr hy H;refine⟨fun e=>(by rw[e]at hr;cases hr),fun j hj=>?_⟩
  obtain rfl:=hend listed hcl hr H.1 j hj;exact s.of hi hy H
 |succ fuel ih=>
  intro listed F h hcl hfree hr hy H;refine⟨fun e=>(by rw[e]at hr;cases hr),fun j hj=>?_⟩
  by_cases hji:j=i
  ·subst hji;exact s.of hi hy H
  ·have h1:=H.2 j (ready_mono hj hji)
   obtain⟨hjun,oj,hoj,hall⟩:=mem_ready.1 hj;have hnot:∀e∈oj.after,Region.binds md e=true→e.on≠i:=fun e he hb heq=>by grind [mem_ready,Nat.lt_or_ge,Array.getElem?_eq_none]
   refine s.mono (fun F' h' h3=>ih (listed.setIfInBounds j true) F' h' (hcl.set hj) (fun k ok hk hki hun hno=>hfree k ok hk hki ?_ hno) (ready_mono hr (Ne.symm hji)) h3.1 ?_) (s.put hi hoj (hfree j oj hoj hji hjun hnot) hy h1)
   ·by_cases hjk:j=k
    ·grind
    simp_all
   ·rw[Array.setIfInBounds_comm _ _ hji]
    exact h3.2
def dS(P:Program)(ops:Array Oper)(h:Heap)(i:Nat)(K:EF→Heap→Prop)(F:EF)(g:Heap):Prop:=dOp P ops h i (fun F=>K F g) F
theorem ZF:Sys ops (dS P ops h) fun i X F=>∃oi,ops[i]? =some oi∧YD P ops h oi X F where
 mono hk hs:=D6 (fun F=>hk F _) hs
 of hi:=fun⟨o,ho,hy⟩ hk=>by rw[hi]at ho;cases ho;exact Kc hi hy hk
 put hi hj ha:=fun⟨o,ho,hy⟩ hs=>by
  rw[hi]at ho;cases ho
  exact D6 (fun F' ⟨a,b⟩=>⟨⟨_,hi,a⟩,b⟩) (Qf hj ha hy hs)
def NX(md:Region.Mode)(ops:Array Oper)(z:Option Nat):Nat→Nat→Array Bool→Bool
 |0,_,listed=>GG md ops z listed
 |fuel+1,k,listed=>(Region.ready md ops listed).contains k && Region.free md ops listed k && NX md ops z fuel (k+1) (listed.setIfInBounds k true)
theorem yW{Q:EF→Prop}{z:Option Nat}(hz:∀k,z=some k→F5 md ops k=true):∀(l:List Oper) (k:Nat) (listed:Array Bool) (F:EF) (g:Heap),Closed md ops listed→(∀j,j<l.length→l[j]? =ops[k+j]?)→
  NX md ops z l.length k listed=true→dList P ops h Q l F→sP md ops (dS P ops h) (yF md ops z) (fun F _=>Q F) l.length listed F g
 | [],_,_,_,_,_,_,hB,hd=>⟨hB,hd⟩
 |o::l,k,listed,F,g,hcl,hl,hB,hd=>by
  have h0:ops[k]? =some o:=by simpa using(hl 0 afB).symm
  simp only[List.length_cons,NX,Bool.and_eq_true]at hB;obtain⟨⟨hr,hf⟩,hB'⟩:=hB;obtain⟨X,hy,hK⟩:=DJ hd;have hin:k∈Region.ready md ops listed:=afv;exact ZF.first h0 (y8 hz k) l.length listed F g hcl hf hin ⟨o,h0,hy⟩
   (yW hz l (k+1) _ _ g (hcl.set hin) (fun j hj=>by have:=hl (j+1) afv;simpa[Nat.add_assoc,Nat.add_comm 1 j]using this) hB' hK)
def nw(c:Cx)(n:Nat)(F:EF)(a:Act):Prop:=a.tmps.size=n∧a.defers= []∧∀t x,F t=some x→Rep c x (a.tmps.getD t undef)
theorem nw.put{n}{a}(he:nw c n F a){d}(hd:fk n d=true){x}{u}(hx:Rep c x u):nw c n (iu F d x) (a.put d u):=by
 obtain⟨h1,h2,h3⟩:=he;cases d with
 |none=>exact⟨h1,h2,h3⟩
 |some d=>
  have hd' :d<a.tmps.size:=by rw[h1];exact afl hd
  refine⟨by grind [Act.put],h2,fun t y hy=>?_⟩
  simp only[iu,upd]at hy;split at hy
  ·exact aln
  ·rename_i e
   have:=h3 t y hy;have e' :¬d=t:=fun h=>e h.symm
   simpa[Act.put,Array.getElem?_setIfInBounds_ne e']using this
theorem nw.mono{c'}{n}{a}(he:Ext c c')(hf:nw c n F a):nw c' n F a:=⟨hf.1,hf.2.1,fun t x hx=>(hf.2.2 t x hx).mono he⟩
theorem kV{n}{a}{o}{b}(he:nw c n F a)(hw:cL ops F o=some b):Region.wanted o (yielded ops a.tmps)=b:=by
 unfold cL at hw;split at hw
 ·grind [Option.some.injEq,Region.wanted]
 ·rename_i g want hg
  split at hw
  ·rename_i d hd
   split at hw
   ·rename_i t ht
    simp only[Option.some.injEq]at hw;subst hw
    have h1:=(he.2.2 d _ ht).bV;have h2:a.tmps[d]? =some (.bool t):=by
     by_cases hlt:d<a.tmps.size
     ·simp_all
     grind [undef,Nat.le_of_not_lt]
    have h3:yielded ops a.tmps g=some t:=by grind [yielded]
    simp[Region.wanted,hg,h3]
   ·rename_i vs ht
    simp only[Option.some.injEq]at hw;subst hw
    have h1:=(he.2.2 d _ ht).bV;have h3:yielded ops a.tmps g=none:=by
     by_cases hlt:d<a.tmps.size
     ·simp_all [some,yielded]
     simp_all [none,Nat.le_of_not_lt,yielded]
    simp[Region.wanted,hg,h3]
   grind
  grind
theorem Ke{n:Nat}{i:Nat}{K:EF→Prop}{K' :Act→World→Prop}{Q:Exit→Act→World→Prop}(hdst:∀o∈ops.toList,fk n o.dst=true)
  (hk:∀c F a,Ext c0 c→Sub h c.h→Good c→nw c n F a→K F→K' a c.w)   {a:Act} (hE:Ext c0 c) (hs:Sub h c.h) (g:Good c) (he:nw c n F a) (hd:dOp P ops h i K F):wpOp P ops Q i K' a c.w:=by
 unfold dOp at hd;unfold wpOp;split
 ·rename_i ho;simp only[ho]at hd;exact hk c F a hE hs g he hd
 ·rename_i o ho
  simp only[ho]at hd;have hdo:fk n o.dst=true:=afv;rcases hd with⟨h1,X,h2,h3⟩|⟨h1,h2⟩
  ·rw[if_pos (kV he h1)]
   left
   have hu:=h2 c a hs g he.2.1 (fun t _ x hx=>he.2.2 t x hx)
   have next:∀u w',(∃c',c'.w=w'∧Good c'∧Ext c c'∧Sub h c'.h∧Rep c' X u)→K' (a.put o.dst u) w' :=by
    rintro u w' ⟨c',rfl,k1,k2,k3,k4⟩
    exact hk c' _ _ (hE.trans k2) k3 k1 ((he.mono k2).put hdo k4) h3
   unfold Oper.wp;generalize (execOp a.eval o).run P c.w=r at hu;cases r with
   |ok nx w' =>
    cases nx<;>simp only[DUpon]at hu<;>simp only[Oper.upon]
    case value u=>exact next u w' hu
    case skip=>exact next undef w' hu
    case enter f args=>obtain⟨rfl,hc⟩:=hu;exact hc.mono fun e w'' ⟨u,he,hcm⟩=>afv
   |halt x w' =>exact hu.elim
  ·rw[if_neg (by grind [kV])]
   exact hk c _ _ hE hs g (he.put hdo (.v _)) h2
theorem qb{S:Nat→(EF→Heap→Prop)→EF→Heap→Prop}{E:Array Bool→Prop}{Q:EF→Heap→Prop}{Q' :Exit→Act→World→Prop}{T:Array Bool→Cx→EF→Heap→Act→Prop}{m:Nat}
  (hst:∀listed i K c F h a (K' :Act→World→Prop),T listed c F h a→i∈Region.ready md ops listed→S i K F h→(∀c F h a,T (listed.setIfInBounds i true) c F h a→K F h→K' a c.w)→wpOp P ops Q' i K' a c.w)
  (h0:∀listed c F h a,T listed c F h a→E listed→Q F h→wpAny P md ops Q' m listed a c.w):∀(fuel:Nat) (listed:Array Bool) (c:Cx) (F:EF) (h:Heap) (a:Act),T listed c F h a→sP md ops S E Q fuel listed F h→wpAny P md ops Q' (m+fuel) listed a c.w
 |0,listed,c,F,h,a,ht,hd=>h0 _ _ _ _ _ ht hd.1 hd.2
 |fuel+1,listed,c,F,h,a,ht,hd=>⟨fun e=>absurd e hd.1,fun i hi=>hst _ _ _ _ _ _ _ _ ht hi (hd.2 i hi) fun c F h a ht hk=>qb hst h0 fuel _ c F h a ht hk⟩
theorem yX{n m:Nat}{Q:EF→Heap→Prop}{Q' :Exit→Act→World→Prop}(hdst:∀o∈ops.toList,fk n o.dst=true)
  (h0:∀listed c F g a,Ext c0 c→Sub h c.h→Good c→nw c n F a→E listed→Q F g→wpAny P md ops Q' m listed a c.w) (fuel:Nat) (listed:Array Bool) (c:Cx) (F:EF) (g:Heap) (a:Act) (h1:Ext c0 c) (h2:Sub h c.h) (h3:Good c) (h4:nw c n F a)
  (hd:sP md ops (dS P ops h) E Q fuel listed F g):wpAny P md ops Q' (m+fuel) listed a c.w:=
 qb (T:=fun _ c F _ a=>Ext c0 c∧Sub h c.h∧Good c∧nw c n F a) (fun _ _ _ _ _ _ _ _ ⟨h1,h2,h3,h4⟩ _ hd hk=>Ke hdst (fun c F a k1 k2 k3 k4 hK=>hk c F _ a ⟨k1,k2,k3,k4⟩ hK) h1 h2 h3 h4 hd)
  (fun listed c F g a ⟨k1,k2,k3,k4⟩ he hq=>h0 listed c F g a k1 k2 k3 k4 he hq) fuel listed c F g a ⟨h1,h2,h3,h4⟩ hd
end
section
variable {c c0:Cx}{F F':EF}{j m:Nat}{oi:Oper}{E:Array Bool→Prop}
variable {P : Program} {U : TypeId → TI} {ops : Array Oper} {md : Region.Mode} {hm : Heap}
def dR:Op→Bool
 |.call c=>match c.callee with
  |.value _=>true
  |.builtin .append=>true
  |.builtin .copy=>true
  |_=>false
 |.alloc _=>true
 |.box _ _=>true
 |.store _ _ _=>true
 |.makeSlice _ _ _=>true
 |.makeMap _ _=>true
 |.mapUpdate _ _ _ _=>true
 |_=>false
def DPure(P:Program)(o:Oper)(F:EF)(hm:Heap)(X:AV):Prop:=
 ∀(c:Cx) (a:Act),Sub hm c.h→Good c→a.defers= []→(∀t∈fy o.op,∀x,F t=some x→Rep c x (a.tmps.getD t undef))→
  ∃u c',(execOp a.eval o).run P c.w= .ok (.value u) c'.w∧Good c'∧Ext c c'∧c'.h=c.h∧Rep c' X u
def EOK(P:Program)(o:Oper)(F:EF)(h:Heap)(Q:AV→Heap→Prop):Prop:=
 ∀(c:Cx) (a:Act),Sub h c.h→Good c→a.defers= []→(∀t∈fy o.op,∀x,F t=some x→Rep c x (a.tmps.getD t undef))→mH P c Q ((execOp a.eval o).run P c.w)
theorem uk{a:Act}{ρ:Env}{o:Oper}(hd:a.defers= [])(hr:∀t∈fy o.op,∀x,lk ρ t=some x→Rep c x (a.tmps.getD t undef)):cw c a.tmps.size (restrict ρ (fy o.op)) a:=
 ⟨rfl,hd,fun t x hx=>by
  rw[l9]at hx;split at hx
  ·rename_i hc
   exact hr t afv x hx
  ·cases hx⟩
theorem wU(ρ:Env)(o:Oper):∀x∈o.op.operands,ev (restrict ρ (fy o.op)) x=ev ρ x:=fun x hx=>Ej fun t ht=>by exact ald
theorem HO{ρ:Env}{o:Oper}{Q:AV→Prop}(hU:∀t,aQ P U t)(hp:pv U ρ hm o.op Q):∃X,Q X∧DPure P o (lk ρ) hm X:=by rw[←Ft (wU ρ o)]at hp;obtain⟨X,hQ,hX⟩:=Ae hU hp;exact⟨X,hQ,fun c a hs g hd hr=>hX c a _ hs g (uk hd hr)⟩
theorem F1{ρ ρ'}{h}{o}{Q}(hb:dR o.op=true)(he:∀x∈o.op.operands,ev ρ x=ev ρ' x):bg P U ρ h o Q=bg P U ρ' h o Q:=by
 obtain⟨d,op,t,p,a,g⟩:=o;simp only at hb he;cases op with
 |alloc t=>rfl
 |box t x=>simp only[bg,withv,he x agT]
 |store t a x=>simp only[bg,withv,he a agT,he x agT]
 |makeSlice t l m=>simp only[bg,withv,he l agT,he m agT]
 |makeMap t r=>
  cases r with
  |none=>rfl
  |some x=>simp only[bg,JE,withv,he x agT]
 |mapUpdate t x y z=>simp only[bg,withv,he x agT,he y agT,he z agT]
 |call c=>
  obtain⟨cal,args,ts⟩:=c;have ha:∀x∈args.toList,ev ρ x=ev ρ' x:=fun x hx=>he x (by simp only[Op.operands,Call.operands,Array.mem_append];exact .inr (by simpa using hx))
  cases cal with
  |value q=>simp only[bg,withv,withvs,he q (by simp[Op.operands,Call.operands]),mZ ha]
  |builtin b=>
   cases b with
   |append=>exact ak0
   |copy=>exact ak0
   |_=>simp[dR]at hb
  |_=>simp[dR]at hb
 |_=>simp[dR]at hb
def vcE(P:Program)(U:TypeId→TI)(ρ:Env)(h:Heap)(o:Oper)(Q:AV→Heap→Prop):Prop:=bg P U ρ h o Q
theorem Cu{ρ:Env}{h:Heap}{o:Oper}{Q:AV→Heap→Prop}(hU:∀t,aQ P U t)(hb:dR o.op=true)(hk:vcE P U ρ h o Q):EOK P o (lk ρ) h Q:=by intro c a hs g hd hr;unfold vcE at hk;rw[←F1 hb (wU ρ o)]at hk;exact nU hU hk hs g (uk hd hr)
def DQ(P:Program)(o:Oper)(F:EF)(hm:Heap)(X:AV):Prop:=∀h,Sub hm h→EOK P o F h fun x h' =>x=X∧h' =h
theorem DPure.quiet{o}{X}(hp:DPure P o F hm X):DQ P o F hm X:=by
 intro h hs c a hc g hd hr;obtain⟨u,c',e1,g',hE,e2,hr'⟩:=hp c a (fun i b hb=>hc i b (hs i b hb)) g hd hr
 rw[e1];exact⟨c',X,h,rfl,g',hE,hr',afv,rfl,rfl⟩
def FnQ(P:Program)(f:FuncId)(args:List AV)(hm:Heap)(k:AV→Prop):Prop:=∃X,(∀h,Sub hm h→ai P f args h fun x h' =>x=X∧h' =h)∧k X
def vcQ(P:Program)(U:TypeId→TI)(ρ:Env)(hm:Heap)(o:Oper)(k:AV→Prop):Prop:=match o.op with
 |.call c=>match c.callee with
  |.value q=>withv ρ q fun y=>match y with
   |.fn f cap=>withvs ρ c.args.toList fun ys=>FnQ P f (ys++cap) hm k
   |_=>False
  |_=>False
 |_=>False
theorem Mb{ρ}{o}{k}(hU:∀t,aQ P U t)(hk:vcQ P U ρ hm o k):∃X,k X∧DQ P o (lk ρ) hm X:=by
 obtain⟨d,op,t,p,a,g⟩:=o;unfold vcQ at hk;simp only at hk;split at hk
 ·rename_i cl
  obtain⟨cal,args,ts⟩:=cl;simp only at hk;split at hk
  ·rename_i q
   obtain⟨y,hy,hk⟩:=aJ hk;split at hk
   ·rename_i f cap
    obtain⟨ys,hys,X,hf,hQ⟩:=fE hk;refine⟨X,hQ,fun h hs=>Cu hU rfl ?_⟩
    grind [vcE,bg,withv,withvs]
   grind
  grind
 grind
def wZ(P:Program)(ops:Array Oper)(hm:Heap)(o:Oper)(K:EF→Heap→Prop)(F:EF)(h:Heap):Prop:=
 (cL ops F o=some true∧(dR o.op=true∧(∃Q:AV→Heap→Prop,EOK P o F h Q∧∀X h',Q X h'→Sub hm h'∧K (iu F o.dst X) h')∨∃X,DQ P o F hm X∧K (iu F o.dst X) h))∨
 (cL ops F o=some false∧K (iu F o.dst (.v undef)) h)
def hOp(P:Program)(ops:Array Oper)(hm:Heap)(i:Nat)(K:EF→Heap→Prop)(F:EF)(h:Heap):Prop:=
 match ops[i]? with
 |none=>K F h
 |some o=>wZ P ops hm o K F h
theorem G0{o}{h}{K K'}(hk:∀F h,K F h→K' F h)(hs:wZ P ops hm o K F h):wZ P ops hm o K' F h:=by
 rcases hs with⟨h1,⟨h2,Q,h3,h4⟩|⟨X,h3,h4⟩⟩|⟨h1,h2⟩
 ·exact .inl ⟨h1,.inl ⟨h2,Q,h3,fun X h' hq=>⟨(h4 X h' hq).1,hk _ _ (h4 X h' hq).2⟩⟩⟩
 ·exact .inl ⟨h1,.inr ⟨X,h3,hk _ _ h4⟩⟩
 ·exact .inr ⟨h1,hk _ _ h2⟩
theorem lX{i}{h}{K K'}(hk:∀F h,K F h→K' F h)(hs:hOp P ops hm i K F h):hOp P ops hm i K' F h:=by grind [hOp,G0]
def YP(P:Program)(ops:Array Oper)(hm:Heap)(o:Oper)(X:AV)(F:EF):Prop:=
 (cL ops F o=some true∧DQ P o F hm X)∨(cL ops F o=some false∧X= .v undef)
theorem EB{o}{X}{h}{K}(hy:YP P ops hm o X F)(hk:K (iu F o.dst X) h):wZ P ops hm o K F h:=by
 rcases hy with⟨h1,h3⟩|⟨h1,rfl⟩
 ·exact .inl ⟨h1,.inr ⟨X,h3,hk⟩⟩
 ·exact .inr ⟨h1,hk⟩
theorem DK{o}{h}{K}(he:dR o.op=false)(hs:wZ P ops hm o K F h):∃X,YP P ops hm o X F∧K (iu F o.dst X) h:=by
 rcases hs with⟨h1,⟨h2,_⟩|⟨X,h3,h4⟩⟩|⟨h1,h2⟩
 ·grind
 ·exact⟨X,.inl ⟨h1,h3⟩,h4⟩
 ·exact⟨_,.inr ⟨h1,rfl⟩,h2⟩
theorem RV{o}{X}(hf:∀t∈fy o.op,F t=F' t)(hd:DPure P o F hm X):DPure P o F' hm X:=
 fun c a hs g hdf hr=>hd c a hs g hdf fun t ht x hx=>hr t ht x afv
theorem Bp{o}{h}{Q}(hf:∀t∈fy o.op,F t=F' t)(hd:EOK P o F h Q):EOK P o F' h Q:=
 fun c a hs g hdf hr=>hd c a hs g hdf fun t ht x hx=>hr t ht x afv
theorem DC{o}{X}(hf:∀t∈fy o.op,F t=F' t)(hd:DQ P o F hm X):DQ P o F' hm X:=fun h hs=>Bp hf (hd h hs)
theorem yH{o}{X}(hf:∀t∈o.looksAt ops,F t=F' t)(hy:YP P ops hm o X F):YP P ops hm o X F' :=by
 rcases hy with⟨h1,h2⟩|⟨h1,h2⟩
 ·exact .inl ⟨aiS,DC (by grind [mg]) h2⟩
 ·exact .inr ⟨aiS,h2⟩
theorem Qu{hm hm'}{oj}{X}(hj:ops[j]? =some oj)(hap:oi.apart ops oj=true){K}{h}
  (hy:YP P ops hm' oi X F) (hs:hOp P ops hm j K (iu F oi.dst X) h):hOp P ops hm j (fun F' h' =>YP P ops hm' oi X F'∧K (iu F' oi.dst X) h') F h:=by
 obtain⟨h1,h2,h3⟩:=Oper.apart_spec hap;unfold hOp at*;simp only[hj]at*;have hlook:∀t∈oj.looksAt ops,iu F oi.dst X t=F t:=fun t ht=>qu fun e he hte=>h1 e he (hte▸ht)
 have hlook2:∀u,∀t∈oi.looksAt ops,F t=iu F oj.dst u t:=fun u t ht=>(qu fun e he hte=>h3 e he (hte▸ht)).symm
 rcases hs with⟨w1,⟨w0,Q,w2,w3⟩|⟨Y,w2,w3⟩⟩|⟨w1,w2⟩
 ·refine .inl ⟨aiS,.inl ⟨w0,Q,Bp (by grind [mg]) w2,fun Y h' hq=>⟨(w3 Y h' hq).1,yH (hlook2 Y) hy,?_⟩⟩⟩
  rw[←nq F X Y h2];exact(w3 Y h' hq).2
 ·refine .inl ⟨aiS,.inr ⟨Y,DC (by grind [mg]) w2,yH (hlook2 Y) hy,?_⟩⟩
  rw[←nq F X Y h2];exact w3
 ·refine .inr ⟨aiS,yH (hlook2 _) hy,?_⟩
  rw[←nq F X _ h2];exact w2
theorem KP{i}{X}{h}{K}(hi:ops[i]? =some oi)(hy:YP P ops hm oi X F)(hk:K (iu F oi.dst X) h):hOp P ops hm i K F h:=by grind [hOp,EB]
def hS(P:Program)(ops:Array Oper)(H:Nat→Heap)(i:Nat)(K:EF→Heap→Prop)(F:EF)(h:Heap):Prop:=hOp P ops (H i) i K F h
theorem WZ{H}:Sys ops (hS P ops H) fun i X F=>∃oi,ops[i]? =some oi∧YP P ops (H i) oi X F where
 mono hk hs:=lX hk hs
 of hi:=fun⟨o,ho,hy⟩ hk=>by rw[hi]at ho;cases ho;exact KP hi hy hk
 put hi hj ha:=fun⟨o,ho,hy⟩ hs=>by
  rw[hi]at ho;cases ho
  exact lX (fun F' h' ⟨a,b⟩=>⟨⟨_,hi,a⟩,b⟩) (Qu hj ha hy hs)
def oT(md:Region.Mode)(ops:Array Oper):List Nat→Array Bool→Bool
 | [],_=>true
 |k::ks,listed=>(match ops[k]? with
  |some o=>if dR o.op then Region.ready md ops listed== [k]else(Region.ready md ops listed).contains k && Region.free md ops listed k
  |none=>false) && oT md ops ks (listed.setIfInBounds k true)
def fU:List Nat→Array Bool→Array Bool
 | [],l=>l
 |k::ks,l=>fU ks (l.setIfInBounds k true)
def nK(P:Program)(ops:Array Oper)(H:Nat→Heap)(Q:EF→Heap→Prop):List Nat→EF→Heap→Prop
 | [],F,h=>Q F h
 |i::r,F,h=>hOp P ops (H i) i (nK P ops H Q r) F h
theorem jU{H:Nat→Heap}{E:Array Bool→Prop}{Q:EF→Heap→Prop}(m:Nat):∀(l:List Nat) (listed:Array Bool) (F:EF) (h:Heap),(∀i∈l,Ends md ops E i)→Closed md ops listed→
  oT md ops l listed=true→nK P ops H (fun F h=>sP md ops (hS P ops H) E Q m (fU l listed) F h) l F h→sP md ops (hS P ops H) E Q (m+l.length) listed F h
 | [],_,_,_,_,_,_,hd=>hd
 |k::l,listed,F,h,hE,hcl,hB,hd=>by
  simp only[oT,Bool.and_eq_true]at hB;obtain⟨hB,hB'⟩:=hB;have hE' :∀i∈l,Ends md ops E i:=fun i hi=>hE i (List.mem_cons_of_mem _ hi)
  cases h0:ops[k]? with
  |none=>grind
  |some o=>
   rw[h0]at hB;simp only at hB;cases he:dR o.op with
   |true=>
    refine⟨fun e=>afv,fun j hj=>?_⟩
    obtain rfl:j=k:=afv;exact lX (fun F' h' hh=>jU m l _ F' h' hE' (hcl.set afv) hB' hh) hd
   |false=>
    rw[he,if_neg afB,Bool.and_eq_true]at hB;have hd:wZ P ops (H k) o (nK P ops H (fun F h=>sP md ops (hS P ops H) E Q m (fU (k::l) listed) F h) l) F h:=by grind [hOp,nK]
    obtain⟨X,hy,hK⟩:=DK he hd;have hin:k∈Region.ready md ops listed:=afv;exact WZ.first h0 (hE k (List.mem_cons_self ..)) (m+l.length) listed F h hcl hB.2 hin ⟨o,h0,hy⟩ (jU m l _ _ _ hE' (hcl.set hin) hB' hK)
theorem jK{H}{Q Q'}(hk:∀F h,Q F h→Q' F h):∀(l:List Nat) (F:EF) (h:Heap),nK P ops H Q l F h→nK P ops H Q' l F h
 | [],F,h,hh=>hk F h hh
 |_::l,_,_,hh=>lX (fun F h hh=>jK hk l F h hh) hh
inductive Ord where
 |seq (l:List Nat)
 |fork (l:List Nat) (i:Nat) (a:Ord) (j:Nat) (b:Ord)
 |quiet (l:List Nat) (i:Nat) (t:Ord)
 |news (l:List Nat) (is:List Nat) (t:Ord)
def z6(md:Region.Mode)(ops:Array Oper):Nat→List Nat→Array Bool→Bool
 |0,l,_=>l.isEmpty
 |fuel+1,l,listed=>l.isEmpty||(!(Region.ready md ops listed).isEmpty && (Region.ready md ops listed).all fun i=>l.contains i && z6 md ops fuel (l.erase i) (listed.setIfInBounds i true))
def So(o:Oper):Bool:=o.guard.isNone && o.dst.isSome && match o.op with
 |.alloc _=>true
 |_=>false
def N9(md:Region.Mode)(ops:Array Oper)(is:List Nat)(listed:Array Bool):Bool:=
 z6 md ops is.length is listed && decide is.Nodup && decide (is.map fun i=>(ops[i]?).bind (·.dst)).Nodup && is.all fun i=>((ops[i]?).map So).getD false
def Ord.len:Ord→Nat
 |.seq l=>l.length
 |.fork l _ a _ _=>a.len+1+l.length
 |.quiet l _ t=>t.len+1+l.length
 |.news l is t=>t.len+is.length+l.length
def kN(md:Region.Mode)(ops:Array Oper)(z:Option Nat):Ord→Array Bool→Bool
 |.seq l,listed=>oT md ops l listed && GG md ops z (fU l listed)
 |.fork l i a j b,listed=>oT md ops l listed && (Region.ready md ops (fU l listed)== [i,j]) && (a.len==b.len) &&
  (kN md ops z a ((fU l listed).setIfInBounds i true) && kN md ops z b ((fU l listed).setIfInBounds j true))
 |.quiet l i t,listed=>oT md ops l listed && (((Region.ready md ops (fU l listed)).contains i && Region.free md ops (fU l listed) i) && kN md ops z t ((fU l listed).setIfInBounds i true))
 |.news l is t,listed=>oT md ops l listed && (N9 md ops is (fU l listed) && kN md ops z t (fU is (fU l listed)))
theorem ju:∀(l:List Nat) (listed:Array Bool),Closed md ops listed→oT md ops l listed=true→Closed md ops (fU l listed)
 | [],_,hc,_=>hc
 |k::l,listed,hc,hB=>by
  simp only[oT,Bool.and_eq_true]at hB;obtain⟨hB,hB'⟩:=hB;refine ju l _ (hc.set ?_) hB'
  grind
theorem vL{n:Nat}{i:Nat}{K:EF→Heap→Prop}{K' :Act→World→Prop}{Q:Exit→Act→World→Prop}(hdst:∀o∈ops.toList,fk n o.dst=true)
  (hk:∀c F h a,Ext c0 c→Sub h c.h→Sub hm c.h→Good c→nw c n F a→K F h→K' a c.w)   {h:Heap} {a:Act} (hE:Ext c0 c) (hs:Sub h c.h) (hs' :Sub hm c.h) (g:Good c) (he:nw c n F a) (hd:hOp P ops hm i K F h):wpOp P ops Q i K' a c.w:=by
 unfold hOp at hd;unfold wpOp;split
 ·rename_i ho;simp only[ho]at hd;exact hk c F h a hE hs hs' g he hd
 ·rename_i o ho
  simp only[ho]at hd;have hdo:fk n o.dst=true:=afv;have main:∀ {h0:Heap} {R:AV→Heap→Prop},Sub h0 c.h→EOK P o F h0 R→(∀c' x h',Good c'→Ext c c'→Sub h' c'.h→R x h'→∀u,Rep c' x u→K' (a.put o.dst u) c'.w)→Oper.wp P o a c.w K' Q:=by
   intro h0 R hs h2 next';have hu:=h2 c a hs g he.2.1 (fun t _ x hx=>he.2.2 t x hx)
   have next:∀u w',fm c R u w'→K' (a.put o.dst u) w' :=by
    rintro u w' ⟨c',x,h',rfl,g',hE',hr,hs2,hR⟩
    exact next' c' x h' g' hE' hs2 hR u hr
   unfold Oper.wp;generalize (execOp a.eval o).run P c.w=r at hu;cases r with
   |ok nx w' =>exact aj1
   |halt x w' =>exact hu.elim
  rcases hd with⟨h1,⟨h0,R,h2,h3⟩|⟨X,h2,h3⟩⟩|⟨h1,h2⟩
  ·rw[if_pos (kV he h1)]
   left
   refine main hs h2 fun c' x h' g' hE' hs2 hR u hr=>?_
   obtain⟨k1,k2⟩:=h3 x h' hR;exact hk c' _ h' _ (hE.trans hE') hs2 (fun j b hj=>hs2 _ _ (k1 _ _ hj)) g' ((he.mono hE').put hdo hr) k2
  ·rw[if_pos (kV he h1)]
   left
   refine main (fun _ _ e=>e) (h2 c.h hs') fun c' x h' g' hE' hs2 hR u hr=>?_
   obtain⟨rfl,rfl⟩:=hR;exact hk c' _ h _ (hE.trans hE') (fun j b hj=>hs2 _ _ (hs _ _ hj)) (fun j b hj=>hs2 _ _ (hs' _ _ hj)) g' ((he.mono hE').put hdo hr) h3
  ·rw[if_neg (by grind [kV])]
   exact hk c _ h _ hE hs hs' g (he.put hdo (.v _)) h2
theorem qc{n:Nat}{Q:EF→Heap→Prop}{Q' :Exit→Act→World→Prop}(hdst:∀o∈ops.toList,fk n o.dst=true)
  (h0:∀listed c F h a,Ext c0 c→Sub h c.h→Good c→nw c n F a→E listed→Q F h→wpAny P md ops Q' m listed a c.w) (fuel:Nat) (listed:Array Bool) (c:Cx) (F:EF) (h:Heap) (a:Act) (h1:Ext c0 c) (h2:Sub h c.h) (h2' :Sub hm c.h) (h3:Good c) (h4:nw c n F a)
  (hd:sP md ops (hS P ops fun _=>hm) E Q fuel listed F h):wpAny P md ops Q' (m+fuel) listed a c.w:=
 qb (T:=fun _ c F h a=>Ext c0 c∧Sub h c.h∧Sub hm c.h∧Good c∧nw c n F a) (fun _ _ _ _ _ _ _ _ ⟨h1,h2,h2',h3,h4⟩ _ hd hk=>vL hdst (fun c F h a k1 k2 k2' k3 k4 hK=>hk c F h a ⟨k1,k2,k2',k3,k4⟩ hK) h1 h2 h2' h3 h4 hd)
  (fun listed c F h a ⟨k1,k2,_,k3,k4⟩ he hq=>h0 listed c F h a k1 k2 k3 k4 he hq) fuel listed c F h a ⟨h1,h2,h2',h3,h4⟩ hd
def IK(md:Region.Mode)(ops:Array Oper)(l:List Nat):Bool:=(List.range ops.size).all fun j=>l.contains j||l.all fun k=>(kg md ops (kg md ops (kg md ops [j]))).contains k
theorem Gi{l}(hb:IK md ops l=true){listed}(hc:Closed md ops listed)(hj:j∈Region.ready md ops listed)(hl:j∉l):∀k∈l,listed.getD k false=true:=by
 intro k hk;obtain⟨hun,oj,hoj,_⟩:=mem_ready.1 hj;unfold IK at hb;rw[List.all_eq_true]at hb;have hm:=hb j afv;rw[Bool.or_eq_true,List.contains_iff_mem]at hm;rcases hm with hm|hm
 ·exact(hl hm).elim
 ·have s0:∀k∈ [j],k≠j→listed.getD k false=true:=fun k hk hn=>absurd (by simpa using hk) hn
  have s3:=fq hc hj (fq hc hj (fq hc hj s0));rw[List.all_eq_true]at hm;have:=hm k hk;rw[List.contains_iff_mem]at this;exact s3 k this fun e=>hl (e▸hk)
theorem Nd{fin}{l}(hb:IK md ops l=true)(hfin:∀j∈l,fin.getD j false=true):∀i∈l,Ends md ops (· =fin) i:=fun i hil listed hcl hr he j hj=>by
 by_cases hji:j=i
 ·exact hji
 exfalso
 have hiu:=(mem_ready.1 hr).1;have hju:=(mem_ready.1 hj).1
 by_cases hjl:j∈l
 ·have h1:=hfin j hjl
  rw[←he,getD_set_ne false (Ne.symm hji)]at h1;rcases Nat.lt_or_ge j listed.size with h' |h'
  ·simp[h']at h1 hju;rw[hju]at h1;cases h1
  ·simp[Array.getElem?_eq_none h']at h1
 ·have h1:=Gi hb hcl hj hjl i hil
  rcases Nat.lt_or_ge i listed.size with h' |h'
  ·simp[h']at h1 hiu;rw[hiu]at h1;cases h1
  ·simp[Array.getElem?_eq_none h']at h1
def yy(md:Region.Mode)(ops:Array Oper)(l1 l2:List Nat):Bool:=
 oT md ops l1 (Array.replicate ops.size false) && IK md ops l1 && (l1.all fun j=>(fU l1 (Array.replicate ops.size false)).getD j false) && kN md ops none (.seq l2) (fU l1 (Array.replicate ops.size false)) && (l2.length+l1.length==ops.size)
def F0(P:Program)(U:TypeId→TI)(hm:Heap)(o:Oper)(ρ:Env)(h:Heap)(K:AV→Heap→Prop):Prop:=
 if dR o.op then vcE P U ρ h o (fun X h' =>Sub hm h'∧K X h')else pv U ρ hm o.op (fun X=>K X h)
def eE(P:Program)(U:TypeId→TI)(n:Nat)(all:List Oper)(hm:Heap):List Nat→Env→Heap→(Env→Heap→Prop)→Prop
 | [],ρ,h,K=>K ρ h
 |i::is,ρ,h,K=>match all[i]? with
  |none=>False
  |some o=>kD all ρ o.guard (fun ρ=>F0 P U hm o ρ h fun X h' =>eE P U n all hm is (put ρ o.dst X) h' K) (fun ρ=>eE P U n all hm is (put ρ o.dst (.v undef)) h K)
theorem BT{ρ}{d}{x}(hd:lk ρ d=some x):lk ((d,x)::ρ)=lk ρ:=by grind [lk]
theorem dY{n}(hU:∀t,aQ P U t){all}{K}:∀(l:List Nat) (ρ:Env) (h:Heap),eE P U n all hm l ρ h K→nK P all.toArray (fun _=>hm) (fun F h=>∃ρ,lk ρ=F∧K ρ h) l (lk ρ) h
 | [],ρ,h,hk=>⟨ρ,rfl,hk⟩
 |i::is,ρ,h,hk=>by
  simp only[eE]at hk
  show hOp _ _ _ _ _ _ _
  unfold hOp;have e0:(all.toArray)[i]? =all[i]? :=afB;rw[e0];cases hi:all[i]? with
  |none=>rw[hi]at hk;exact hk.elim
  |some o=>
   rw[hi]at hk;simp only at hk⊢;have yes:∀ρ',cL all.toArray (lk ρ) o=some true→lk ρ' =lk ρ→F0 P U hm o ρ' h (fun X h' =>eE P U n all hm is (put ρ' o.dst X) h' K)→wZ P all.toArray hm o (nK P all.toArray (fun _=>hm) (fun F h=>∃ρ,lk ρ=F∧K ρ h) is) (lk ρ) h:=by
    intro ρ' hw hl hv;unfold F0 at hv;cases he:dR o.op with
    |true=>
     rw[he,if_pos rfl]at hv;have:=Cu hU he hv;rw[hl]at this;refine .inl ⟨hw,.inl ⟨he,_,this,fun X h' hq=>⟨hq.1,?_⟩⟩⟩
     have:=dY hU is _ _ hq.2;rw[tD,hl]at this;exact agc
    |false=>rw[he,if_neg afB]at hv;obtain⟨X,hQ,hX⟩:=HO hU hv;rw[hl]at hX;refine .inl ⟨hw,.inr ⟨X,hX.quiet,?_⟩⟩;have:=dY hU is _ _ hQ;rw[tD,hl]at this;exact agc
   have no:∀ρ',cL all.toArray (lk ρ) o=some false→lk ρ' =lk ρ→eE P U n all hm is (put ρ' o.dst (.v undef)) h K→wZ P all.toArray hm o (nK P all.toArray (fun _=>hm) (fun F h=>∃ρ,lk ρ=F∧K ρ h) is) (lk ρ) h:=by intro ρ' hw hl hv;have:=dY hU is _ _ hv;rw[tD,hl]at this;exact .inr ⟨hw,this⟩
   unfold kD at hk;split at hk
   ·rename_i hg
    exact yes ρ (by grind [cL]) rfl hk
   ·rename_i g want hg
    split at hk
    ·rename_i d hd'
     have hd2:((all.toArray)[g]?).bind (·.dst)=some d:=by grind [rB]
     split at hk
     ·rename_i t ht
      have hw:cL all.toArray (lk ρ) o=some (t==want):=by grind [cL]
      by_cases e:t=want
      ·exact yes _ afv (by grind [BT]) (hk.1 e)
      ·have e' :t= !want:=by cases t<;>cases want<;>simp_all
       exact no _ afv (by grind [BT]) (hk.2 e')
     ·rename_i vs ht
      refine no ρ ?_ rfl hk
      grind [cL]
     ·exact afR
    ·exact afR
def HF(U:TypeId→TI):Op→Option Blk
 |.alloc t=>some (if isUnit (U t).k then .obj [] t else .obj (U t).zero.cells t)
 |_=>none
def Ap(U:TypeId→TI):Op→Prop
 |.alloc t=>isUnit (U t).k=true∨(U t).sz≠0∧fit (U t).zero (U t).sz
 |_=>False
def mX(U:TypeId→TI)(all:List Oper):List Nat→Prop
 | []=>True
 |i::is=>(match all[i]? with
  |none=>False
  |some o=>Ap U o.op)∧mX U all is
def sY(P:Program)(U:TypeId→TI)(all:List Oper):List Nat→Env→Heap→(Env→Heap→Prop)→Prop
 | [],ρ,h,K=>K ρ h
 |i::is,ρ,h,K=>match all[i]? with
  |none=>False
  |some o=>bg P U ρ h o fun X h' =>sY P U all is (put ρ o.dst X) h' K
theorem F2{ρ:Env}{h:Heap}{o:Oper}{Q:AV→Heap→Prop}{B:Blk}(hB:HF U o.op=some B)(hs:Ap U o.op):bg P U ρ h o Q↔∀id,h id=none→Q (.ptr id 0) (upd h id (some B)):=by
 obtain⟨d,op,t,p,a,g⟩:=o;cases op with
 |alloc ty=>
  simp only[HF,Option.some.injEq]at hB;simp only[Ap]at hs;simp only[bg]
  grind
 |_=>grind [HF]
def jX(U:TypeId→TI)(ops:Array Oper)(ids:Nat→Nat)(s:EF×Heap)(i:Nat):EF×Heap:=match ops[i]? with
 |some o=>(iu s.1 o.dst (.ptr (ids i) 0),upd s.2 (ids i) (HF U o.op))
 |none=>s
def Fresh(h:Heap)(is:List Nat)(ids:Nat→Nat):Prop:=(∀i∈is,h (ids i)=none)∧(is.map ids).Nodup
theorem xE{l l'}(hp:l.Perm l')(listed):fU l listed=fU l' listed:=by
 have e:∀(l:List Nat) (x:Array Bool),fU l x=l.foldl (fun x k=>x.setIfInBounds k true) x:=fun l=>by
  induction l with
  |nil=>intro x;rfl
  |cons k l ih=>intro x;exact ih _
 rw[e,e];refine hp.foldl_eq' (fun x _ y _ z=>?_) listed
 grind
theorem HG{ids:Nat→Nat}{is:List Nat}(hd:(is.map fun i=>(ops[i]?).bind (·.dst)).Nodup)(hs:∀i∈is,∃o d,ops[i]? =some o∧o.dst=some d)(hi:(is.map ids).Nodup):
  ∀x∈is,∀y∈is,∀z,jX U ops ids (jX U ops ids z x) y=jX U ops ids (jX U ops ids z y) x:=by
 have inj:∀ {α:Type} {f:Nat→α} {l:List Nat},(l.map f).Nodup→∀x∈l,∀y∈l,f x=f y→x=y:=by
  intro α f l
  induction l with
  |nil=>simp
  |cons k l ih=>grind
 intro x hx y hy z
 by_cases e:x=y
 ·grind
 obtain⟨ox,dx,hox,hdx⟩:=hs x hx;obtain⟨oy,dy,hoy,hdy⟩:=hs y hy;simp only[jX,hox,hoy];rw[nq z.1 _ _ afv]
 congr 1
 grind [upd]
theorem KO{Q:EF→Heap→Prop}:∀(fuel:Nat) (is:List Nat) (listed:Array Bool) (F:EF) (h:Heap),Closed md ops listed→z6 md ops fuel is listed=true→Sub hm h→is.Nodup→
  (is.map fun i=>(ops[i]?).bind (·.dst)).Nodup→
  (∀i∈is,∃o d B,ops[i]? =some o∧o.guard=none∧o.dst=some d∧dR o.op=true∧HF U o.op=some B∧∀F h,EOK P o F h fun X h' =>∃id,h id=none∧X= .ptr id 0∧h' =upd h id (some B))→
  (Closed md ops (fU is listed)→∀ids,Fresh h is ids→sP md ops (hS P ops fun _=>hm) E Q m (fU is listed) (is.foldl (jX U ops ids) (F,h)).1 (is.foldl (jX U ops ids) (F,h)).2)→sP md ops (hS P ops fun _=>hm) E Q (m+is.length) listed F h:=by
 intro fuel
 induction fuel with
 |zero=>
  intro is listed F h hcl hp _ _ _ _ H;have:is= []:=by simpa[z6]using hp
  subst this;exact H hcl id ⟨afB,afB⟩
 |succ fuel ih=>
  intro is listed F h hcl hp hs hn hdn ho H;simp only[z6,Bool.or_eq_true,List.isEmpty_iff,Bool.and_eq_true,Bool.not_eq_true',List.all_eq_true]at hp;rcases hp with rfl|⟨hp1,hp2⟩
  ·exact H hcl id ⟨afB,afB⟩
  have hne:Region.ready md ops listed≠ []:=fun e=>by rw[e]at hp1;simp at hp1
  obtain⟨i0,hi0⟩:=List.exists_mem_of_ne_nil _ hne;have hl0:m+is.length=(m+(is.length - 1))+1:=by
   have:=List.length_pos_of_mem (show i0∈is by simpa using(hp2 i0 hi0).1)
   omega
  rw[hl0];refine⟨fun e=>absurd e hne,fun i hi=>?_⟩
  obtain⟨h1,h2⟩:=hp2 i hi;have h1:i∈is:=by simpa using h1
  obtain⟨o,d,B,e1,e2,e3,e4,e5,e6⟩:=ho i h1;have hpm:=List.perm_cons_erase h1;unfold hS hOp;simp only[e1];refine .inl ⟨by simp[cL,e2],.inl ⟨e4,_,e6 F h,?_⟩⟩
  rintro X h' ⟨id,hid,rfl,rfl⟩
  have hs' :Sub hm (upd h id (some B)):=fun j b hj=>by
   have:=hs j b hj;simp only[upd]
   by_cases e:j=id
   ·subst e;rw[hid]at this;cases this
   ·simp[e,this]
  refine⟨hs',?_⟩;have hle:(is.length - 1)=(is.erase i).length:=(List.length_erase_of_mem h1).symm;rw[hle];have hni:i∉is.erase i:=fun hm=>by have:=hpm.nodup_iff.1 hn;exact(List.nodup_cons.1 this).1 hm
  refine ih (is.erase i) _ _ _ (hcl.set hi) h2 hs' (hn.erase i) (((hpm.map _).nodup_iff.1 hdn).of_cons) (fun j hj=>ho j (List.mem_of_mem_erase hj)) fun hcl2 ids hf=>?_
  have hmem:∀j∈is.erase i,j≠i:=fun j hj e=>hni (e▸hj)
  let ids' :Nat→Nat:=fun j=>if j=i then id else ids j
  have hids:∀j∈is.erase i,ids' j=ids j:=fun j hj=>by simp[ids',hmem j hj]
  have hfr:∀j∈is.erase i,ids j≠id∧h (ids j)=none:=fun j hj=>by
   have:=hf.1 j hj;simp only[upd]at this;split at this
   ·cases this
   ·rename_i e;exact⟨e,this⟩
  have hfresh:Fresh h is ids' :=by
   refine⟨fun j hj=>?_,?_⟩
   ·by_cases e:j=i
    ·subst e;simp[ids',hid]
    ·have hj' :j∈is.erase i:=(List.mem_erase_of_ne e).2 hj
     rw[hids j hj'];exact(hfr j hj').2
   ·rw[(hpm.map ids').nodup_iff,List.map_cons,List.nodup_cons]
    have em:(is.erase i).map ids' =(is.erase i).map ids:=List.map_congr_left hids;rw[em];refine⟨fun hm=>?_,hf.2⟩
    obtain⟨j,hj,he⟩:=List.mem_map.1 hm;exact(hfr j hj).1 (by rw[he];simp[ids'])
  have hh:=H (by rw[xE hpm];exact hcl2) ids' hfresh
  have hfold:is.foldl (jX U ops ids') (F,h)=(is.erase i).foldl (jX U ops ids) (iu F o.dst (.ptr id 0),upd h id (some B)):=by
   rw[hpm.foldl_eq' (HG hdn (fun j hj=>by obtain⟨o,d,B,a1,_,a3,_⟩:=ho j hj;exact⟨o,d,a1,a3⟩) hfresh.2),List.foldl_cons]
   have e0:jX U ops ids' (F,h) i=(iu F o.dst (.ptr id 0),upd h id (some B)):=by simp[jX,e1,ids',e5]
   rw[e0];have:∀(l:List Nat) (s:EF×Heap),(∀j∈l,ids' j=ids j)→l.foldl (jX U ops ids') s=l.foldl (jX U ops ids) s:=fun l=>by
    induction l with
    |nil=>intro s _;rfl
    |cons k l ih=>
     intro s hl;rw[List.foldl_cons,List.foldl_cons,ih _ fun j hj=>hl j (List.mem_cons_of_mem _ hj)]
     have:jX U ops ids' s k=jX U ops ids s k:=by simp only[jX,hl k (List.mem_cons_self ..)]
     rw[this]
   exact this _ _ hids
  rw[hfold,xE hpm]at hh;exact hh
theorem Cv{all:List Oper}{K:Env→Heap→Prop}:∀(is:List Nat) (ρ:Env) (h:Heap),(∀i∈is,∃o B,all[i]? =some o∧HF U o.op=some B∧Ap U o.op)→sY P U all is ρ h K→∀ids,Fresh h is ids→
  ∃ρ',lk ρ' =(is.foldl (jX U all.toArray ids) (lk ρ,h)).1∧K ρ' (is.foldl (jX U all.toArray ids) (lk ρ,h)).2
 | [],ρ,h,_,hk,ids,_=>⟨ρ,rfl,hk⟩
 |i::is,ρ,h,ho,hk,ids,hf=>by
  obtain⟨o,B,e1,e2,e3⟩:=ho i (List.mem_cons_self ..);simp only[sY,e1]at hk;have hk:=(F2 e2 e3).1 hk (ids i) (hf.1 i (List.mem_cons_self ..));have hn:=hf.2;rw[List.map_cons,List.nodup_cons]at hn;have hf' :Fresh (upd h (ids i) (some B)) is ids:=⟨fun j hj=>by
   have:ids j≠ids i:=fun e=>hn.1 (e▸List.mem_map.2 ⟨j,hj,rfl⟩)
   simp only[upd,this,if_false];exact hf.1 j (List.mem_cons_of_mem _ hj),hn.2⟩
  obtain⟨ρ',h1,h2⟩:=Cv is _ _ afv hk ids hf';have e0:jX U all.toArray ids (lk ρ,h) i=(lk (put ρ o.dst (.ptr (ids i) 0)),upd h (ids i) (some B)):=by simp_all [some,jX,tD]
  refine⟨ρ',?_,?_⟩
  ·grind
  ·rw[List.foldl_cons,e0];exact h2
def mz(P:Program)(U:TypeId→TI)(n:Nat)(all:List Oper)(hm:Heap):Ord→Env→Heap→(Env→Heap→Prop)→Prop
 |.seq l,ρ,h,K=>eE P U n all hm l ρ h K
 |.fork l i a j b,ρ,h,K=>eE P U n all hm l ρ h fun ρ h=>eE P U n all hm [i] ρ h (fun ρ h=>mz P U n all hm a ρ h K)∧eE P U n all hm [j] ρ h (fun ρ h=>mz P U n all hm b ρ h K)
 |.quiet l i t,ρ,h,K=>eE P U n all hm l ρ h fun ρ h=>match all[i]? with
  |none=>False
  |some o=>o.guard=none∧vcQ P U ρ hm o fun X=>mz P U n all hm t (put ρ o.dst X) h K
 |.news l is t,ρ,h,K=>eE P U n all hm l ρ h fun ρ h=>Sub hm h∧mX U all is∧sY P U all is ρ h fun ρ h=>mz P U n all hm t ρ h K
theorem lE{n:Nat}(hU:∀t,aQ P U t){md:Region.Mode}{all:List Oper}{K:Env→Heap→Prop}{z:Option Nat}(hz:∀i,Ends md all.toArray (yF md all.toArray z) i):∀(t:Ord) (listed:Array Bool) (ρ:Env) (h:Heap),Closed md all.toArray listed→kN md all.toArray z t listed=true→mz P U n all hm t ρ h K→
  sP md all.toArray (hS P all.toArray fun _=>hm) (yF md all.toArray z) (fun F h=>∃ρ,lk ρ=F∧K ρ h) t.len listed (lk ρ) h
 |.seq l,listed,ρ,h,hc,hB,hk=>by
  simp only[kN,Bool.and_eq_true]at hB;have:=jU (H:=fun _=>hm) 0 l listed _ h (fun i _=>hz i) hc hB.1 (jK (fun F h hh=>⟨hB.2,hh⟩) l _ h (dY hU l ρ h hk))
  rwa [Nat.zero_add]at this
 |.fork l i a j b,listed,ρ,h,hc,hB,hk=>by
  simp only[kN,Bool.and_eq_true,beq_iff_eq]at hB;obtain⟨⟨⟨h1,h2⟩,h3⟩,h4,h5⟩:=hB;have hc' :=ju l listed hc h1;refine jU (a.len+1) l listed _ h (fun i _=>hz i) hc h1 (jK (fun F h hh=>?_) l _ h (dY hU l ρ h hk))
  obtain⟨ρ',rfl,g1,g2⟩:=hh;refine⟨fun e=>(by rw[h2]at e;cases e),fun k hk' =>?_⟩
  have hc2:=hc'.set hk';rw[h2]at hk';rcases List.mem_cons.1 hk' with rfl|hk'
  ·exact lX (fun F h hh=>by obtain⟨ρ2,rfl,hh⟩:=hh;exact lE hU hz a _ ρ2 h hc2 h4 hh) (dY hU [k] ρ' h g1)
  ·obtain rfl:k=j:=by grind
   exact lX (fun F h hh=>by obtain⟨ρ2,rfl,hh⟩:=hh;rw[h3];exact lE hU hz b _ ρ2 h hc2 h5 hh) (dY hU [k] ρ' h g2)
 |.quiet l i t,listed,ρ,h,hc,hB,hk=>by
  simp only[kN,Bool.and_eq_true]at hB;obtain⟨h1,⟨h2,h3⟩,h4⟩:=hB;have hc' :=ju l listed hc h1;refine jU (t.len+1) l listed _ h (fun i _=>hz i) hc h1 (jK (fun F h hh=>?_) l _ h (dY hU l ρ h hk))
  obtain⟨ρ',rfl,g⟩:=hh;cases hi:all[i]? with
  |none=>grind
  |some o=>
   rw[hi]at g;simp only at g;obtain⟨X,hX,hq⟩:=Mb hU g.2;have hi' :all.toArray[i]? =some o:=afv;have hin:i∈Region.ready md all.toArray (fU l listed):=afv;refine WZ.first hi' (hz i) t.len _ _ h hc' h3 hin ⟨o,hi',.inl ⟨by grind [cL],hq⟩⟩ ?_
   rw[←tD];exact lE hU hz t _ _ h (hc'.set hin) h4 hX
 |.news l is t,listed,ρ,h,hc,hB,hk=>by
  simp only[kN,N9,Bool.and_eq_true,decide_eq_true_eq]at hB;obtain⟨h1,⟨⟨⟨h2,h3⟩,h4⟩,h5⟩,h6⟩:=hB;have hc' :=ju l listed hc h1;refine jU (t.len+is.length) l listed _ h (fun i _=>hz i) hc h1 (jK (fun F h hh=>?_) l _ h (dY hU l ρ h hk))
  obtain⟨ρ',rfl,g1,g2,g3⟩:=hh;have side:∀(is:List Nat),mX U all is→∀i∈is,∃o,all[i]? =some o∧Ap U o.op:=fun is=>by
   induction is with
   |nil=>simp
   |cons k is ih=>
    intro hs i hi;simp only[mX]at hs
    grind
  have hall:∀i∈is,∃o d B,all.toArray[i]? =some o∧o.guard=none∧o.dst=some d∧dR o.op=true∧HF U o.op=some B∧Ap U o.op:=fun i hi=>by
   obtain⟨o,ha,hs⟩:=side is g2 i hi;have ha' :all.toArray[i]? =some o:=afv;have hn:=List.all_eq_true.1 h5 i hi;rw[ha']at hn;simp only[Option.map_some,Option.getD_some,So,Bool.and_eq_true,Option.isNone_iff_eq_none,Option.isSome_iff_exists]at hn;obtain⟨⟨n1,d,n2⟩,n3⟩:=hn;split at n3
   ·rename_i ty hop
    exact⟨o,d,_,ha',n1,n2,by rw[hop];rfl,by rw[hop];rfl,hs⟩
   ·cases n3
  refine KO (U:=U) is.length is _ _ h hc' h2 g1 h3 h4 (fun i hi=>?_) fun hc2 ids hf=>?_
  ·obtain⟨o,d,B,a1,a2,a3,a4,a5,a6⟩:=hall i hi
   refine⟨o,d,B,a1,a2,a3,a4,a5,fun F h=>?_⟩
   intro c a hs g hd hr;exact nU hU ((F2 (ρ:=[]) a5 a6).2 fun id hid=>⟨id,hid,rfl,rfl⟩) hs g ⟨rfl,hd,fun t x hx=>by cases hx⟩
  ·obtain⟨ρ2,b1,b2⟩:=Cv is ρ' h (fun i hi=>by grind) g3 ids hf
   rw[←b1];exact lE hU hz t _ ρ2 _ hc2 h6 b2
end
section
variable {P : Program} {U : TypeId → TI} {ops : Array Oper} {md : Region.Mode} {H : Nat → Heap}
def zA(hm:Heap)(l1:List Nat)(i:Nat):Heap:=if l1.contains i then hm else fun _=>none
def C9(md:Region.Mode)(ops:Array Oper)(l1:List Nat):Bool:=(List.range ops.size).all fun j=>match ops[j]? with
 |some o=>if dR o.op then !l1.contains j && l1.all fun k=>(kg md ops (kg md ops (kg md ops [j]))).contains k else true
 |none=>true
def NT(md:Region.Mode)(ops:Array Oper)(l1 l2:List Nat):Bool:=C9 md ops l1 && kN md ops none (.seq (l1++l2)) (Array.replicate ops.size false) && ((l1++l2).length==ops.size) && l2.all fun i=> !l1.contains i
theorem ER{l:List Nat}(hb:C9 md ops l=true){listed:Array Bool}(hc:Closed md ops listed){j:Nat}{oj:Oper}(hoj:ops[j]? =some oj)(he:dR oj.op=true)(hj:j∈Region.ready md ops listed):j∉l∧∀k∈l,listed.getD k false=true:=by
 unfold C9 at hb;rw[List.all_eq_true]at hb;have hm:=hb j afv;rw[hoj]at hm;simp only[he,if_true,Bool.and_eq_true,Bool.not_eq_true']at hm;have hl:j∉l:=fun h=>by have:=hm.1;rw[List.contains_iff_mem.2 h]at this;cases this
 refine⟨hl,fun k hk=>?_⟩
 have s0:∀k∈ [j],k≠j→listed.getD k false=true:=fun k hk hn=>absurd (by simpa using hk) hn
 have s3:=fq hc hj (fq hc hj (fq hc hj s0));have h2:=hm.2;rw[List.all_eq_true]at h2;have:=h2 k hk;rw[List.contains_iff_mem]at this;exact s3 k this fun e=>hl (e▸hk)
theorem TN{hm hm'}{i}{o}{K}{F}{h}(ho:ops[i]? =some o)(he:dR o.op=false)(hs:Sub hm hm')(hd:hOp P ops hm i K F h):hOp P ops hm' i K F h:=by
 unfold hOp at*;simp only[ho]at*;rcases hd with⟨h1,⟨h2,_⟩|⟨X,h3,h4⟩⟩|h1
 ·rw[he]at h2;cases h2
 ·exact .inl ⟨h1,.inr ⟨X,fun g hg=>h3 g fun j k e=>hg _ _ (hs _ _ e),h4⟩⟩
 ·exact .inr h1
theorem Hu{n:Nat}{E:Array Bool→Prop}{Q:EF→Heap→Prop}{Q' :Exit→Act→World→Prop}{c0:Cx}{hm:Heap}{l1:List Nat}(hb:C9 md ops l1=true)(hdst:∀o∈ops.toList,fk n o.dst=true)
  (h0:∀listed c F h a,Ext c0 c→Sub h c.h→Good c→nw c n F a→E listed→Q F h→wpAny P md ops Q' 0 listed a c.w) (fuel:Nat) (listed:Array Bool) (c:Cx) (F:EF) (h:Heap) (a:Act) (hc:Closed md ops listed) (h1:Ext c0 c) (h2:Sub h c.h) (hor:Sub hm c.h) (h3:Good c) (h4:nw c n F a)
  (hd:sP md ops (hS P ops (zA hm l1)) E Q fuel listed F h):wpAny P md ops Q' (0+fuel) listed a c.w:=by
 refine qb (T:=fun listed c F h a=>Closed md ops listed∧Ext c0 c∧Sub h c.h∧(Sub hm c.h∨∀k∈l1,listed.getD k false=true)∧Good c∧nw c n F a) (fun listed i K c F h a K' ⟨hc,h1,h2,hor,h3,h4⟩ hi hdi hk=>?_)
  (fun listed c F h a ⟨_,k1,k2,_,k3,k4⟩ he hq=>h0 listed c F h a k1 k2 k3 k4 he hq) fuel listed c F h a ⟨hc,h1,h2,.inl hor,h3,h4⟩ hd
 unfold hS at hdi;have hset:=hc.set hi;obtain⟨hun,oi,hoi,_⟩:=mem_ready.1 hi;have hun' :listed.getD i false=false:=by
  clear hdi
  grind
 have late:(∀k∈l1,listed.getD k false=true)→∀k∈l1,(listed.setIfInBounds i true).getD k false=true:=fun hh k hk=>by
  have:=hh k hk
  by_cases e:i=k
  ·subst e;rw[hun']at this;cases this
  ·rw[getD_set_ne false e];exact this
 have low:i∉l1→(∀k∈l1,listed.getD k false=true)→wpOp P ops Q' i K' a c.w:=fun hni hall=>by
  have eH:zA hm l1 i=fun _=>none:=by unfold zA;rw[if_neg (by rw[List.contains_iff_mem];exact hni)]
  rw[eH]at hdi;exact vL hdst (fun c F h a k1 k2 _ k3 k4 hK=>hk c F h a ⟨hset,k1,k2,.inr (late hall),k3,k4⟩ hK) h1 h2 (fun _ _ e=>afT) h3 h4 hdi
 cases he:dR oi.op with
 |true=>obtain⟨hni,hall⟩:=ER hb hc hoi he hi;exact low hni hall
 |false=>
  rcases hor with hs|hall
  ·exact vL hdst (fun c F h a k1 k2 k2' k3 k4 hK=>hk c F h a ⟨hset,k1,k2,.inl k2',k3,k4⟩ hK) h1 h2 hs h3 h4 (TN hoi he (fun j k e=>by
    unfold zA at e;split at e
    ·exact e
    ·cases e) hdi)
  ·exact low (fun hh=>by rw[hall i hh]at hun';cases hun') hall
theorem zm{hm}{Q Q'}(hq:∀F h,Q F h→Q' F h):∀(l:List Nat) (F:EF) (h:Heap),(∀i∈l,H i=hm)→nK P ops (fun _=>hm) Q l F h→nK P ops H Q' l F h
 | [],F,h,_,hd=>hq F h hd
 |i::l,F,h,hh,hd=>by
  show hOp P ops (H i) i _ F h
  rw[hh i afB];exact lX (fun F h hd=>zm hq l F h (fun i hi=>hh i (by simp[hi])) hd) hd
theorem BK{Q}:∀(l l' :List Nat) (F:EF) (h:Heap),nK P ops H (nK P ops H Q l') l F h→nK P ops H Q (l++l') F h
 | [],_,_,_,hd=>hd
 |i::l,l',F,h,hd=>lX (fun F h hd=>BK l l' F h hd) hd
end
section
variable (P : Program) (U : TypeId → TI) (n : Nat)
def KSeq(next:Env→Heap→Prop)(K:Exit→Env→Heap→Prop)(e:Exit)(ρ:Env)(h:Heap):Prop:=
 match e with
 |.normal=>next ρ h
 |e=>K e ρ h
def KBlock(id:Nat)(K:Exit→Env→Heap→Prop)(e:Exit)(ρ:Env)(h:Heap):Prop:=
 match e with
 |.exit j=>if j=id then K .normal ρ h else K (.exit j) ρ h
 |e=>K e ρ h
def wf1:AV→Prop
 |.s l=>l.length<lim
 |.sl xs _=>xs.length<lim
 |_=>True
def wfA:AV→Prop
 |.agg cs=>∀x∈cs,wf1 x
 |.pe y _=>∀x∈y.cells,wf1 x
 |x=>wf1 x
def Wf(ρ:Env):Prop:=∀t x,lk ρ t=some x→wfA x
def Mo(body:Env→Heap→(Exit→Env→Heap→Prop)→Prop)(ρ:Env)(h:Heap)(K:Exit→Env→Heap→Prop):Prop:=
 Wf ρ→∃(I:Nat→Env→Heap→Prop) (m:Nat),I m ρ h∧∀m ρ h,I m ρ h→body ρ h (KSeq (fun ρ' h' =>∃m',m' <m∧I m' ρ' h') K)
def mG(all:List Oper):List Oper→Env→Heap→(Env→Prop)→Prop
 | [],ρ,_,K=>K ρ
 |o::os,ρ,h,K=>fk n o.dst=true∧kD all ρ o.guard
   (fun ρ=>jk P U ρ h o fun X=>mG all os (put ρ o.dst X) h K)
   (fun ρ=>mG all os (put ρ o.dst (.v undef)) h K)
def zF(ops:Array Oper):Bool:=NX .any ops none ops.size 0 (Array.replicate ops.size false)
def C7:Op→Bool
 |.store .. =>true
 |_=>false
def sV:List Oper→Bool
 | []=>false
 | [o]=>C7 o.op && o.guard.isNone
 |_::b::r=>sV (b::r)
def NY(ops:Array Oper):Bool:=F5 .any ops (ops.size - 1) && NX .any ops (some (ops.size - 1)) (ops.size - 1) 0 (Array.replicate ops.size false)
def qI(l:List Oper)(h:Heap)(K:Env→Heap→Prop)(ρ:Env):Prop:=match l.getLast? with
 |some o=>bg P U ρ h o fun X h' =>K (put ρ o.dst X) h'
 |none=>False
def oX(l:List Oper):Bool:=l.all fun o=> !dR o.op
def SF(P:Program)(U:TypeId→TI)(n:Nat)(ops:Array Oper)(ρ:Env)(h:Heap)(K:Env→Heap→Prop):Prop:=
 (ops.toList.all fun o=>fk n o.dst)=true∧
 (zF ops=true∧mG P U n ops.toList ops.toList ρ h (fun ρ=>K ρ h)∨
  (∃(hm:Heap) (t:Ord) (Post:Env→Heap→Prop),Sub hm h∧kN .any ops none t (Array.replicate ops.size false)=true∧t.len=ops.size∧mz P U n ops.toList hm t ρ h Post∧∀ρ h,Post ρ h→K ρ h)∨
  (∃(hm:Heap) (l1 l2:List Nat),Sub hm h∧yy .any ops l1 l2=true∧eE P U n ops.toList hm l1 ρ h (fun ρ h=>∃hm2,Sub hm2 h∧eE P U n ops.toList hm2 l2 ρ h K))∨
  (∃(hm:Heap) (t:Ord),Sub hm h∧F5 .any ops t.len=true∧(ops.toList.getLast?.map fun o=>o.guard.isNone)=some true∧kN .any ops (some t.len) t (Array.replicate ops.size false)=true∧t.len+1=ops.size∧mz P U n ops.toList hm t ρ h (fun ρ h=>qI P U ops.toList h K ρ))∨
  ∃(hm:Heap) (l1 l2:List Nat),Sub hm h∧NT .any ops l1 l2=true∧eE P U n ops.toList hm l1 ρ h (fun ρ h=>eE P U n ops.toList (fun _=>none) l2 ρ h K))
def WP(c:Code)(ρ:Env)(h:Heap)(K:Exit→Env→Heap→Prop):Prop:=
 ∀cx a,Sub h cx.h→Good cx→cw cx n ρ a→c.wp P (WPK n K cx) a cx.w
def KJump(l:Nat)(J:Env→Heap→Prop)(K:Exit→Env→Heap→Prop):Exit→Env→Heap→Prop
 |.goto l',ρ,h=>l' =l∧J ρ h
 |e,ρ,h=>K e ρ h
def bI:Code→Env→Heap→(Exit→Env→Heap→Prop)→Prop
 |.skip,ρ,h,K=>K .normal ρ h
 |.region _ ops draw,ρ,h,K=>if draw then(if sV ops.toList && oX ops.toList.dropLast then(NY ops && ops.toList.all fun o=>fk n o.dst)=true∧mG P U n ops.toList ops.toList.dropLast ρ h (qI P U ops.toList h (K .normal))else if oX ops.toList=false then SF P U n ops ρ h (K .normal)else(zF ops && ops.toList.all fun o=>fk n o.dst)=true∧mG P U n ops.toList ops.toList ρ h (fun ρ=>K .normal ρ h))else lg P U n ops.toList ops.toList ρ h (K .normal)
 |.seq a b,ρ,h,K=>bI a ρ h (KSeq (fun ρ h=>bI b ρ h K) K)
 |.cond c a b,ρ,h,K=>withv ρ c fun
  |.v (.bool t)=>(t=true→bI a ρ h K)∧(t=false→bI b ρ h K)
  |_=>False
 |.block id c,ρ,h,K=>bI c ρ h (KBlock id K)
 |.loop c,ρ,h,K=>Mo (fun ρ h K=>bI c ρ h K) ρ h K
 |.exit id,ρ,h,K=>K (.exit id) ρ h
 |.ret,ρ,h,K=>K .ret ρ h
 |.label _,ρ,h,K=>K .normal ρ h
 |.goto l,ρ,h,K=>K (.goto l) ρ h
 |.scope c,ρ,h,K=>∃(l:Nat) (rest:Code) (J:Nat→Env→Heap→Prop),findLabel c l=some rest∧bI c ρ h (KJump l (fun ρ h=>∃m,J m ρ h) K)∧
  ∀m ρ h,J m ρ h→WP P n rest ρ h (KJump l (fun ρ' h' =>∃m',m' <m∧J m' ρ' h') K)
 |_,_,_,_=>False
end
section
variable {c0:Cx}{c rest:Code}{u:Value}{listed:Array Bool}{F:EF}{hl:Heap}{l1 l2:List Nat}{fn:Func}
variable {P : Program} {U : TypeId → TI} {n : Nat}
theorem WPK.mono{K K'}(hk:∀e ρ h,K e ρ h→K' e ρ h){e}{a}{w}(h:WPK n K c0 e a w):WPK n K' c0 e a w:=by obtain⟨c,ρ,hh,h1,h2,h3,h4,h5,h6⟩:=h;exact⟨c,ρ,hh,h1,h2,h3,h4,h5,hk _ _ _ h6⟩
theorem WP.weaken{ρ}{h}{K K'}(hw:WP P n c ρ h K)(hk:∀e ρ h,K e ρ h→K' e ρ h):WP P n c ρ h K' :=
 fun cx a h1 h2 h3=>wp_mono (hw cx a h1 h2 h3) fun _ _ _=>WPK.mono hk
theorem WP.seq{d}{ρ}{h}{K}(hc:WP P n c ρ h (KSeq (WP P n d · · K) K)):WP P n (.seq c d) ρ h K:=by
 intro cx a h1 h2 h3;refine wp_seq (wp_mono (hc cx a h1 h2 h3) fun e a w hq=>?_)
 obtain⟨c',ρ',h',rfl,g,hE,he,hs,hk⟩:=hq;cases e with
 |normal=>have:=hk c' a hs g he;exact wp_mono this fun _ _ _=>WPK.after hE
 |_=>exact⟨c',ρ',h',rfl,g,hE,he,hs,hk⟩
theorem WP.block{id}{ρ}{h}{K}(hc:WP P n c ρ h (KBlock id K)):WP P n (.block id c) ρ h K:=by
 intro cx a h1 h2 h3;refine wp_block (wp_mono (hc cx a h1 h2 h3) fun e a w hq=>?_)
 obtain⟨c',ρ',h',rfl,g,hE,he,hs,hk⟩:=hq;cases e with
 |exit j=>
  simp only[Exit.inBlock,KBlock]at hk⊢;split
  ·rename_i e;rw[if_pos e]at hk;exact⟨c',ρ',h',rfl,g,hE,he,hs,hk⟩
  ·rename_i e;rw[if_neg e]at hk;exact⟨c',ρ',h',rfl,g,hE,he,hs,hk⟩
 |_=>exact⟨c',ρ',h',rfl,g,hE,he,hs,hk⟩
theorem DB{Q:Exit→Act→World→Prop}(I:Nat→Act→World→Prop)(round:∀m a w,I m a w→c.wp P (Exit.then (fun a' w' =>∃m',m' <m∧I m' a' w') Q) a w):
  ∀m a w,I m a w→(Code.loop c).wp P Q a w:=by
 intro m a w h0 b k cs;have key:∀n a w,I n a w→∃e a' w',Q e a' w'∧Arrives P (lone (b.at a (.code c:: .inLoop c::k)) cs w) b k cs e a' w' :=by
  intro n
  induction n using Nat.strongRecOn with
  |_ n ih=>
   intro a w hI;obtain⟨e,a₁,w₁,hq,harr⟩:=round n a w hI b (.inLoop c::k) cs;cases e with
   |normal=>obtain⟨m',hlt,hI₁⟩:=hq;obtain⟨e₂,a₂,w₂,hq₂,harr₂⟩:=ih m' hlt a₁ w₁ hI₁;exact⟨e₂,a₂,w₂,hq₂,.of_steps (Steps.trans harr (.one step_inLoop)) harr₂⟩
   |exit id=>exact⟨_,a₁,w₁,hq,.pass (x:=.inLoop c) rfl afB harr⟩
   |goto l=>exact⟨_,a₁,w₁,hq,.pass (x:=.inLoop c) rfl afB harr⟩
   |ret=>exact⟨_,a₁,w₁,hq,.pass (x:=.inLoop c) rfl afB harr⟩
   |panic ch=>exact⟨_,a₁,w₁,hq,.pass (x:=.inLoop c) rfl afB harr⟩
   |outgrown=>exact⟨_,a₁,w₁,hq,.pass (x:=.inLoop c) rfl afB harr⟩
 obtain⟨e,a',w',hq,harr⟩:=key m a w h0;exact⟨e,a',w',hq,.of_steps (.one step_loop) harr⟩
def Exit.NN(l:Nat)(J:Act→World→Prop)(Q:Exit→Act→World→Prop):Exit→Act→World→Prop
 |.goto l',a,w=>l' =l∧J a w
 |e,a,w=>Q e a w
theorem Bm{Q:Exit→Act→World→Prop}{a}{w}(l:Nat)(J:Nat→Act→World→Prop)(hf:findLabel c l=some rest)
  (first:c.wp P (Exit.NN l (fun a w=>∃m,J m a w) Q) a w)
  (pass:∀m a w,J m a w→rest.wp P (Exit.NN l (fun a' w' =>∃m',m' <m∧J m' a' w') Q) a w):(Code.scope c).wp P Q a w:=by
 intro b k cs;have hg:gotoIn l (.inScope c::k)=some (.code rest:: .inScope c::k):=by grind [gotoIn]
 have key:∀m a w,J m a w→∃e a' w',Q e a' w'∧Arrives P (lone (b.at a (.code rest:: .inScope c::k)) cs w) b k cs e a' w' :=by
  intro m
  induction m using Nat.strongRecOn with
  |_ m ih=>
   intro a w hJ;obtain⟨e,a₁,w₁,hq,harr⟩:=pass m a w hJ b (.inScope c::k) cs;cases e with
   |normal=>exact⟨.normal,a₁,w₁,hq,Steps.trans harr (.one step_inScope)⟩
   |exit id=>exact⟨.exit id,a₁,w₁,hq,fun k' hk=>harr k' (by grind [exitTo])⟩
   |goto l' =>obtain⟨rfl,m',hlt,hJ'⟩:=hq;obtain⟨e₂,a₂,w₂,hq₂,harr₂⟩:=ih m' hlt a₁ w₁ hJ';exact⟨e₂,a₂,w₂,hq₂,.of_steps (harr _ hg) harr₂⟩
   |ret=>exact⟨_,a₁,w₁,hq,harr⟩
   |panic ch=>exact⟨_,a₁,w₁,hq,harr⟩
   |outgrown=>exact⟨_,a₁,w₁,hq,harr⟩
 obtain⟨e,a₁,w₁,hq,harr⟩:=first b (.inScope c::k) cs;cases e with
 |normal=>exact⟨.normal,a₁,w₁,hq,.head step_scope (Steps.trans harr (.one step_inScope))⟩
 |exit id=>exact⟨.exit id,a₁,w₁,hq,fun k' hk=> .head step_scope (harr k' (by grind [exitTo]))⟩
 |goto l' =>obtain⟨rfl,m,hJ⟩:=hq;obtain⟨e₂,a₂,w₂,hq₂,harr₂⟩:=key m a₁ w₁ hJ;exact⟨e₂,a₂,w₂,hq₂,.of_steps (.head step_scope (harr _ hg)) harr₂⟩
 |ret=>exact⟨_,a₁,w₁,hq,.of_steps (.one step_scope) harr⟩
 |panic ch=>exact⟨_,a₁,w₁,hq,.of_steps (.one step_scope) harr⟩
 |outgrown=>exact⟨_,a₁,w₁,hq,.of_steps (.one step_scope) harr⟩
theorem WP.scope{ρ:Env}{h:Heap}{K:Exit→Env→Heap→Prop}(l:Nat)(J:Nat→Env→Heap→Prop)(hf:findLabel c l=some rest)(first:WP P n c ρ h (KJump l (fun ρ h=>∃m,J m ρ h) K))
  (pass:∀m ρ h,J m ρ h→WP P n rest ρ h (KJump l (fun ρ' h' =>∃m',m' <m∧J m' ρ' h') K)):WP P n (.scope c) ρ h K:=by
 intro cx a h1 h2 h3;refine Bm l (fun m a w=>∃c' ρ' h',c'.w=w∧Good c'∧Ext cx c'∧cw c' n ρ' a∧Sub h' c'.h∧J m ρ' h') hf (wp_mono (first cx a h1 h2 h3) fun e a w hq=>?_) ?_
 ·obtain⟨c2,ρ2,h2,rfl,g2,hE2,he2,hs2,hk⟩:=hq
  cases e with
  |goto l' =>obtain⟨e1,m,hI⟩:=hk;exact⟨e1,m,c2,ρ2,h2,rfl,g2,hE2,he2,hs2,hI⟩
  |_=>exact⟨c2,ρ2,h2,rfl,g2,hE2,he2,hs2,hk⟩
 ·rintro m a w ⟨c',ρ',h',rfl,g,hE,he,hs,hI⟩
  refine wp_mono (pass m ρ' h' hI c' a hs g he) fun e a w hq=>?_
  obtain⟨c2,ρ2,h2,rfl,g2,hE2,he2,hs2,hk⟩:=hq;cases e with
  |goto l' =>obtain⟨e1,m',hlt,hI'⟩:=hk;exact⟨e1,m',hlt,c2,ρ2,h2,rfl,g2,hE.trans hE2,he2,hs2,hI'⟩
  |_=>exact⟨c2,ρ2,h2,rfl,g2,hE.trans hE2,he2,hs2,hk⟩
theorem WP.loop{ρ:Env}{h:Heap}{K:Exit→Env→Heap→Prop}(I:Nat→Env→Heap→Prop)(m:Nat)(h0:I m ρ h)(round:∀m ρ h,I m ρ h→WP P n c ρ h (KSeq (fun ρ' h' =>∃m',m' <m∧I m' ρ' h') K)):
  WP P n (.loop c) ρ h K:=by
 intro cx a h1 h2 h3;refine DB (fun m a w=>∃c' ρ' h',c'.w=w∧Good c'∧Ext cx c'∧cw c' n ρ' a∧Sub h' c'.h∧I m ρ' h') ?_ m a cx.w ⟨cx,ρ,h,rfl,h2,.refl _,h3,h1,h0⟩
 rintro m a w ⟨c',ρ',h',rfl,g,hE,he,hs,hI⟩
 refine wp_mono (round m ρ' h' hI c' a hs g he) fun e a w hq=>?_
 obtain⟨c2,ρ2,h2,rfl,g2,hE2,he2,hs2,hk⟩:=hq;cases e with
 |normal=>obtain⟨m',hlt,hI'⟩:=hk;exact⟨m',hlt,c2,ρ2,h2,rfl,g2,hE.trans hE2,he2,hs2,hI'⟩
 |_=>exact⟨c2,ρ2,h2,rfl,g2,hE.trans hE2,he2,hs2,hk⟩
theorem WP.ops(hU:∀t,aQ P U t){id}{ops}{ρ}{h}{K}(hk:lg P U n ops.toList ops.toList ρ h (K .normal)):WP P n (.region id ops false) ρ h K:=by intro cx a h1 h2 h3;refine wp_region_list ?_;have:=sn (K:=K) hU cx ops.toList ρ h hk cx a (.refl _) h1 h2 h3;simpa using this
theorem Rep.wf1{c}{x}(h:Rep c x u):wf1 x:=by
 cases x with
 |s l=>exact h.me.2
 |sl xs p=>obtain⟨a,cap,sz,val,_,hs⟩:=h.iX;have:=hs.hc;have:=hs.hm;simp only[Ab.wf1];omega
 |_=>trivial
theorem Rep.wf{c}{x}(h:Rep c x u):wfA x:=by
 cases x with
 |agg cs=>
  obtain⟨vs,_,_,hr,_⟩:=h.pQ;intro x hx;obtain⟨i,hi,rfl⟩:=List.mem_iff_getElem.1 hx
  grind [wf1]
 |pe y off=>
  obtain⟨b,o,val,_,_,_,hr,_⟩:=h.vY;intro x hx;obtain⟨i,hi,rfl⟩:=List.mem_iff_getElem.1 hx
  grind [wf1]
 |_=>exact h.wf1
theorem cw.wf{c}{ρ}{a}(h:cw c n ρ a):Wf ρ:=fun t x hx=>(h.rep t x hx).wf
theorem EW{ρ}{d}{x}(hd:lk ρ d=some x):lk ((d,x)::ρ)=lk ρ:=by grind [lk]
theorem qE(hU:∀t,aQ P U t){all}{h}{K}:∀(l:List Oper) (ρ:Env),mG P U n all l ρ h K→dList P all.toArray h (fun F=>∃ρ,lk ρ=F∧K ρ) l (lk ρ)
 | [],ρ,hk=>⟨ρ,rfl,hk⟩
 |o::os,ρ,hk=>by
  obtain⟨hd,hk⟩:=hk;have yes:∀ρ',cL all.toArray (lk ρ) o=some true→lk ρ' =lk ρ→(jk P U ρ' h o fun X=>mG P U n all os (put ρ' o.dst X) h K)→wP P all.toArray h o (dList P all.toArray h (fun F=>∃ρ,lk ρ=F∧K ρ) os) (lk ρ):=by intro ρ' hw hl hv;obtain⟨X,hQ,hX⟩:=Iv hU hv;have:=qE hU os _ hQ;rw[tD,hl]at this;rw[hl]at hX;exact .inl ⟨hw,X,hX,this⟩
  have no:∀ρ',cL all.toArray (lk ρ) o=some false→lk ρ' =lk ρ→mG P U n all os (put ρ' o.dst (.v undef)) h K→wP P all.toArray h o (dList P all.toArray h (fun F=>∃ρ,lk ρ=F∧K ρ) os) (lk ρ):=by intro ρ' hw hl hv;have:=qE hU os _ hv;rw[tD,hl]at this;exact .inr ⟨hw,this⟩
  unfold kD at hk;split at hk
  ·rename_i hg
   exact yes ρ (by grind [cL]) rfl hk
  ·rename_i g want hg
   split at hk
   ·rename_i d hd'
    have hd2:((all.toArray)[g]?).bind (·.dst)=some d:=by grind [rB]
    split at hk
    ·rename_i t ht
     have hw:cL all.toArray (lk ρ) o=some (t==want):=by grind [cL]
     by_cases e:t=want
     ·exact yes _ afv (by grind [EW]) (hk.1 e)
     ·have e' :t= !want:=by cases t<;>cases want<;>simp_all
      exact no _ afv (by grind [EW]) (hk.2 e')
    ·rename_i vs ht
     refine no ρ ?_ rfl hk
     grind [cL]
    ·exact afR
   ·exact afR
theorem WP.any(hm:P.follows .mixedOrders=true){id}{ops}{ρ}{h}{K}(hk:∀c0 c a,Ext c0 c→Sub h c.h→Good c→nw c n (lk ρ) a→wpAny P .any ops (WPK n K c0) ops.size (Array.replicate ops.size false) a c.w):WP P n (.region id ops true) ρ h K:=by
 intro cx a h1 h2 h3;have hE:Ext cx {cx with w:={cx.w with drawn:=cx.w.drawn+1}}:=Ext.draw rfl rfl rfl rfl
 exact wp_region_any hm (hk cx {cx with w:={cx.w with drawn:=cx.w.drawn+1}} a hE h1 (h2.draw rfl rfl rfl rfl) ⟨h3.size,h3.defers,fun t x hx=>(h3.rep t x hx).mono hE⟩)
theorem yg{ops}{K}{c}{h}{a}(hE:Ext c0 c)(hs:Sub h c.h)(g:Good c)(he:nw c n F a)(hz:yF .any ops none listed)(hK:∃ρ,lk ρ=F∧K .normal ρ h):wpAny P .any ops (WPK n K c0) 0 listed a c.w:=by obtain⟨ρ',rfl,hK⟩:=hK;exact⟨by simpa[yF,GG]using hz,c,ρ',h,rfl,g,hE,⟨he.1,he.2.1,he.2.2⟩,hs,hK⟩
theorem Ed(hU:∀t,aQ P U t){ops}{K}{z}{oz}(hoz:ops.toList.getLast? =some oz)(hgz:oz.guard=none)(hzz:ops[z]? =some oz)(hdst:∀o∈ops.toList,fk n o.dst=true){c}{h}{a}(hE:Ext c0 c)(hs:Sub h c.h)(g:Good c)(he:nw c n F a)
  (hz:yF .any ops (some z) listed) (hK:∃ρ,lk ρ=F∧qI P U ops.toList h (K .normal) ρ):wpAny P .any ops (WPK n K c0) 1 listed a c.w:=by
 obtain⟨ρ',rfl,hK⟩:=hK;simp only[yF,GG,Bool.and_eq_true,beq_iff_eq,List.isEmpty_iff]at hz;refine⟨fun e=>(by rw[hz.1]at e;cases e),fun i hi=>?_⟩
 rw[hz.1]at hi;obtain rfl:i=z:=afv;refine wpOp_mono (fun a w hh=>⟨hz.2,hh⟩) ?_
 unfold qI at hK;rw[hoz]at hK;have he' :cw c n ρ' a:=⟨he.1,he.2.1,he.2.2⟩;have hdz:fk n oz.dst=true:=afv;have hu:=nU hU hK hs g he';unfold wpOp;rw[hzz];simp only;rw[if_pos (by grind [Region.wanted])]
 left
 have next:∀u w',fm c (fun X h' =>K .normal (put ρ' oz.dst X) h') u w'→WPK n K c0 .normal (a.put oz.dst u) w' :=by
  rintro u w' ⟨c',x,h',rfl,g',hE',hr,hs',hK⟩
  exact⟨c',_,h',rfl,g',hE.trans hE',(he'.mono hE').put hdz hr,hs',hK⟩
 unfold Oper.wp;generalize (execOp a.eval oz).run P c.w=r at hu;cases r with
 |ok nx w' =>exact aj1
 |halt x w' =>exact hu.elim
theorem WP.draw(hU:∀t,aQ P U t)(hm:P.follows .mixedOrders=true){id}{ops}{ρ}{h}{K}(hdst:∀o∈ops.toList,fk n o.dst=true)(hB:zF ops=true)
  (hk:mG P U n ops.toList ops.toList ρ h (fun ρ=>K .normal ρ h)):WP P n (.region id ops true) ρ h K:=
 WP.any hm fun c0 c a hE h1 h2 h3=>by
 have hd:=yW (md:=.any) (ops:=ops) (z:=none) (fun k e=>afT) ops.toList 0 (Array.replicate ops.size false) (lk ρ) h (.none _ _ _) afB (by grind [zF]) (by simpa using qE hU ops.toList ρ hk)
 simpa using yX (m:=0) hdst (fun listed c F g a k1 k2 k3 k4 he hq=>yg k1 k2 k3 k4 he hq) _ _ c _ h a hE h1 h2 h3 hd
theorem WP.IU(hU:∀t,aQ P U t)(hm:P.follows .mixedOrders=true){id:Nat}{ops}{ρ:Env}{h:Heap}{K:Exit→Env→Heap→Prop}{t}{Post:Env→Heap→Prop}(hdst:∀o∈ops.toList,fk n o.dst=true)(hsub:Sub hl h)
  (hB:kN .any ops none t (Array.replicate ops.size false)=true) (hlen:t.len=ops.size)
  (hk:mz P U n ops.toList hl t ρ h Post) (hp:∀ρ h,Post ρ h→K .normal ρ h):WP P n (.region id ops true) ρ h K:=
 WP.any hm fun c0 c a hE h1 h2 h3=>by
 have hd:=lE (md:=.any) (all:=ops.toList) (z:=none) hU (y8 fun k e=>afT) t (Array.replicate ops.size false) ρ h (.none _ _ _) hB hk
 have:=qc (m:=0) hdst (fun listed c F h a k1 k2 k3 k4 he ⟨ρ,e,hq⟩=>yg k1 k2 k3 k4 he ⟨ρ,e,hp _ _ hq⟩) _ _ c _ h a hE h1 (fun i k hi=>h1 _ _ (hsub _ _ hi)) h2 h3 hd
 rw[hlen,Nat.zero_add]at this;exact agc
theorem WP.Wz(hU:∀t,aQ P U t)(hm:P.follows .mixedOrders=true){id:Nat}{ops}{ρ:Env}{h:Heap}{K:Exit→Env→Heap→Prop}(hdst:∀o∈ops.toList,fk n o.dst=true)(hsub:Sub hl h)
  (hB:yy .any ops l1 l2=true) (hk:eE P U n ops.toList hl l1 ρ h (fun ρ h=>∃hm2,Sub hm2 h∧eE P U n ops.toList hm2 l2 ρ h (K .normal))):WP P n (.region id ops true) ρ h K:=
 WP.any hm fun c0 c a hE h1 h2 h3=>by
 simp only[yy,Bool.and_eq_true,List.all_eq_true,beq_iff_eq]at hB;obtain⟨⟨⟨⟨b1,b2⟩,b3⟩,b4⟩,b5⟩:=hB;have hcl:=Closed.none .any ops ops.size;have hd:=jU (md:=.any) 0 l1 (Array.replicate ops.size false) (lk ρ) h (Nd b2 b3) hcl b1 (jK (fun F h hh=>⟨rfl,hh⟩) l1 _ h (dY hU l1 ρ h hk))
 rw[Nat.zero_add]at hd;have:=qc (m:=l2.length) hdst (fun listed c F h a k1 k2 k3 k4 he hR=>by
  subst he;obtain⟨ρ',rfl,hm2,hs2,hk2⟩:=hR;have ha:=lE (md:=.any) (all:=ops.toList) (z:=none) (hm:=hm2) hU (y8 fun k e=>afT) (.seq l2) _ ρ' h (ju l1 _ hcl b1) b4 hk2
  have:=qc (m:=0) hdst (fun listed c F h a k1 k2 k3 k4 he hq=>yg k1 k2 k3 k4 he hq) _ _ c _ h a k1 k2 (fun i k hi=>k2 _ _ (hs2 _ _ hi)) k3 k4 ha
  rwa [Nat.zero_add]at this) _ _ c _ h a hE h1 (fun i k hi=>h1 _ _ (hsub _ _ hi)) h2 h3 hd
 rw[b5]at this;exact agc
theorem WP.Wy(hU:∀t,aQ P U t)(hm:P.follows .mixedOrders=true){id}{ops}{ρ}{h}{K}(hdst:∀o∈ops.toList,fk n o.dst=true)(hsub:Sub hl h)
  (hB:NT .any ops l1 l2=true) (hk:eE P U n ops.toList hl l1 ρ h (fun ρ h=>eE P U n ops.toList (fun _=>none) l2 ρ h (K .normal))):WP P n (.region id ops true) ρ h K:=
 WP.any hm fun c0 c a hE h1 h2 h3=>by
 simp only[NT,kN,Bool.and_eq_true,beq_iff_eq,List.all_eq_true]at hB;obtain⟨⟨⟨b1,b2,b5⟩,b3⟩,b4⟩:=hB;have hcl:=Closed.none .any ops ops.size;have hd2:nK P ops (zA hl l1) (fun F h=>∃ρ,lk ρ=F∧K .normal ρ h) (l1++l2) (lk ρ) h:=
  BK _ _ _ _ (zm (fun F h ⟨ρ',e,hk2⟩=>by subst e;exact zm (fun _ _ hh=>hh) l2 _ h (fun i hi=>by have:=b4 i hi;unfold zA;rw[if_neg (by simpa using this)]) (dY hU l2 ρ' h hk2)) l1 _ h (fun i hi=>by unfold zA;rw[if_pos (List.contains_iff_mem.2 hi)]) (dY hU l1 ρ h hk))
 have ha:=jU (md:=.any) (E:=yF .any ops none) 0 _ _ _ _ (fun i _=>y8 (fun k e=>afT) i) hcl b2 (jK (fun F h hh=>⟨b5,hh⟩) _ _ h hd2)
 rw[Nat.zero_add]at ha;have:=Hu b1 hdst (fun listed c F h a k1 k2 k3 k4 he hq=>yg k1 k2 k3 k4 he hq) _ _ c _ h a hcl hE h1 (fun i k hi=>h1 _ _ (hsub _ _ hi)) h2 h3 ha
 rw[b3,Nat.zero_add]at this;exact agc
theorem zz:∀ {l:List Oper},sV l=true→∃o,l.getLast? =some o∧o.guard=none
 | [o],h=>⟨o,rfl,by simp_all [sV,Bool.and_eq_true]⟩
 |_::b::r,h=>by
  obtain⟨o,h1,h2⟩:=zz (l:=b::r) h
  grind
theorem WP.WB(hU:∀t,aQ P U t)(hm:P.follows .mixedOrders=true){id:Nat}{ops}{ρ:Env}{h:Heap}{K:Exit→Env→Heap→Prop}{l}(hdst:∀o∈ops.toList,fk n o.dst=true)(hsub:Sub hl h)
  (hz:F5 .any ops l.len=true) (hg:(ops.toList.getLast?.map fun o=>o.guard.isNone)=some true) (hB:kN .any ops (some l.len) l (Array.replicate ops.size false)=true) (hlen:l.len+1=ops.size)
  (hk:mz P U n ops.toList hl l ρ h (fun ρ h=>qI P U ops.toList h (K .normal) ρ)):WP P n (.region id ops true) ρ h K:=
 WP.any hm fun c0 c a hE h1 h2 h3=>by
 obtain⟨oz,hoz,hgz⟩:=Option.map_eq_some_iff.1 hg;have hzz:ops[l.len]? =some oz:=by grind
 have hd:=lE (md:=.any) (all:=ops.toList) (z:=some l.len) hU (y8 fun k e=>by cases e;exact hz) l (Array.replicate ops.size false) ρ h (.none _ _ _) hB hk
 have:=qc (m:=1) hdst (fun listed c F h a k1 k2 k3 k4 he hq=>Ed hU hoz (by simpa using hgz) hzz hdst k1 k2 k3 k4 he hq) _ _ c _ h a hE h1 (fun i k hi=>h1 _ _ (hsub _ _ hi)) h2 h3 hd
 rw[Nat.add_comm,hlen]at this;exact agc
theorem WP.WA(hU:∀t,aQ P U t)(hm:P.follows .mixedOrders=true){id:Nat}{ops}{ρ:Env}{h:Heap}{K:Exit→Env→Heap→Prop}(hdst:∀o∈ops.toList,fk n o.dst=true)(hl:sV ops.toList=true)(hB:NY ops=true)
  (hk:mG P U n ops.toList ops.toList.dropLast ρ h (qI P U ops.toList h (K .normal))):WP P n (.region id ops true) ρ h K:=
 WP.any hm fun c0 c a hE h1 h2 h3=>by
 obtain⟨oz,hoz,hgz⟩:=zz hl;unfold NY at hB;rw[Bool.and_eq_true]at hB;have hpos:0<ops.size:=by grind
 have hz:ops[ops.size - 1]? =some oz:=by grind
 have hlen:ops.toList.dropLast.length=ops.size - 1:=afB;have hd:=yW (md:=.any) (ops:=ops) (z:=some (ops.size - 1)) (fun k e=>by cases e;exact hB.1) ops.toList.dropLast 0 (Array.replicate ops.size false) (lk ρ) h (.none _ _ _) afv afv (by simpa using qE hU ops.toList.dropLast ρ hk)
 have:=yX (m:=1) hdst (fun listed c F g a k1 k2 k3 k4 he hq=>Ed hU hoz hgz hz hdst k1 k2 k3 k4 he hq) _ _ c _ h a hE h1 h2 h3 hd
 rw[hlen,Nat.add_comm,Nat.sub_add_cancel hpos]at this;exact agc
theorem dW(hU:∀t,aQ P U t)(hm:P.follows .mixedOrders=true):∀(c:Code) (ρ:Env) (h:Heap) (K:Exit→Env→Heap→Prop),bI P U n c ρ h K→WP P n c ρ h K
 |.skip,ρ,h,K,hk=>fun cx a h1 h2 h3=>wp_skip ⟨cx,ρ,h,rfl,h2,.refl _,h3,h1,hk⟩
 |.region id ops draw,ρ,h,K,hk=>by
  simp only[bI]at hk;cases draw with
  |true=>
   simp only[if_true]at hk;split at hk
   ·rename_i hl
    obtain⟨hb,hk⟩:=hk;rw[Bool.and_eq_true,List.all_eq_true]at hb;rw[Bool.and_eq_true]at hl;exact WP.WA hU hm hb.2 hl.1 hb.1 hk
   ·split at hk
    ·obtain⟨hb,hk⟩:=hk
     rw[List.all_eq_true]at hb;rcases hk with⟨h1,hk⟩|⟨hm',t,Post,h1,h2,h3,hk,hp⟩|⟨hm',l1,l2,h1,h2,hk⟩|⟨hm',l,h1,h2,h4,h5,h6,hk⟩|⟨hm',l1,l2,h1,h2,hk⟩
     ·exact WP.draw hU hm hb h1 hk
     ·exact WP.IU hU hm hb h1 h2 h3 hk hp
     ·exact WP.Wz hU hm hb h1 h2 hk
     ·exact WP.WB hU hm hb h1 h2 h4 h5 h6 hk
     ·exact WP.Wy hU hm hb h1 h2 hk
    ·obtain⟨hb,hk⟩:=hk
     rw[Bool.and_eq_true,List.all_eq_true]at hb;exact WP.draw hU hm hb.2 hb.1 hk
  |false=>exact WP.ops hU afv
 |.seq a b,ρ,h,K,hk=>by
  simp only[bI]at hk;refine WP.seq ((dW hU hm a ρ h _ hk).weaken fun e ρ' h' hh=>?_)
  cases e with
  |normal=>exact dW hU hm b ρ' h' K hh
  |_=>exact hh
 |.cond c a b,ρ,h,K,hk=>by
  simp only[bI]at hk;obtain⟨y,hy,hk⟩:=aJ hk;split at hk
  ·rename_i t
   intro cx ac h1 h2 h3;have hv:=(aI h3 hy).bV;exact wp_cond_split hv (fun e=>dW hU hm a ρ h K (hk.1 e) cx ac h1 h2 h3) (fun e=>dW hU hm b ρ h K (hk.2 e) cx ac h1 h2 h3)
  ·exact afR
 |.block id c,ρ,h,K,hk=>WP.block (dW hU hm c ρ h _ (by grind [bI]))
 |.loop c,ρ,h,K,hk=>by simp only[bI]at hk;intro cx a h1 h2 h3;obtain⟨I,m,h0,hr⟩:=hk h3.wf;exact WP.loop I m h0 (fun m ρ h hI=>dW hU hm c ρ h _ (hr m ρ h hI)) cx a h1 h2 h3
 |.exit id,ρ,h,K,hk=>fun cx a h1 h2 h3=>wp_exit ⟨cx,ρ,h,rfl,h2,.refl _,h3,h1,aiC⟩
 |.ret,ρ,h,K,hk=>fun cx a h1 h2 h3=>wp_ret ⟨cx,ρ,h,rfl,h2,.refl _,h3,h1,aiC⟩
 |.label l,ρ,h,K,hk=>fun cx a h1 h2 h3=>wp_label ⟨cx,ρ,h,rfl,h2,.refl _,h3,h1,aiC⟩
 |.goto l,ρ,h,K,hk=>fun cx a h1 h2 h3=>wp_goto ⟨cx,ρ,h,rfl,h2,.refl _,h3,h1,aiC⟩
 |.rangeFunc ..,_,_,_,hk=>by simp[bI]at hk
 |.scope c,ρ,h,K,hk=>by simp only[bI]at hk;obtain⟨l,rest,J,hf,h1,h2⟩:=hk;exact WP.scope l J hf (dW hU hm c ρ h _ h1) h2
 |.refuse _,_,_,_,hk=>by simp[bI]at hk
def tK(ρ:Env)(h:Heap)(U:TypeId→TI):List ResultVar→(List AV→Prop)→Prop
 | [],k=>k []
 |.tmp t::r,k=>match lk ρ t with
  |some x=>tK ρ h U r fun xs=>k (x::xs)
  |none=>False
 |.cell t ty::r,k=>match lk ρ t with
  |some (.ptr id off)=>match h id with
   |some (.obj cs _)=>(U ty).sz≠0∧(U ty).k≠ .other∧iW cs off (U ty) fun x=>tK ρ h U r fun xs=>k (x::xs)
   |_=>False
  |_=>False
def ax(xs:List AV):AV:=match xs with
 | [x]=>x
 |xs=> .tup xs
inductive Weak:AV→AV→Prop where
 |refl (x:AV):Weak x x
 |sl (xs:List AV) (p:Perm):Weak (.sl xs p) (.sl xs .no)
 |agg (xs ys:List AV) (hl:xs.length=ys.length) (h:∀i (h1:i<xs.length) (h2:i<ys.length),Weak xs[i] ys[i]):Weak (.agg xs) (.agg ys)
 |tup (xs ys:List AV) (hl:xs.length=ys.length) (h:∀i (h1:i<xs.length) (h2:i<ys.length),Weak xs[i] ys[i]):Weak (.tup xs) (.tup ys)
 |deep (xs ys:List AV) (p:Perm) (hl:xs.length=ys.length) (hc:∀i (h1:i<xs.length) (h2:i<ys.length),xs[i].cells.length=ys[i].cells.length)
   (h:∀i (h1:i<xs.length) (h2:i<ys.length) j (h3:j<xs[i].cells.length) (h4:j<ys[i].cells.length),Weak xs[i].cells[j] ys[i].cells[j]):Weak (.sl xs p) (.sl ys .no)
theorem Rep.weak{c}{x y}(hw:Weak x y):∀ {u:Value},Rep c x u→Rep c y u:=by
 induction hw with
 |refl x=>simp
 |sl xs p=>intro u h;obtain⟨a,cap,sz,val,rfl,hs⟩:=h.iX;exact .sl xs .no a cap sz val hs.hc hs.hm hs.h0 hs.hs hs.hz hs.hf hs.hr hs.ho trivial
 |agg xs ys hl h ih=>intro u hu;obtain⟨vs,rfl,h1,h2,h3⟩:=hu.pQ;exact .agg ys vs afu afv afv
 |tup xs ys hl h ih=>intro u hu;obtain⟨vs,rfl,h1,h2⟩:=hu.Dx;exact .tup ys vs afu afv
 |deep xs ys p hl hc h ih=>
  intro u hu;obtain⟨a,cap,sz,val,rfl,hs⟩:=hu.iX;rw[hl];exact .sl ys .no a cap sz val (by rw[←hl];exact hs.hc) hs.hm hs.h0 hs.hs (fun i hi=>by rw[←hc i afu hi];exact hs.hz i afu) (fun q hq i j hi hj=>hs.hf q hq i j afu hj)
   (fun i hi j hj=>ih i afu hi j afv hj (hs.hr i afu j afv)) (fun i j hi hj=>hs.ho i j afu hj) trivial
theorem tL(hU:∀t,aQ P U t){c}{ρ}{h}{a}(hs:Sub h c.h)(g:Good c)(he:cw c n ρ a):∀(rs:List ResultVar) (k:List AV→Prop),tK ρ h U rs k→
  ∃(xs:List AV) (vs:List Value),k xs∧vs.length=xs.length∧(∀i (h1:i<xs.length) (h2:i<vs.length),Rep c xs[i] vs[i])∧
   (rs.mapM fun(r:ResultVar)=>match r with|.tmp t=>(pure (a.tmps.getD t undef):Sem Value)|.cell q t=>do loadVar t (←asAddr (a.tmps.getD q undef))).run P c.w= .ok vs c.w
 | [],k,hk=>⟨[],[],hk,rfl,fun i h=>agp,afB⟩
 |.tmp t::r,k,hk=>by
  simp only[tK]at hk;split at hk
  ·rename_i x hx
   obtain⟨xs,vs,h1,h2,h3,h4⟩:=tL hU hs g he r _ hk;refine⟨x::xs,a.tmps.getD t undef::vs,h1,afv,fun i hi1 hi2=>?_,?_⟩
   ·cases i with
    |zero=>exact he.rep _ _ hx
    |succ i=>exact h3 i afv afv
   simp_all
  grind
 |.cell t ty::r,k,hk=>by
  simp only[tK]at hk;split at hk
  ·rename_i id off hx
   split at hk
   ·rename_i cs t' hid
    obtain⟨hz,ht,hk⟩:=hk;obtain⟨x,hk,hX⟩:=tH (P:=P) hU hz ht hk;obtain⟨xs,vs,h1,h2,h3,h4⟩:=tL hU hs g he r _ hk;obtain⟨hu,_⟩:=(he.rep _ _ hx).lO;obtain⟨us,u1,u2,u3⟩:=g.obj id cs t' (hs _ _ hid);obtain⟨v,v1,v2⟩:=hX c (c.φ id).block 0 (fun j=>us.getD j undef) (fun j hj=>by simp_all [World.cell?]) (fun j hj=>(u3 j hj).1) (fun j hj=>(u3 j hj).2)
    rw[Nat.zero_add]at v1;refine⟨x::xs,v::vs,h1,afv,fun i hi1 hi2=>?_,?_⟩
    ·cases i with
     |zero=>exact v2
     |succ i=>exact h3 i afv afv
    simp_all [asAddr,undef,none]
   grind
  grind
def za(args:List AV):Env:=args.zipIdx.map fun p=>(p.2,p.1)
theorem zI:∀(args:List AV) (k t:Nat),lk ((args.zipIdx k).map fun p=>(p.2,p.1)) t=if k≤t then args[t - k]? else none
 | [],k,t=>by simp[lk]
 |x::r,k,t=>by
  have ih:=zI r (k+1) t;simp only[List.zipIdx_cons,List.map_cons,lk,ih]
  by_cases e:k=t
  ·subst e;simp
  ·rw[if_neg e]
   by_cases h:k≤t
   ·rw[if_pos afu,if_pos h]
    rw[show t - k=(t - (k+1))+1 by omega]
    rfl
   ·rw[if_neg afu,if_neg h]
def wK(U:TypeId→TI)(rs:List ResultVar)(Q:AV→Heap→Prop)(e:Exit)(ρ:Env)(h:Heap):Prop:=
 (match e with|.ret|.normal=>True|_=>False)∧tK ρ h U rs fun xs=>∃y h',Weak (ax xs) y∧Sub h' h∧Q y h'
theorem ai.Oh(hU:∀t,aQ P U t){f}{args}{h}{Q}(hf:P.funcs[f]? =some fn)(hb:fn.body=some c)
  (hn : (fn.name == "runtime.NumGoroutine") = false) (hl : args.length ≤ fn.ntmps)
  (hk:(∀x∈args,wfA x)→WP P fn.ntmps c (za args) h (wK U fn.results.toList Q)):ai P f args h Q:=by
 intro cx vs hs g hv hr;refine .inl ⟨⟨fn,hf,hn,afv⟩,calls_of_wp hf hb ?_⟩;have hwf:∀x∈args,wfA x:=fun x hx=>by obtain⟨i,hi,rfl⟩:=List.mem_iff_getElem.1 hx;exact(hr i hi).wf
 have hw:=hk hwf;have he:cw cx fn.ntmps (za args) {tmps:=vs++Array.replicate (fn.ntmps - vs.size) undef,defers:=[]}:=by
  refine⟨afv,rfl,fun t x hx=>?_⟩
  have:=zI args 0 t;simp only[Nat.zero_le,if_true,Nat.sub_zero]at this;have e:lk (za args) t=args[t]? :=this;rw[e]at hx;obtain⟨hi,rfl⟩:=List.getElem?_eq_some_iff.1 hx;have h1:=hr t hi;have h2:t<vs.size:=afu;have e2:(vs++Array.replicate (fn.ntmps - vs.size) undef).getD t undef=vs.getD t undef:=by
   rw[Array.getD,dif_pos afv,Array.getD,dif_pos h2]
   simp_all
  simp only[e2];exact h1
 refine wp_mono (hw cx _ hs g he) fun e a w hq=>?_
 obtain⟨c',ρ',h',rfl,g',hE,he',hs',hk1,hk2⟩:=hq;obtain⟨xs,us,⟨y,h'',hwk,hsub,hQ⟩,hl',hr',hrun⟩:=tL hU hs' g' he' _ _ hk2;have hres:∃u,(results fn a.tmps).run P c'.w= .ok u c'.w∧Rep c' (ax xs) u:=by
  have hrun' :(fn.results.mapM fun(r:ResultVar)=>match r with|.tmp t=>(pure (a.tmps.getD t undef):Sem Value)|.cell q t=>do loadVar t (←asAddr (a.tmps.getD q undef))).run P c'.w= .ok us.toArray c'.w:=by simp_all [Array.mapM_eq_mapM_toList,Sem.run_map]
  have hres0:(results fn a.tmps).run P c'.w= .ok (if h:us.toArray.size=1 then us.toArray[0]else .tuple us.toArray) c'.w:=by
   have e0:results fn a.tmps=(fn.results.mapM fun(r:ResultVar)=>match r with|.tmp t=>(pure (a.tmps.getD t undef):Sem Value)|.cell q t=>do loadVar t (←asAddr (a.tmps.getD q undef)))>>=fun vs=>pure (if h:vs.size=1 then vs[0]else .tuple vs):=rfl
   rw[e0,Sem.run_bind,hrun'];rfl
  by_cases h1:us.length=1
  ·obtain⟨u,rfl⟩:=List.length_eq_one_iff.1 h1
   obtain⟨x,rfl⟩:=List.length_eq_one_iff.1 (hl'.symm.trans h1);refine⟨u,?_,hr' 0 afB afB⟩
   grind
  ·refine⟨.tuple us.toArray,?_,?_⟩
   ·grind
   ·have:ax xs= .tup xs:=by
     cases xs with
     |nil=>rfl
     |cons x r=>cases r with
      |nil=>grind
      |cons y q=>rfl
    rw[this];refine .tup xs _ afu fun i hi=>?_
    have:=hr' i hi afu;simpa[show i<us.length by omega]using this
 obtain⟨u,hu1,hu2⟩:=hres;have fin:a.defers= []∧∃v,(results fn a.tmps).run P c'.w= .ok v c'.w∧∃u,Ending.returned v= .returned u∧fm cx Q u c'.w:=
  ⟨he'.defers,u,hu1,u,rfl,c',y,h'',rfl,g',hE,hu2.weak hwk,fun id k hk=>hs' _ _ (hsub _ _ hk),hQ⟩
 cases e with
 |normal=>exact fin
 |ret=>exact fin
 |_=>exact hk1.elim
theorem ai.Xp(hU:∀t,aQ P U t)(hm:P.follows .mixedOrders=true){f}{args}{h}{Q}(hf:P.funcs[f]? =some fn)(hb:fn.body=some c)
  (hn : (fn.name == "runtime.NumGoroutine") = false) (hl : args.length ≤ fn.ntmps)
  (hk:(∀x∈args,wfA x)→bI P U fn.ntmps c (za args) h (wK U fn.results.toList Q)):ai P f args h Q:=
 ai.Oh hU hf hb hn hl fun hw=>dW hU hm c _ h _ (hk hw)
end
def AP:AV→Value→Bool
 |.v (.int k n),.int k' m=>decide (k=k') && decide (n=m)
 |.v (.bool a),.bool b=>a==b
 |.s [],.string b=>b.data.toList.isEmpty
 |.sl [] .full,.slice none 0 0=>true
 |.v (.pointer none),.pointer none=>true
 |.v .nilIface,.nilIface=>true
 |.v .nilFunc,.nilFunc=>true
 |.v (.map none),.map none=>true
 |.v (.complex k a b),.complex k' a' b' =>decide (k=k') && a==a' && b==b'
 |_,_=>false
theorem tQ{x}{v}(h:AP x v=true)(c):Rep c x v∧v.oneCell' =true:=by
 unfold AP at h;split at h
 ·simp at h;obtain⟨rfl,rfl⟩:=h;exact⟨.v _,rfl⟩
 ·simp at h;subst h;exact⟨.v _,rfl⟩
 ·rename_i b
  have e:b=⟨([]:List UInt8).toArray⟩:=by
   apply ByteArray.ext
   grind
  subst e;exact⟨.s [] afy,rfl⟩
 ·exact⟨Al c (.slice none 0 0),rfl⟩
 ·exact ajx
 ·exact ajx
 ·exact ajx
 ·exact ajx
 ·simp at h;obtain⟨⟨rfl,rfl⟩,rfl⟩:=h;exact⟨.v _,rfl⟩
 grind
def wF:List AV→List Value→Bool
 | [],[]=>true
 |x::xs,v::vs=>AP x v && wF xs vs
 |_,_=>false
theorem xO:∀ {xs:List AV} {vs:List Value},wF xs vs=true→xs.length=vs.length∧∀i (h1:i<xs.length) (h2:i<vs.length),AP xs[i] vs[i]=true
 | [],[],_=>afB
 |x::xs,v::vs,h=>by
  simp only[wF,Bool.and_eq_true]at h;obtain⟨h1,h2⟩:=xO h.2
  grind
 | [],_::_,h=>by grind [wF]
 |_::_,[],h=>by grind [wF]
def Pw:AV→Value→Bool
 |.agg xs,.agg vs=>wF xs vs.toList
 |x,v=>AP x v
theorem Mh{x}{v}(h:Pw x v=true)(c):Rep c x v:=by
 unfold Pw at h;split at h
 ·rename_i xs vs
  obtain⟨h1,h2⟩:=xO h;have hl:vs.size=xs.length:=afv;refine .agg xs vs hl (fun i hi=>?_) (fun i hi=>?_)
  ·have:=(tQ (h2 i hi afu) c).1
   simpa[show i<vs.size by omega]using this
  ·have:=(tQ (h2 i hi afu) c).2
   simpa[show i<vs.size by omega]using this
 ·exact(tQ h c).1
def M1(P:Program)(U:TypeId→TI)(t:TypeId):Bool:=
 match (U t).k,P.underlying t with
 |.int k,some (.int k')=>decide (k' =k)
 |.bool,some .bool=>true
 |.str,some .string=>true
 |.slice e,some (.slice e')=>decide (e' =e)
 |.strct fs,some (.struct fields)=>decide (fields.toList.map (fun f=>(f.offset,f.type))=fs) && fs.all fun p=>(U p.2).sz !=0
 |.ptr e,some (.pointer e')=>decide (e' =e)
 |.arr n e,some (.array n' e')=>decide (n' =n) && decide (e' =e)
 |.iface,some (.interface _)=>true
 |.cplx k,some (.complex k')=>decide (k' =k)
 |.map k e,some (.map k' e')=>decide (k' =k) && decide (e' =e)
 |.other,_=>true
 |_,_=>false
def NC(P:Program)(U:TypeId→TI)(t:TypeId):Bool:=
 (U t).sz==0||match P.info? t with
  |some i=>i.size==(U t).sz && i.bytes==(U t).bytes && match i.zero with
   |some z=>z.cells.size==(U t).sz && Pw (U t).zero z
   |none=>false
  |none=>false
def Pf(P:Program)(U:TypeId→TI)(t:TypeId):Bool:=match (U t).k with
 |.strct []=>match P.info? t with
  |some i=>match i.zero with
   |some (.agg vs)=>vs.isEmpty && i.size==0
   |_=>false
  |none=>false
 |_=>true
def UC:TK→TK→Bool
 |.int a,.int b=>decide (a=b)
 |.bool,.bool=>true
 |.str,.str=>true
 |.cplx a,.cplx b=>decide (a=b)
 |_,_=>false
theorem Rv{a b}(h:UC a b=true):a=b:=by
 unfold UC at h
 grind
def vf:List TK→List TK→Bool
 | [],[]=>true
 |x::xs,y::ys=>UC x y && vf xs ys
 |_,_=>false
theorem vg:∀ {a b:List TK},vf a b=true→a=b
 | [],[],_=>rfl
 | [],_::_,h=>agp
 |_::_,[],h=>agp
 |x::xs,y::ys,h=>by simp only[vf,Bool.and_eq_true]at h;rw[Rv h.1,vg h.2]
def AD(U:TypeId→TI)(r:Nat):List (Nat×TypeId)→Nat→List TK→Bool
 | [],_,l=>l.isEmpty
 |f::fs,o,l=>match (U f.2).eq with
  |some (r',l')=>f.1==o && decide (r' <r) && vf (l.take l'.length) l' && AD U r fs (o+l'.length) (l.drop l'.length)
  |none=>false
theorem xJ{U}{r}:∀ {fs:List (Nat×TypeId)} {o:Nat} {l:List TK},AD U r fs o l=true→FV U r fs o l
 | [],o,l,h=>by grind [AD,FV]
 |f::fs,o,l,h=>by
  unfold AD at h;split at h
  ·rename_i r' l' he
   simp only[Bool.and_eq_true,beq_iff_eq,decide_eq_true_eq]at h;obtain⟨⟨⟨h1,h2⟩,h3⟩,h4⟩:=h;exact⟨h1,r',l',he,h2,vg h3,xJ h4⟩
  grind
def eqB(P:Program)(U:TypeId→TI)(t:TypeId):Bool:=match (U t).eq with
 |none=>true
 |some (r,l)=>l.length==(U t).sz && !l.isEmpty && decide (r<100) && match (U t).k with
  |.int k=>vf l [.int k]
  |.bool=>vf l [.bool]
  |.str=>vf l [.str]
  |.cplx k=>vf l [.cplx k]
  | .strct fs => !P.stoodInHeld t && !P.eqGuardType P.depth t && (P.fieldsOf t).toList.all (fun f => f.name != "_") && AD U r fs 0 l
  |.arr n e=> !P.eqGuardType P.depth t && match (U e).eq with
   |some (r',l')=>decide (r' <r) && vf l (List.replicate n l').flatten
   |none=>false
  |_=>false
theorem Ng{P}{U}{t}(h:eqB P U t=true):∀r l,(U t).eq=some (r,l)→PF P U t r l:=by
 intro r l he;unfold eqB at h;rw[he]at h;simp only[Bool.and_eq_true,beq_iff_eq,decide_eq_true_eq,Bool.not_eq_true']at h;obtain⟨⟨⟨h1,h2⟩,h3⟩,h4⟩:=h;refine⟨h1,(by intro e;rw[e]at h2;cases h2),h3,?_⟩
 cases hk:(U t).k<;>rw[hk]at h4<;>simp only at h4⊢<;>first|exact vg h4|(cases h4)|skip
 ·simp only[Bool.and_eq_true,Bool.not_eq_true',List.all_eq_true]at h4
  obtain⟨⟨⟨g1,g2⟩,g3⟩,g4⟩:=h4;exact⟨g1,g2,fun f hf=>by simpa using g3 f (by simpa using hf),xJ g4⟩
 ·simp only[Bool.and_eq_true,Bool.not_eq_true']at h4
  obtain⟨g1,g2⟩:=h4;split at g2
  ·rename_i r' l' he'
   simp only[Bool.and_eq_true,decide_eq_true_eq]at g2;exact⟨g1,r',l',he',g2.1,vg g2.2⟩
  ·cases g2
theorem Mv{P}{U}{t}(h1:M1 P U t=true)(h2:NC P U t=true)(h3:Pf P U t=true)(h4:eqB P U t=true):aQ P U t:=by
 refine⟨?_,fun hz=>?_,fun hz=>?_,Ng h4⟩
 ·unfold M1 at h1
  grind
 ·unfold NC at h2
  simp only[Bool.or_eq_true,beq_iff_eq,hz,false_or]at h2;split at h2
  ·rename_i i hi
   simp only[Bool.and_eq_true,beq_iff_eq]at h2;obtain⟨⟨h3,h4⟩,h5⟩:=h2;split at h5
   ·simp_all [Bool.and_eq_true,beq_iff_eq,Mh]
   grind
  grind
 ·unfold Pf at h3
  grind
theorem JU{P}{U}(N)(h:(List.range N).all (fun t=>M1 P U t && NC P U t && Pf P U t && eqB P U t)=true)(h' :∀t,N≤t→U t=⟨.other,0,0,default,none⟩):∀t,aQ P U t:=by
 intro t
 by_cases ht:t<N
 ·simp_all [List.all_eq_true,Bool.and_eq_true,Mv]
 ·have:=h' t afv
  exact⟨afv,fun hz=>afv,fun hz=>afv,fun r l he=>afv⟩
section
variable {sz m:Nat}{I:Nat→Env→Heap→Prop}{c:Code}
variable {P : Program} {U : TypeId → TI} {n : Nat} {ρ : Env} {h : Heap}
def aF{α:Type}(o:Option α)(k:α→Prop):Prop:=match o with
 |some y=>k y
 |none=>False
@[congr] theorem R7{α:Type}{o o' :Option α}{k:α→Prop}(e:o=o'):aF o k=aF o' k:=by rw[e]
theorem dQ{α:Type}(y:α)(k:α→Prop):aF (some y) k=k y:=(rfl)
def Br(t:Bool)(A B:Prop):Prop:=(t=true→A)∧(t=false→B)
@[congr] theorem V0{t t'}{A B:Prop}(e:t=t'):Br t A B=Br t' A B:=by rw[e]
attribute [go_sem] dQ
@[go_sem] theorem X0(A B:Prop):Br true A B=A:=by simp[Br]
theorem V1(A B:Prop):Br false A B=B:=by simp[Br]
def atH(Q:AV→Heap→Prop)(h:Heap)(r:AV):Prop:=Q r h
theorem Zj(Q)(h)(r):atH Q h r=Q r h:=(rfl)
def atK(t:TK)(k:TK→Prop):Prop:=k t
@[congr] theorem Vf{t t'}{k}(e:t=t'):atK t k=atK t' k:=by rw[e]
theorem Yc(x)(k):atK (.int x) k=k (.int x):=(rfl)
theorem Ye(k):atK .str k=k .str:=(rfl)
theorem Vg(x)(k):atK (.slice x) k=k (.slice x):=(rfl)
theorem Vh(x)(k):atK (.strct x) k=k (.strct x):=(rfl)
def fF(xs:List AV)(m:Int)(sz:Nat)(k:AV→Prop):Prop:=Idx xs m fun b=>b.cells.length=sz∧k (.pe b 0)
theorem fF.at{xs}{k:AV→Prop}(j:Nat)(hj:j<xs.length)(hz:xs[j].cells.length=sz)(hk:k (.pe xs[j] 0)):fF xs (j:Int) sz k:=⟨afu,xs[j],afB,hz,hk⟩
def Ga(l:List UInt8)(m:Int)(k:AV→Prop):Prop:=Idx l m fun b=>k (aK b)
theorem Ga.at{l}{k:AV→Prop}(j:Nat)(hj:j<l.length)(hk:k (aK l[j])):Ga l (j:Int) k:=⟨afu,l[j],afB,hk⟩
theorem Ga.of{l}{m:Int}{k:AV→Prop}(j:Nat)(hm:m=j)(hj:j<l.length)(hk:k (aK l[j])):Ga l m k:=by grind [Ga.at]
@[congr] theorem SN{f f'}{a a'}{h h'}{Q}(h0:f=f')(h1:a=a')(h2:h=h'):ai P f a h Q=ai P f' a' h' Q:=by grind
theorem YS(k)(x)(r)(t):lk ((k,x)::r) t=if k=t then some x else lk r t:=(rfl)
theorem Sk(d)(x)(r)(t):lk (put r (some d) x) t=if d=t then some x else lk r t:=(rfl)
theorem Sj(x)(r)(t):lk (put r none x) t=lk r t:=(rfl)
theorem ZS(args)(t):lk (za args) t=args[t]? :=by have:=zI args 0 t;exact agc
theorem WW{α:Type}(x:α)(r:List α):(x::r)[0]? =some x:=(rfl)
attribute [go_sem] V1 Yc Ye Vg Vh WW
attribute [go_sem↓] Zj YS Sk Sj ZS
theorem WV{α:Type}(x:α)(r:List α)(i):(x::r)[i+1]? =r[i]? :=by simp
theorem ZJ(t):ev ρ (.tmp t)=lk ρ t:=(rfl)
theorem ZH(k)(m):ev ρ (.const (.int k m))=some (.v (.int k m)):=(rfl)
theorem Yt(b):ev ρ (.const (.bool b))=some (.b b):=(rfl)
theorem ZI(a):ev ρ (.const (.pointer a))=some (.v (.pointer a)):=(rfl)
theorem Yu(k)(a b):ev ρ (.const (.complex k a b))=some (.v (.complex k a b)):=(rfl)
theorem WI(k)(a):ev ρ (.const (.float k a))=some (.v (.float k a)):=(rfl)
theorem Sg:ev ρ (.const (.slice none 0 0))=some (.sl [] .full):=(rfl)
theorem Kn{l}(hl:l.length<4096):ev ρ (.const (.string ⟨l.toArray⟩))=some (.s l):=by grind [lim,ev,ofV,HJ]
theorem Yw:ev ρ (.const (.string ⟨#[]⟩))=some (.s []):=(rfl)
theorem Yx(a0):ev ρ (.const (.string ⟨#[a0]⟩))=some (.s [a0]):=(rfl)
theorem Yy(a0 a1):ev ρ (.const (.string ⟨#[a0,a1]⟩))=some (.s [a0,a1]):=(rfl)
theorem Yz(a0 a1 a2):ev ρ (.const (.string ⟨#[a0,a1,a2]⟩))=some (.s [a0,a1,a2]):=(rfl)
theorem YA(a0 a1 a2 a3):ev ρ (.const (.string ⟨#[a0,a1,a2,a3]⟩))=some (.s [a0,a1,a2,a3]):=(rfl)
theorem YB(a0 a1 a2 a3 a4):ev ρ (.const (.string ⟨#[a0,a1,a2,a3,a4]⟩))=some (.s [a0,a1,a2,a3,a4]):=(rfl)
theorem YC(a0 a1 a2 a3 a4 a5):ev ρ (.const (.string ⟨#[a0,a1,a2,a3,a4,a5]⟩))=some (.s [a0,a1,a2,a3,a4,a5]):=(rfl)
theorem YE(a0 a1 a2 a3 a4 a5 a6):ev ρ (.const (.string ⟨#[a0,a1,a2,a3,a4,a5,a6]⟩))=some (.s [a0,a1,a2,a3,a4,a5,a6]):=(rfl)
theorem YF(a0 a1 a2 a3 a4 a5 a6 a7):ev ρ (.const (.string ⟨#[a0,a1,a2,a3,a4,a5,a6,a7]⟩))=some (.s [a0,a1,a2,a3,a4,a5,a6,a7]):=(rfl)
theorem YG(a0 a1 a2 a3 a4 a5 a6 a7 a8):ev ρ (.const (.string ⟨#[a0,a1,a2,a3,a4,a5,a6,a7,a8]⟩))=some (.s [a0,a1,a2,a3,a4,a5,a6,a7,a8]):=(rfl)
theorem WJ(a0 a1 a2 a3 a4 a5 a6 a7 a8 a9):ev ρ (.const (.string ⟨#[a0,a1,a2,a3,a4,a5,a6,a7,a8,a9]⟩))=some (.s [a0,a1,a2,a3,a4,a5,a6,a7,a8,a9]):=(rfl)
theorem WK(a0 a1 a2 a3 a4 a5 a6 a7 a8 a9 a10):ev ρ (.const (.string ⟨#[a0,a1,a2,a3,a4,a5,a6,a7,a8,a9,a10]⟩))=some (.s [a0,a1,a2,a3,a4,a5,a6,a7,a8,a9,a10]):=(rfl)
theorem WL(a0 a1 a2 a3 a4 a5 a6 a7 a8 a9 a10 a11):ev ρ (.const (.string ⟨#[a0,a1,a2,a3,a4,a5,a6,a7,a8,a9,a10,a11]⟩))=some (.s [a0,a1,a2,a3,a4,a5,a6,a7,a8,a9,a10,a11]):=(rfl)
theorem WM(a0 a1 a2 a3 a4 a5 a6 a7 a8 a9 a10 a11 a12):ev ρ (.const (.string ⟨#[a0,a1,a2,a3,a4,a5,a6,a7,a8,a9,a10,a11,a12]⟩))=some (.s [a0,a1,a2,a3,a4,a5,a6,a7,a8,a9,a10,a11,a12]):=(rfl)
theorem WN(a0 a1 a2 a3 a4 a5 a6 a7 a8 a9 a10 a11 a12 a13 a14):ev ρ (.const (.string ⟨#[a0,a1,a2,a3,a4,a5,a6,a7,a8,a9,a10,a11,a12,a13,a14]⟩))=some (.s [a0,a1,a2,a3,a4,a5,a6,a7,a8,a9,a10,a11,a12,a13,a14]):=(rfl)
theorem WO(a0 a1 a2 a3 a4 a5 a6 a7 a8 a9 a10 a11 a12 a13 a14 a15):ev ρ (.const (.string ⟨#[a0,a1,a2,a3,a4,a5,a6,a7,a8,a9,a10,a11,a12,a13,a14,a15]⟩))=some (.s [a0,a1,a2,a3,a4,a5,a6,a7,a8,a9,a10,a11,a12,a13,a14,a15]):=(rfl)
theorem WQ(a0 a1 a2 a3 a4 a5 a6 a7 a8 a9 a10 a11 a12 a13 a14 a15 a16):ev ρ (.const (.string ⟨#[a0,a1,a2,a3,a4,a5,a6,a7,a8,a9,a10,a11,a12,a13,a14,a15,a16]⟩))=some (.s [a0,a1,a2,a3,a4,a5,a6,a7,a8,a9,a10,a11,a12,a13,a14,a15,a16]):=(rfl)
theorem Yv(f):ev ρ (.func f)=some (.fn f []):=(rfl)
def Sb(x:Option AV)(r:Option (List AV)):Option (List AV):=match x,r with
 |some y,some ys=>some (y::ys)
 |_,_=>none
theorem Th(y)(ys):Sb (some y) (some ys)=some (y::ys):=(rfl)
theorem YH:evs ρ []=some []:=(rfl)
theorem WR(x)(r):evs ρ (x::r)=Sb (ev ρ x) (evs ρ r):=(rfl)
theorem cc(x)(k):withv ρ x k=aF (ev ρ x) k:=by grind [withv,aF,ev]
theorem ig(xs)(k):withvs ρ xs k=aF (evs ρ xs) k:=by grind [withvs,aF,evs]
theorem aae(K):bI P U n .skip ρ h K=K .normal ρ h:=(rfl)
theorem Xs(id)(l)(K):bI P U n (.region id l.toArray false) ρ h K=lg P U n l l ρ h (K .normal):=(rfl)
def DE(P:Program)(U:TypeId→TI)(n:Nat)(b:Code)(K:Exit→Env→Heap→Prop):Exit→Env→Heap→Prop:=KSeq (fun ρ h=>bI P U n b ρ h K) K
theorem ado(a b)(K):bI P U n (.seq a b) ρ h K=bI P U n a ρ h (DE P U n b K):=(rfl)
theorem PK(b)(K):DE P U n b K .normal ρ h=bI P U n b ρ h K:=(rfl)
theorem U5(b)(K):DE P U n b K .ret ρ h=K .ret ρ h:=(rfl)
theorem SW(b)(K)(i):DE P U n b K (.exit i) ρ h=K (.exit i) ρ h:=(rfl)
theorem SX(b)(K)(i):DE P U n b K (.goto i) ρ h=K (.goto i) ρ h:=(rfl)
def jR(P:Program)(U:TypeId→TI)(n:Nat)(a b:Code)(ρ:Env)(h:Heap)(K:Exit→Env→Heap→Prop)(y:AV):Prop:=match y with
 |.v (.bool t)=>(t=true→bI P U n a ρ h K)∧(t=false→bI P U n b ρ h K)
 |_=>False
attribute [go_sem] WV Th
attribute [go_sem↓] ZJ ZH Yt ZI Yu WI Sg Yw Yx Yy Yz YA YB YC YE YF YG WJ WK WL WM WN WO WQ Yv YH WR cc ig aae Xs ado PK U5 SW SX
@[go_sem↓] theorem SL(a b)(K):jR P U n a b ρ h K (.b true)=bI P U n a ρ h K:=by simp[jR]
theorem RU(a b)(K):jR P U n a b ρ h K (.b false)=bI P U n b ρ h K:=by simp[jR]
theorem jR.intro{a b}{K}{t}(h1:t=true→bI P U n a ρ h K)(h2:t=false→bI P U n b ρ h K):jR P U n a b ρ h K (.b t):=⟨h1,h2⟩
theorem jR.no{a b}{K}{t}(e:t=false)(h1:bI P U n b ρ h K):jR P U n a b ρ h K (.b t):=⟨fun h=>absurd (e.symm.trans h) afB,fun _=>h1⟩
attribute [go_sem↓] RU
theorem Z8(c)(a b)(K):bI P U n (.cond c a b) ρ h K=aF (ev ρ c) (jR P U n a b ρ h K):=by
 simp only[bI,withv];cases ev ρ c with
 |none=>rfl
 |some y=>rfl
theorem Y4(id)(c)(K):bI P U n (.block id c) ρ h K=bI P U n c ρ h (KBlock id K):=(rfl)
def tW(P:Program)(U:TypeId→TI)(n:Nat)(c:Code)(ρ:Env)(h:Heap)(K:Exit→Env→Heap→Prop):Prop:=Mo (fun ρ h K=>bI P U n c ρ h K) ρ h K
def KRound(I:Nat→Env→Heap→Prop)(m:Nat)(K:Exit→Env→Heap→Prop):Exit→Env→Heap→Prop:=KSeq (fun ρ' h' =>∃m',m' <m∧I m' ρ' h') K
theorem SV{K}:KRound I m K .ret ρ h=K .ret ρ h:=(rfl)
theorem RZ{K}(i):KRound I m K (.exit i) ρ h=K (.exit i) ρ h:=(rfl)
theorem tW.intro{K}(I)(m)(h0:I m ρ h)(hr:∀m ρ h,I m ρ h→bI P U n c ρ h (KRound I m K)):tW P U n c ρ h K:=fun _=>⟨I,m,h0,hr⟩
theorem tW.wf{K}(hk:Wf ρ→tW P U n c ρ h K):tW P U n c ρ h K:=fun hw=>hk hw hw
theorem aad(c)(K):bI P U n (.loop c) ρ h K=tW P U n c ρ h K:=(rfl)
theorem U3(l)(J)(K):KJump l J K .ret ρ h=K .ret ρ h:=(rfl)
attribute [go_sem↓] Z8 Y4 SV RZ aad U3
theorem SS(l)(J)(K):KJump l J K (.goto l) ρ h=J ρ h:=by simp[KJump]
theorem aab(id)(K):bI P U n (.exit id) ρ h K=K (.exit id) ρ h:=(rfl)
theorem adn(K):bI P U n .ret ρ h K=K .ret ρ h:=(rfl)
theorem Y6(l)(K):bI P U n (.label l) ρ h K=K .normal ρ h:=(rfl)
theorem aac(l)(K):bI P U n (.goto l) ρ h K=K (.goto l) ρ h:=(rfl)
theorem Py(id)(K):KBlock id K .normal ρ h=K .normal ρ h:=(rfl)
theorem SQ(id)(K):KBlock id K .ret ρ h=K .ret ρ h:=(rfl)
theorem RY(id)(K)(j):KBlock id K (.exit j) ρ h=if j=id then K .normal ρ h else K (.exit j) ρ h:=(rfl)
theorem adm(all)(K):lg P U n all [] ρ h K=K ρ h:=(rfl)
def KOps(P:Program)(U:TypeId→TI)(n:Nat)(all os:List Oper)(K:Env→Heap→Prop)(ρ:Env)(d:Option Tmp)(x:AV)(h:Heap):Prop:=lg P U n all os (put ρ d x) h K
theorem X3(all os)(K)(d)(x):KOps P U n all os K ρ d x h=lg P U n all os (put ρ d x) h K:=(rfl)
theorem Z9(all)(d)(op)(t)(p)(a)(os)(K):
  lg P U n all (⟨d,op,t,p,a,none⟩::os) ρ h K=(fk n d=true∧bg P U ρ h ⟨d,op,t,p,a,none⟩ (KOps P U n all os K ρ d)):=(rfl)
attribute [go_sem↓] SS aab adn Y6 aac Py SQ RY adm X3 Z9
@[go_sem] theorem Tw(d):(fk n (some d)=true)=(d<n):=by simp[fk]
theorem Tv:(fk n none=true)=True:=by simp[fk]
def gB(d:Nat)(w:Bool)(ρ:Env)(yes no:Env→Prop)(x:AV):Prop:=match x with
 |.v (.bool t)=>if w then Br t (yes ((d,.b true)::ρ)) (no ((d,.b false)::ρ))else Br t (no ((d,.b true)::ρ)) (yes ((d,.b false)::ρ))
 |.v (.tuple _)=>no ρ
 |_=>False
theorem Tu(d)(op)(t)(p)(a)(g)(os):rB (⟨d,op,t,p,a,g⟩::os) 0=d:=(rfl)
theorem Tt(o)(os)(i):rB (o::os) (i+1)=rB os i:=(rfl)
attribute [go_sem] Tv
attribute [go_sem↓] Tu Tt
theorem vK(all)(g)(w)(yes no):kD all ρ (some (g,w)) yes no=aF (rB all g) fun d=>aF (lk ρ d) fun x=>gB d w ρ yes no x:=by
 simp only[kD];cases rB all g with
 |none=>rfl
 |some d=>
  simp only[dQ];cases lk ρ d with
  |none=>rfl
  |some x=>cases x with
   |v u=>cases u<;>first|rfl|(rename_i t;cases w<;>cases t<;>simp[aF,gB,Br])
   |_=>rfl
def jI(P:Program)(U:TypeId→TI)(n:Nat)(all os:List Oper)(ρ:Env)(h:Heap)(K:Env→Heap→Prop)(w:Bool)(d:Option Tmp)(op:Op)(t:TypeId)(p:String)(a:Array Edge)(s:Nat)(x:AV):Prop:=
 gB s w ρ (fun ρ=>bg P U ρ h ⟨d,op,t,p,a,none⟩ (KOps P U n all os K ρ d)) (fun ρ=>lg P U n all os (put ρ d (.v undef)) h K) x
section
variable {all os : List Oper} {K : Env → Heap → Prop} {d : Option Tmp} {op : Op} {t : TypeId} {p : String} {a : Array Edge} {s : Nat}
@[go_sem↓] theorem UY:jI P U n all os ρ h K true d op t p a s (.b true)=bg P U ((s,.b true)::ρ) h ⟨d,op,t,p,a,none⟩ (KOps P U n all os K ((s,.b true)::ρ) d):=by simp[jI,gB,Br]
@[go_sem↓] theorem UX:jI P U n all os ρ h K true d op t p a s (.b false)=lg P U n all os (put ((s,.b false)::ρ) d (.v undef)) h K:=by simp[jI,gB,Br]
@[go_sem↓] theorem UW:jI P U n all os ρ h K false d op t p a s (.b true)=lg P U n all os (put ((s,.b true)::ρ) d (.v undef)) h K:=by simp[jI,gB,Br]
theorem UU:jI P U n all os ρ h K false d op t p a s (.b false)=bg P U ((s,.b false)::ρ) h ⟨d,op,t,p,a,none⟩ (KOps P U n all os K ((s,.b false)::ρ) d):=by simp[jI,gB,Br]
theorem PI(w):jI P U n all os ρ h K w d op t p a s (.v undef)=lg P U n all os (put ρ d (.v undef)) h K:=(rfl)
theorem jI.intro{w b}(h1:b=true→jI P U n all os ρ h K w d op t p a s (.b true))(h2:b=false→jI P U n all os ρ h K w d op t p a s (.b false)):jI P U n all os ρ h K w d op t p a s (.b b):=by
 cases b
 ·grind
 grind
attribute [go_sem↓] UU PI
end
@[go_sem↓] theorem Y5(all)(d)(op)(t)(p)(a)(g)(w)(os)(K):
  lg P U n all (⟨d,op,t,p,a,some (g,w)⟩::os) ρ h K=(fk n d=true∧aF (rB all g) fun s=>aF (lk ρ s) (jI P U n all os ρ h K w d op t p a s)):=by
 have:=vK (ρ:=ρ) all g w (fun ρ=>bg P U ρ h ⟨d,op,t,p,a,none⟩ (KOps P U n all os K ρ d)) (fun ρ=>lg P U n all os (put ρ d (.v undef)) h K)
 rw[show(fun s=>aF (lk ρ s) (jI P U n all os ρ h K w d op t p a s))=fun d_1=>aF (lk ρ d_1) fun x=>gB d_1 w ρ (fun ρ=>bg P U ρ h ⟨d,op,t,p,a,none⟩ (KOps P U n all os K ρ d)) (fun ρ=>lg P U n all os (put ρ d (.v undef)) h K) x from rfl,←this]
 rfl
variable {d : Option Tmp} {t : TypeId} {p : String} {a : Array Edge} {g : Option (Nat × Bool)} {Q : AV → Heap → Prop}
theorem ZZ(x):bg P U ρ h ⟨d,.move x,t,p,a,g⟩ Q=aF (ev ρ x) (atH Q h):=(cc x _)
theorem Xn(x):bg P U ρ h ⟨d,.assign x,t,p,a,g⟩ Q=aF (ev ρ x) (atH Q h):=(cc x _)
def Ox(ρ:Env)(x z:Operand)(k:AV→Prop)(y:AV):Prop:=match y with
 |.v (.bool true)=>aF (ev ρ x) k
 |.v (.bool false)=>aF (ev ρ z) k
 |_=>False
theorem Ul(x z)(k):Ox ρ x z k (.b true)=aF (ev ρ x) k:=(rfl)
theorem Su(x z)(k):Ox ρ x z k (.b false)=aF (ev ρ z) k:=(rfl)
attribute [go_sem↓] ZZ Xn Ul Su
theorem Z0(x y z):bg P U ρ h ⟨d,.pick x y z,t,p,a,g⟩ Q=aF (ev ρ x) (Ox ρ y z (atH Q h)):=by
 simp only[bg,pv,cc]
 congr 1
def Sp(k:AV→Prop)(y:AV):Prop:=match y with
 |.ptr .. |.pe .. |.fn .. =>k y
 |_=>False
theorem VH(i o)(k):Sp k (.ptr i o)=k (.ptr i o):=(rfl)
attribute [go_sem↓] Z0 VH
theorem Ue(x):bg P U ρ h ⟨d,.nilCheck x,t,p,a,g⟩ Q=aF (ev ρ x) (Sp (atH Q h)):=by
 simp only[bg,pv,cc]
 congr 1
@[congr] theorem Td{op}{ty}{x x' y y'}{K}(e1:x=x')(e2:y=y'):cy U op ty x y K=cy U op ty x' y' K:=by grind
attribute [go_sem↓] Ue
theorem vV(op)(ty ty')(x y)(hy:HH y=false):bg P U ρ h ⟨d,.binOp op ty x y ty',t,p,a,g⟩ Q=aF (ev ρ x) fun u=>aF (ev ρ y) fun v=>cy U op ty u v (atH Q h):=by simp only[bg,pv,cc,hy];rfl
theorem YW(op)(ty ty')(x)(y):bg P U ρ h ⟨d,.binOp op ty x (.tmp y) ty',t,p,a,g⟩ Q=aF (ev ρ x) fun u=>aF (ev ρ (.tmp y)) fun v=>cy U op ty u v (atH Q h):=vV _ _ _ _ _ rfl
theorem VK(op)(ty ty')(x)(ik)(im):bg P U ρ h ⟨d,.binOp op ty x (.const (.int ik im)) ty',t,p,a,g⟩ Q=aF (ev ρ x) fun u=>cy U op ty u (.v (.int ik im)) (atH Q h):=vV _ _ _ _ _ rfl
theorem VI(op)(ty ty')(x)(ik)(im jm):bg P U ρ h ⟨d,.binOp op ty x (.const (.complex ik im jm)) ty',t,p,a,g⟩ Q=aF (ev ρ x) fun u=>cy U op ty u (.v (.complex ik im jm)) (atH Q h):=vV _ _ _ _ _ rfl
theorem VJ(op)(ty ty')(x)(ik)(im):bg P U ρ h ⟨d,.binOp op ty x (.const (.float ik im)) ty',t,p,a,g⟩ Q=aF (ev ρ x) fun u=>cy U op ty u (.v (.float ik im)) (atH Q h):=vV _ _ _ _ _ rfl
theorem VN(op)(ty ty')(x)(b):bg P U ρ h ⟨d,.binOp op ty x (.const (.string b)) ty',t,p,a,g⟩ Q=aF (ev ρ x) fun u=>aF (ev ρ (.const (.string b))) fun v=>cy U op ty u v (atH Q h):=vV _ _ _ _ _ rfl
theorem VM(op)(ty ty')(x)(b):bg P U ρ h ⟨d,.binOp op ty x (.const (.pointer b)) ty',t,p,a,g⟩ Q=aF (ev ρ x) fun u=>cy U op ty u (.v (.pointer b)) (atH Q h):=vV _ _ _ _ _ rfl
def Ub(h:Heap)(op:BinOp)(x:AV)(Q:AV→Heap→Prop)(tk:TK):Prop:=match tk,op,x with
 |.slice _,.eql,.sl xs _=>∀b:Bool,(xs≠ []→b=false)→Q (.b b) h
 |.slice _,.neq,.sl xs _=>∀b:Bool,(xs≠ []→b=true)→Q (.b b) h
 |.slice _,.eql,.oa .. =>Q (.b false) h
 |.slice _,.neq,.oa .. =>Q (.b true) h
 |.slice _,.eql,.ob .. =>Q (.b false) h
 |.slice _,.neq,.ob .. =>Q (.b true) h
 |_,_,_=>False
attribute [go_sem↓] YW VK VI VJ VN VM
@[go_sem↓] theorem VL(op)(ty ty')(x)(l k):bg P U ρ h ⟨d,.binOp op ty x (.const (.slice none l k)) ty',t,p,a,g⟩ Q=aF (ev ρ x) fun u=>atK (U ty).k (Ub h op u Q):=by simp only[bg,HH,cc,atK,if_true];rfl
section
variable {ty : TypeId} {K : AV → Prop}
@[go_sem] theorem acU(k)(x y):cy U .add ty (.v (.int k x)) (.v (.int k y)) K=K (.v (.int k (k.wrap (x+y)))):=by simp[cy,gm,rf]
@[go_sem] theorem ac4(k)(x y):cy U .sub ty (.v (.int k x)) (.v (.int k y)) K=K (.v (.int k (k.wrap (x - y)))):=by simp[cy,gm,rf]
@[go_sem] theorem ac0(k)(x y):cy U .mul ty (.v (.int k x)) (.v (.int k y)) K=K (.v (.int k (k.wrap (x*y)))):=by simp[cy,gm,rf]
@[go_sem] theorem ac2(k)(x y):cy U .quo ty (.v (.int k x)) (.v (.int k y)) K=(y≠0∧K (.v (.int k (k.wrap (x.tdiv y))))):=by simp[cy,gm,rf]
@[go_sem] theorem ac3(k)(x y):cy U .rem ty (.v (.int k x)) (.v (.int k y)) K=(y≠0∧K (.v (.int k (x.tmod y)))):=by simp[cy,gm,rf]
@[go_sem] theorem MG(k)(x y):cy U .and ty (.v (.int k x)) (.v (.int k y)) K=K (.v (.int k (k.wrap (BitVec.ofInt k.bits x &&& BitVec.ofInt k.bits y).toNat))):=by simp[cy,gm,rf]
@[go_sem] theorem Wj(k)(x y):cy U .or ty (.v (.int k x)) (.v (.int k y)) K=K (.v (.int k (k.wrap (BitVec.ofInt k.bits x|||BitVec.ofInt k.bits y).toNat))):=by simp[cy,gm,rf]
@[go_sem] theorem R6(k)(x y):cy U .xor ty (.v (.int k x)) (.v (.int k y)) K=K (.v (.int k (k.wrap (BitVec.ofInt k.bits x ^^^ BitVec.ofInt k.bits y).toNat))):=by simp[cy,gm,rf]
@[go_sem] theorem acV(k)(x y):cy U .eql ty (.v (.int k x)) (.v (.int k y)) K=K (.b (x==y)):=by simp[cy,gm,rf]
@[go_sem] theorem ac1(k)(x y):cy U .neq ty (.v (.int k x)) (.v (.int k y)) K=K (.b (x !=y)):=by simp[cy,gm,rf]
@[go_sem] theorem acZ(k)(x y):cy U .lss ty (.v (.int k x)) (.v (.int k y)) K=K (.b (decide (x<y))):=by simp[cy,gm,rf]
@[go_sem] theorem acY(k)(x y):cy U .leq ty (.v (.int k x)) (.v (.int k y)) K=K (.b (decide (x≤y))):=by simp[cy,gm,rf]
@[go_sem] theorem acX(k)(x y):cy U .gtr ty (.v (.int k x)) (.v (.int k y)) K=K (.b (decide (y<x))):=by simp[cy,gm,rf]
theorem acW(k)(x y):cy U .geq ty (.v (.int k x)) (.v (.int k y)) K=K (.b (decide (y≤x))):=by simp[cy,gm,rf]
theorem R5(k k')(x y):cy U .shl ty (.v (.int k x)) (.v (.int k' y)) K=(0≤y∧K (.v (.int k (k.wrap (x*2 ^ (min y.toNat k.bits)))))):=(rfl)
theorem MH(k k')(x y):cy U .shr ty (.v (.int k x)) (.v (.int k' y)) K=(0≤y∧K (.v (.int k (x.fdiv (2 ^ (min y.toNat k.bits)))))):=(rfl)
theorem Zr(x y):cy U .add ty (.s x) (.s y) K=(x.length+y.length<lim∧K (.s (x++y))):=(rfl)
theorem Zs(x y):cy U .eql ty (.s x) (.s y) K=K (.b (x==y)):=(rfl)
theorem Zv(x y):cy U .neq ty (.s x) (.s y) K=K (.b (!(x==y))):=(rfl)
theorem Yf(k k')(x y)(op):cy U op ty (.v (.float k x)) (.v (.float k' y)) K=gR op (.float k x) (.float k' y) K:=(rfl)
theorem Zp(k k')(x y z w)(op):cy U op ty (.v (.complex k x y)) (.v (.complex k' z w)) K=gR op (.complex k x y) (.complex k' z w) K:=(rfl)
theorem pI{op}{x y r}(h:∀(P:Program) (ty:TypeId) (w:World),(binOp op ty x y).run P w= .ok r w)(K):gR op x y K=K (.v r):=propext ⟨fun⟨r',h',hk⟩=>by have e:=(h default 0 default).symm.trans (h' default 0 default);cases e;exact hk,fun hk=>⟨r,h,hk⟩⟩
theorem Zu(x y):cy U .lss ty (.s x) (.s y) K=K (.b (Op.bytesLess x y)):=(rfl)
theorem Zt(x y):cy U .geq ty (.s x) (.s y) K=K (.b (!(Op.bytesLess x y))):=(rfl)
def eqK(tk:TK)(e:Option (Nat×List TK))(xs ys:List AV)(k:Bool→Prop):Prop:=match e with
 |some (_,l)=>tk.agg=true∧cG l xs∧cG l ys∧k (eqL xs ys)
 |none=>False
@[congr] theorem Vy{tk tk'}{e e'}{xs ys}{k}(h1:tk=tk')(h2:e=e'):eqK tk e xs ys k=eqK tk' e' xs ys k:=by grind
attribute [go_sem] acW R5 MH Zr Zs Zv Yf Zp Zu Zt
@[go_sem] theorem adb(fs)(r)(l)(xs ys)(k):eqK (.strct fs) (some (r,l)) xs ys k=(cG l xs∧cG l ys∧k (eqL xs ys)):=by simp[eqK,TK.agg]
@[go_sem] theorem Zm(xs ys):cy U .eql ty (.agg xs) (.agg ys) K=eqK (U ty).k (U ty).eq xs ys fun b=>K (.b b):=by simp only[cy,MK,eqK];grind
theorem Zn(xs ys):cy U .neq ty (.agg xs) (.agg ys) K=eqK (U ty).k (U ty).eq xs ys fun b=>K (.b (!b)):=by simp only[cy,MK,eqK];grind
theorem UE(xs):cG [] xs=(xs= []):=(rfl)
theorem SD(t)(ts)(x)(xs):cG (t::ts) (x::xs)=(td t x∧cG ts xs):=(rfl)
theorem Wn(k k')(n):td (.int k) (.v (.int k' n))=(k' =k):=(rfl)
theorem Wm(b):td .bool (.b b)=True:=(rfl)
theorem Wo(l):td .str (.s l)=True:=(rfl)
theorem Ys:eqL [] []=true:=(rfl)
theorem WH(x y)(xs ys):eqL (x::xs) (y::ys)=(eqC x y && eqL xs ys):=(rfl)
theorem ac9(k k')(n m):eqC (.v (.int k n)) (.v (.int k' m))=(n==m):=(rfl)
theorem ac8(b c):eqC (.b b) (.b c)=(b==c):=(rfl)
theorem ada(l m):eqC (.s l) (.s m)=(l==m):=(rfl)
def tkB(k:TK)(A:Prop):Prop:=k= .bool∧A
def tkP(k:TK)(A:Prop):Prop:=(∃e,k= .ptr e)∧A
@[congr] theorem VV{k k'}{A:Prop}(e:k=k'):tkB k A=tkB k' A:=by rw[e]
@[congr] theorem VW{k k'}{A:Prop}(e:k=k'):tkP k A=tkP k' A:=by rw[e]
attribute [go_sem] Zn UE SD Wn Wm Wo Ys WH ac9 ac8 ada
@[go_sem] theorem XE(A:Prop):tkB .bool A=A:=by simp[tkB]
theorem Za(e)(A:Prop):tkP (.ptr e) A=A:=by simp[tkP]
theorem Zo(x y):cy U .neq ty (.b x) (.b y) K=tkB (U ty).k (K (.b (!(x==y)))):=by grind [cy,P4,tkB]
attribute [go_sem] Za Zo
@[go_sem] theorem Zq(i o):cy U .eql ty (.ptr i o) (.v (.pointer none)) K=tkP (U ty).k (K (.b false)):=by simp only[cy,P5,QX,tkP];grind
end
def unA(op:UnOp)(y:AV)(k:AV→Prop):Prop:=match op,y with
 |.not,.v (.bool b)=>k (.b (!b))
 |.neg,.v (.int kk n)=>k (.v (.int kk (kk.wrap (0 - n))))
 |.xor,.v (.int kk n)=>k (.v (.int kk (kk.wrap (BitVec.ofInt kk.bits (if kk.signed then -1 else kk.max) ^^^ BitVec.ofInt kk.bits n).toNat)))
 |_,_=>False
@[congr] theorem VY{op}{y y'}{k}(e:y=y'):unA op y k=unA op y' k:=by rw[e]
theorem Zd(b)(k):unA .not (.b b) k=k (.b (!b)):=(rfl)
theorem yC(kk)(m)(k):unA .xor (.v (.int kk m)) k=k (.v (.int kk (kk.wrap (BitVec.ofInt kk.bits (if kk.signed then -1 else kk.max) ^^^ BitVec.ofInt kk.bits m).toNat))):=(rfl)
attribute [go_sem] Zd yC
theorem Z4(op)(ty)(x):bg P U ρ h ⟨d,.unOp op ty x,t,p,a,g⟩ Q=aF (ev ρ x) fun y=>unA op y (atH Q h):=by
 simp only[bg,pv,cc]
 congr 1
def cvA(U:TypeId→TI)(s d:TK)(y:AV)(k:AV→Prop):Prop:=match s,d,y with
 |.int _,.int kk,.v (.int _ n)=>k (.v (.int kk (kk.wrap n)))
 |.str,.str,.s l=>k (.s l)
 |.slice e,.str,.sl xs _=>(U e).k= .int .u8∧∃l:List UInt8,xs=l.map aK∧k (.s l)
 |.str,.slice e,.s l=>(U e).k= .int .u8∧k (.sl (l.map aK) .no)
 |.cplx _,.cplx kk,.v (.complex kf a b)=>kf=kk∧k (.v (.complex kk a b))
 |_,_,_=>False
@[congr] theorem Vp{s s' d d'}{y y'}{k}(e1:s=s')(e2:d=d')(e:y=y'):cvA U s d y k=cvA U s' d' y' k:=by grind
theorem ZB(k0 kk k1)(m)(k):cvA U (.int k0) (.int kk) (.v (.int k1 m)) k=k (.v (.int kk (kk.wrap m))):=(rfl)
attribute [go_sem↓] Z4
attribute [go_sem] ZB
theorem ac6(e)(l)(pm)(k):cvA U (.slice e) .str (.sl (l.map aK) pm) k=((U e).k= .int .u8∧k (.s l)):=by
 simp only[cvA]
 congr 1
 apply propext;constructor
 ·rintro⟨l',e1,hk⟩
  have:l=l' :=by
   have inj:∀(x y:List UInt8),x.map aK=y.map aK→x=y:=by
    intro x
    induction x with
    |nil=>simp
    |cons b r ih=>
     intro y e;cases y with
     |nil=>grind
     |cons b' r' =>
      simp only[List.map_cons,List.cons.injEq,aK,AV.v.injEq,Value.int.injEq,true_and,Int.natCast_inj]at e
      grind [UInt8.toNat_inj]
   exact inj _ _ e1
  rw[this];exact hk
 grind
theorem u8m(k:TK)(X:Prop):(match k with|.int .u8=>X|_=>False)=(k= .int .u8∧X):=by grind
attribute [go_sem] ac6
@[go_sem↓] theorem VP(s e:TypeId)(x:Operand):bg P U ρ h ⟨d,.convert s e x,t,p,a,g⟩ Q=aF (ev ρ x) fun y=>cvA U (U s).k (U e).k y (atH Q h):=by
 simp only[bg,pv,cc]
 congr 1
 funext y
 generalize (U s).k=ks;generalize (U e).k=ke;cases ks<;>cases ke<;>cases y<;>(first|rfl|(rename_i u;cases u<;>rfl)|skip)
 ·simp only[cvA]
  exact u8m _ _
 ·simp only[cvA]
  exact u8m _ _
end
attribute [go_sem] true_and and_true List.length_cons List.length_nil List.drop_succ_cons List.drop_zero List.drop_nil List.take_succ_cons List.take_zero List.take_nil List.append_nil List.cons_append List.nil_append List.map_cons List.map_nil ne_eq not_false_eq_true reduceCtorEq Nat.zero_add Nat.add_zero
section
variable {P : Program} {U : TypeId → TI} {n : Nat} {ρ : Env} {h : Heap}
variable {d : Option Tmp} {t : TypeId} {p : String} {a : Array Edge} {g : Option (Nat × Bool)} {Q : AV → Heap → Prop} {k : AV → Prop}
theorem X6(x):TK.agg (.int x)=false:=(rfl)
theorem pR(x y):TK.agg (.map x y)=false:=(rfl)
theorem Wc:TK.agg .bool=false:=(rfl)
theorem X8:TK.agg .str=false:=(rfl)
theorem Vc(x):TK.agg (.slice x)=false:=(rfl)
theorem Vd(x):TK.agg (.strct x)=true:=(rfl)
theorem X7(x):TK.agg (.ptr x)=false:=(rfl)
theorem Wd(x):TK.agg (.cplx x)=false:=(rfl)
theorem Vk(cs):AV.cells (.agg cs)=cs:=(rfl)
theorem Yi(x):AV.cells (.v x)= [.v x]:=(rfl)
theorem Yh(x):AV.cells (.s x)= [.s x]:=(rfl)
theorem Wr(x)(q):AV.cells (.sl x q)= [.sl x q]:=(rfl)
theorem Vl(i o):AV.cells (.ptr i o)= [.ptr i o]:=(rfl)
theorem Wq(i o l):AV.cells (.oa i o l)= [.oa i o l]:=(rfl)
theorem VD(cs):bB (.agg cs)=true:=(rfl)
theorem YN(x):bB (.v x)=false:=(rfl)
theorem YM(x):bB (.s x)=false:=(rfl)
theorem W4(x)(q):bB (.sl x q)=false:=(rfl)
theorem YI(cs)(m):fit (.agg cs) m=(cs.length=m):=(rfl)
attribute [go_sem] X6 pR Wc X8 Vc Vd X7 Wd Vk Yi Yh Wr Vl Wq VD YN YM W4 YI
@[go_sem] theorem YJ(x)(i)(m):fit (.v (.int x i)) m=(m=1):=by simp[fit,Value.oneCell']
@[go_sem] theorem WS(i)(m):fit (.b i) m=(m=1):=by simp[fit,Value.oneCell']
theorem WT(x)(i j)(m):fit (.v (.complex x i j)) m=(m=1):=by simp[fit,Value.oneCell']
theorem ade(l)(m):fit (.s l) m=(m=1):=(rfl)
theorem ZM(l)(q)(m):fit (.sl l q) m=(m=1):=(rfl)
theorem YK(i o)(m):fit (.ptr i o) m=(m=1):=(rfl)
theorem ZL(i o l)(m):fit (.oa i o l) m=(m=1):=(rfl)
theorem WU(m):fits m []=True:=(rfl)
theorem VA(m)(y)(r):fits m (y::r)=(fit y m∧fits m r):=(rfl)
attribute [go_sem] WT ade ZM YK ZL WU VA
theorem Fh(cs)(off)(i):iW cs off i k=Br i.k.agg (off+i.sz≤cs.length∧k (.agg ((cs.drop off).take i.sz))) (aF cs[off]? k):=by
 unfold iW;cases i.k.agg with
 |true=>simp[Br]
 |false=>grind [Br,aF]
theorem MA(y)(off)(i):atA y off i k=if off=0∧y.cells.length=i.sz∧bB y=i.k.agg then k y else iW y.cells off i k:=(rfl)
def GL(U:TypeId→TI)(f:Nat)(y:AV)(k:AV→Prop)(tk:TK):Prop:=match tk,y with
 |.strct fs,.agg cs=>aF fs[f]? fun q=>(U q.2).sz≠0∧(U q.2).k≠ .other∧iW cs q.1 (U q.2) k
 |_,_=>False
theorem Vz(f)(cs)(fs):GL U f (.agg cs) k (.strct fs)=aF fs[f]? fun q=>(U q.2).sz≠0∧(U q.2).k≠ .other∧iW cs q.1 (U q.2) k:=(rfl)
attribute [go_sem↓] Fh MA Vz
theorem YY(ty)(x)(f):bg P U ρ h ⟨d,.field ty x f,t,p,a,g⟩ Q=aF (ev ρ x) fun y=>atK (U ty).k (GL U f y (atH Q h)):=by
 simp only[bg,pv,cc,atK]
 congr 1
 funext y
 cases (U ty).k<;>cases y<;>simp only[GL]
 rename_i fs cs
 cases fs[f]? <;>rfl
def Pa(y:AV)(i:Nat)(k:AV→Prop):Prop:=match y with
 |.tup vs=>aF vs[i]? k
 |_=>False
@[congr] theorem UD{y y'}{i}(e:y=y'):Pa y i k=Pa y' i k:=by rw[e]
theorem Zb(vs)(i):Pa (.tup vs) i k=aF vs[i]? k:=(rfl)
attribute [go_sem↓] YY Zb
theorem VQ(x)(i):bg P U ρ h ⟨d,.extract x i,t,p,a,g⟩ Q=aF (ev ρ x) fun y=>Pa y i (atH Q h):=by
 simp only[bg,pv,cc]
 grind [Pa,aF,atH]
def JL(tk:TK)(y z:AV)(k:AV→Prop):Prop:=match tk,y,z with
 |.str,.s l,.v (.int _ n)=>Ga l n k
 |_,_,_=>False
@[congr] theorem SA{tk tk'}{y y' z z'}(e0:tk=tk')(e1:y=y')(e2:z=z'):JL tk y z k=JL tk' y' z' k:=by grind
theorem XD(l)(x)(m):JL .str (.s l) (.v (.int x m)) k=Ga l m k:=(rfl)
attribute [go_sem↓] VQ XD
theorem YZ(ty)(x i):bg P U ρ h ⟨d,.index ty x i,t,p,a,g⟩ Q=aF (ev ρ x) fun y=>aF (ev ρ i) fun z=>JL (U ty).k y z (atH Q h):=by
 simp only[bg,pv,cc]
 congr 1
def ze(U:TypeId→TI)(f:Nat)(y:AV)(k:AV→Prop)(tk:TK):Prop:=match tk with
 |.strct fs=>aF fs[f]? fun q=>(U q.2).sz≠0∧match y with
  |.ptr id o=>k (.ptr id (o+q.1))
  |.pe z o=>k (.pe z (o+q.1))
  |_=>False
 |_=>False
theorem GK(f id o)(fs):ze U f (.ptr id o) k (.strct fs)=aF fs[f]? fun q=>(U q.2).sz≠0∧k (.ptr id (o+q.1)):=(rfl)
theorem Ko(f o)(z)(fs):ze U f (.pe z o) k (.strct fs)=aF fs[f]? fun q=>(U q.2).sz≠0∧k (.pe z (o+q.1)):=(rfl)
attribute [go_sem↓] YZ GK Ko
theorem Sq(ty)(x)(f):bg P U ρ h ⟨d,.fieldAddr ty x f,t,p,a,g⟩ Q=aF (ev ρ x) fun y=>atK (U ty).k (ze U f y (atH Q h)):=by
 simp only[bg,pv,cc,atK]
 congr 1
 funext y
 cases (U ty).k<;>simp only[ze]
 rename_i fs
 cases fs[f]? with
 |none=>rfl
 |some q=>rfl
def qd(U:TypeId→TI)(y z:AV)(k:AV→Prop)(tk:TK):Prop:=match tk,y,z with
 |.slice e,.sl xs _,.v (.int _ n)=>(U e).sz≠0∧fF xs n (U e).sz k
 |.slice e,.oa id off len,.v (.int _ n)=>(U e).sz≠0∧0≤n∧n<len∧k (.ptr id (off+n.toNat*(U e).sz))
 |.arr len e,.ptr id off,.v (.int _ n)=>(U e).sz≠0∧0≤n∧n<len∧k (.ptr id (off+n.toNat*(U e).sz))
 |.slice e,.ob id off len _ sz,.v (.int _ n)=>(U e).sz≠0∧sz=(U e).sz∧0≤n∧n<len∧k (.ptr id (off+n.toNat*sz))
 |_,_,_=>False
theorem BN(id off len cap sz)(x)(m)(e):qd U (.ob id off len cap sz) (.v (.int x m)) k (.slice e)=((U e).sz≠0∧sz=(U e).sz∧0≤m∧m<len∧k (.ptr id (off+m.toNat*sz))):=(rfl)
theorem vM(xs)(q)(x)(m)(e):qd U (.sl xs q) (.v (.int x m)) k (.slice e)=((U e).sz≠0∧fF xs m (U e).sz k):=(rfl)
theorem BM(id off len)(x)(m)(e):qd U (.oa id off len) (.v (.int x m)) k (.slice e)=((U e).sz≠0∧0≤m∧m<len∧k (.ptr id (off+m.toNat*(U e).sz))):=(rfl)
attribute [go_sem↓] Sq BN vM BM
theorem Sr(ty)(x i):bg P U ρ h ⟨d,.indexAddr ty x i,t,p,a,g⟩ Q=aF (ev ρ x) fun y=>aF (ev ρ i) fun z=>atK (U ty).k (qd U y z (atH Q h)):=by
 simp only[bg,pv,cc,atK]
 congr 1
def qS(b:Blk)(f:List AV→TypeId→Prop):Prop:=match b with
 |.obj cs t=>f cs t
 |_=>False
@[congr] theorem Uf{b b'}{f}(e:b=b'):qS b f=qS b' f:=by rw[e]
theorem Di(cs)(t)(f):qS (.obj cs t) f=f cs t:=(rfl)
def oA(U:TypeId→TI)(h:Heap)(ty:TypeId)(y:AV)(k:AV→Prop):Prop:=match y with
 |.ptr id off=>aF (h id) fun b=>qS b fun cs _=>iW cs off (U ty) k
 |.pe z off=>atA z off (U ty) k
 |_=>False
@[congr] theorem Sl{ty}{y y'}(e:y=y'):oA U h ty y k=oA U h ty y' k:=by rw[e]
theorem Ld(ty)(id off):oA U h ty (.ptr id off) k=aF (h id) fun b=>qS b fun cs _=>iW cs off (U ty) k:=(rfl)
theorem N1(ty)(z)(off):oA U h ty (.pe z off) k=atA z off (U ty) k:=(rfl)
attribute [go_sem↓] Sr Di Ld N1
theorem ZY(ty)(x):bg P U ρ h ⟨d,.load ty x,t,p,a,g⟩ Q=((U ty).sz≠0∧(U ty).k≠ .other∧aF (ev ρ x) fun y=>oA U h ty y (atH Q h)):=by
 simp only[bg,pv,cc]
 congr 1
 congr 1
 congr 1
 funext y
 cases y with
 |ptr id off=>simp only[oA];exact ajW
 |_=>rfl
def Hl(y:AV)(f:Int→Prop):Prop:=match y with
 |.v (.int _ m)=>f m
 |_=>False
@[congr] theorem TR{y y'}{f}(e:y=y'):Hl y f=Hl y' f:=by rw[e]
theorem ot(x)(m)(f):Hl (.v (.int x m)) f=f m:=(rfl)
theorem nj(m)(f):eU ρ none m f=f m:=(rfl)
attribute [go_sem↓] ZY ot nj
theorem fX(x)(m)(f):eU ρ (some x) m f=aF (ev ρ x) fun y=>Hl y f:=by
 simp only[eU,cc]
 congr 1
def iB(U:TypeId→TI)(ρ:Env)(y:AV)(lo hi mx:Option Operand)(k:AV→Prop)(tk:TK):Prop:=match y with
 |.s l=>tk= .str∧mx=none∧eU ρ lo 0 fun a=>eU ρ hi l.length fun b=>0≤a∧a≤b∧b≤l.length∧k (.s (nV l a b lo.isSome hi.isSome))
 |.sl xs p=>match tk with
  |.slice e=>(U e).sz≠0∧(lo.isSome=true→∀z∈xs,z.cells.length=(U e).sz)∧match mx with
   |none=>eU ρ lo 0 fun a=>eU ρ hi xs.length fun b=>0≤a∧a≤b∧b≤xs.length∧k (.sl (nV xs a b lo.isSome hi.isSome) (AU xs p lo.isSome hi.isSome))
   |some m=>hi.isSome=true∧eU ρ lo 0 fun a=>eU ρ hi xs.length fun b=>eU ρ (some m) 0 fun c=>0≤a∧a≤b∧b=c∧c≤xs.length∧k (.sl (nV xs a b lo.isSome true) .full)
  |_=>False
 |.oa id off len=>match tk with
  |.slice e=>(U e).sz≠0∧(lo.isSome=true→(U e).sz=1)∧mx=none∧eU ρ lo 0 fun a=>eU ρ hi len fun b=>0≤a∧a≤b∧b≤len∧k (.oa id (off+a.toNat*(U e).sz) (b.toNat - a.toNat))
  |_=>False
 |.ob id off len cap sz=>match tk with
  |.slice e=>(U e).sz≠0∧sz=(U e).sz∧match mx with
   |none=>eU ρ lo 0 fun a=>eU ρ hi len fun b=>0≤a∧a≤b∧b≤cap∧k (.ob id (off+a.toNat*sz) (b.toNat - a.toNat) (cap - a.toNat) sz)
   |some m=>hi.isSome=true∧eU ρ lo 0 fun a=>eU ρ hi len fun b=>eU ρ (some m) 0 fun c=>0≤a∧a≤b∧b≤c∧c≤cap∧k (.ob id (off+a.toNat*sz) (b.toNat - a.toNat) (c.toNat - a.toNat) sz)
  |_=>False
 |_=>False
theorem Ck(id off len cap sz)(lo hi)(e):iB U ρ (.ob id off len cap sz) lo hi none k (.slice e)=((U e).sz≠0∧sz=(U e).sz∧eU ρ lo 0 fun a=>eU ρ hi len fun b=>0≤a∧a≤b∧b≤cap∧k (.ob id (off+a.toNat*sz) (b.toNat - a.toNat) (cap - a.toNat) sz)):=(rfl)
attribute [go_sem↓] fX Ck
@[go_sem↓] theorem XB(l)(lo hi):iB U ρ (.s l) lo hi none k .str=eU ρ lo 0 fun a=>eU ρ hi l.length fun b=>0≤a∧a≤b∧b≤l.length∧k (.s (nV l a b lo.isSome hi.isSome)):=by simp[iB]
@[go_sem↓] theorem rY(xs)(q)(hi)(e):iB U ρ (.sl xs q) none hi none k (.slice e)=((U e).sz≠0∧eU ρ hi xs.length fun b=>0≤b∧b≤xs.length∧k (.sl (nV xs 0 b false hi.isSome) (AU xs q false hi.isSome))):=by simp[iB,eU]
@[go_sem↓] theorem rZ(xs)(q)(lo)(hi)(e):iB U ρ (.sl xs q) (some lo) hi none k (.slice e)=((U e).sz≠0∧Sized (U e).sz xs∧eU ρ (some lo) 0 fun a=>eU ρ hi xs.length fun b=>0≤a∧a≤b∧b≤xs.length∧k (.sl (nV xs a b true hi.isSome) (AU xs q true hi.isSome))):=by simp[iB,Sized]
theorem sH(id off len)(lo hi)(e):iB U ρ (.oa id off len) lo hi none k (.slice e)=((U e).sz≠0∧(lo.isSome=true→(U e).sz=1)∧eU ρ lo 0 fun a=>eU ρ hi len fun b=>0≤a∧a≤b∧b≤len∧k (.oa id (off+a.toNat*(U e).sz) (b.toNat - a.toNat))):=by simp[iB]
theorem mP{α:Type}(xs:List α)(a b):nV xs a b true false=xs.drop a.toNat:=(rfl)
theorem uf{α:Type}(xs:List α)(a b):nV xs a b false true=xs.take b.toNat:=(rfl)
theorem Qc{α:Type}(xs:List α)(a b):nV xs a b true true=(xs.drop a.toNat).take (b.toNat - a.toNat):=(rfl)
theorem Yl(xs)(a b):AU xs .no a b= .no:=by cases xs<;>cases a<;>cases b<;>rfl
theorem Vo(xs):AU xs .full true false= .full:=by cases xs<;>rfl
attribute [go_sem↓] sH
attribute [go_sem] mP uf Qc Yl Vo
@[go_sem↓] theorem Y0(ty)(x)(lo hi mx):bg P U ρ h ⟨d,.slice ty x lo hi mx,t,p,a,g⟩ Q=aF (ev ρ x) fun y=>atK (U ty).k (iB U ρ y lo hi mx (atH Q h)):=by
 simp only[bg,pv,cc,atK]
 congr 1
end
section
variable {P : Program} {U : TypeId → TI} {n : Nat} {ρ : Env} {h : Heap}
variable {d : Option Tmp} {t : TypeId} {p : String} {a : Array Edge} {g : Option (Nat × Bool)} {Q : AV → Heap → Prop} {k : AV → Prop}
def Mp(h:Heap)(b:Blk)(Q:AV→Heap→Prop):Prop:=∀id,h id=none→Q (.ptr id 0) (upd h id (some b))
def Zf(h:Heap)(xs:List AV)(b:Blk)(Q:AV→Heap→Prop):Prop:=∀id,h id=none→Q (.sl xs (.own id)) (upd h id (some b))
def oZ(U:TypeId→TI)(h:Heap)(xs ys:List AV)(e:TypeId)(Q:AV→Heap→Prop):Prop:=
 (∀id,h id=none→Q (.sl (xs++ys) (.own id)) (upd h id (some (.spare (xs.length+ys.length) (U e).sz))))∨
  ((U e).sz=1∧fit (U e).zero 1∧bB (U e).zero=false∧(∀z∈xs++ys,bB z=false)∧∀id m,h id=none→Q (.oa id 0 (xs.length+ys.length)) (upd h id (some (.obj (xs++ys++List.replicate m (U e).zero) e))))∨
  (fit (U e).zero (U e).sz∧ld h (au xs++au ys) (xs.length+ys.length) (U e).sz e Q)
@[congr] theorem RQ{h h'}{xs xs' ys ys'}{e}(e0:h=h')(e1:xs=xs')(e2:ys=ys'):oZ U h xs ys e Q=oZ U h' xs' ys' e Q:=by grind
theorem oZ.own{xs ys}{e}(hk:Zf h (xs++ys) (.spare (xs.length+ys.length) (U e).sz) Q):oZ U h xs ys e Q:=.inl hk
theorem oZ.oa{xs ys}{e}(h1:(U e).sz=1)(h2:fit (U e).zero 1)(h3:bB (U e).zero=false)(h4:∀z∈xs++ys,bB z=false)
  (hk:∀id m,h id=none→Q (.oa id 0 (xs.length+ys.length)) (upd h id (some (.obj (xs++ys++List.replicate m (U e).zero) e)))):oZ U h xs ys e Q:=.inr (.inl ⟨h1,h2,h3,h4,hk⟩)
theorem oZ.ob{xs ys}{e}(h1:fit (U e).zero (U e).sz)(hk:ld h (au xs++au ys) (xs.length+ys.length) (U e).sz e Q):oZ U h xs ys e Q:=.inr (.inr ⟨h1,hk⟩)
def sZ(U:TypeId→TI)(h:Heap)(xs ys:List AV)(e:TypeId)(Q:AV→Heap→Prop):Prop:=(ys= []→Q (.sl xs .full) h)∧(ys≠ []→oZ U h xs ys e Q)
@[congr] theorem PE{h h'}{xs xs' ys ys'}{e}(e0:h=h')(e1:xs=xs')(e2:ys=ys'):sZ U h xs ys e Q=sZ U h' xs' ys' e Q:=by grind
theorem RP(xs)(y)(r)(e):sZ U h xs (y::r) e Q=oZ U h xs (y::r) e Q:=by simp[sZ]
theorem gI{α:Type}(f:Nat→α)(i)(x:α):upd f i x i=x:=ah f i x
theorem ak{α:Type}(f:Nat→α)(i j)(x:α)(e:¬j=i):upd f i x j=f j:=ag f x e
theorem eL{α:Type}(f:Nat→α)(i)(x y:α):upd (upd f i x) i y=upd f i y:=by grind [upd]
def rI:List (Nat×Operand)→Nat→Bool
 | [],_=>true
 |(i,_)::r,k=>i==k && rI r (k+1)
attribute [go_sem↓] RP
attribute [go_sem] gI ak eL
theorem BO:∀(l:List (Nat×Operand)) (k:Nat),rI l k=true↔l.map (·.1)=List.range' k l.length
 | [],k=>by simp[rI]
 |(i,x)::r,k=>by simp[rI,BO r (k+1),List.range'_succ]
@[go_sem] theorem VC(k):rI [] k=true:=(rfl)
@[go_sem] theorem TP(i)(x)(r)(k):(rI ((i,x)::r) k=true)=(i=k∧rI r (k+1)=true):=by simp[rI]
theorem KW(l)(m):(l.map (·.1)=List.range m)=(rI l 0=true∧l.length=m):=by
 apply propext;rw[BO,List.range_eq_range'];constructor
 ·intro e
  have:=congrArg List.length e;simp at this;exact⟨afv,this⟩
 grind
def bsK(U:TypeId→TI)(ρ:Env)(len:Nat)(parts:List (Nat×Operand))(k:AV→Prop)(tk:TK):Prop:=match tk with
 |.slice e=>(U e).sz≠0∧len*(U e).sz≤16777216∧(rI parts 0=true∧parts.length=len)∧aF (evs ρ (parts.map (·.2))) fun xs=>fits (U e).sz xs∧k (.sl xs .full)
 |_=>False
@[go_sem↓] theorem Zx(len)(parts)(e):bsK U ρ len parts k (.slice e)=((U e).sz≠0∧len*(U e).sz≤16777216∧(rI parts 0=true∧parts.length=len)∧aF (evs ρ (parts.map (·.2))) fun xs=>fits (U e).sz xs∧k (.sl xs .full)):=(rfl)
theorem Q4(ty)(len)(parts):bg P U ρ h ⟨d,.buildSlice ty len parts.toArray,t,p,a,g⟩ Q=atK (U ty).k (bsK U ρ len parts (atH Q h)):=by
 simp only[bg,pv,atK];cases (U ty).k<;>simp only[bsK,ig,KW]
 rfl
def S6(k:AV→Prop)(cs:List AV):Prop:=k (.agg cs)
theorem X5(cs):S6 k cs=k (.agg cs):=(rfl)
def IC(z:AV):Option (List AV):=match z with
 |.agg cs=>some cs
 |_=>none
theorem Vb(cs):IC (.agg cs)=some cs:=(rfl)
def bK(U:TypeId→TI)(ρ:Env)(ty:TypeId)(parts:List (Nat×Operand))(k:AV→Prop)(tk:TK):Prop:=match tk with
 |.strct fs=>(U ty).sz≠0∧aF (IC (U ty).zero) fun cs0=>withps U ρ fs parts cs0 (S6 k)
 |_=>False
theorem acT(ty)(parts)(fs):bK U ρ ty parts k (.strct fs)=((U ty).sz≠0∧aF (IC (U ty).zero) fun cs0=>withps U ρ fs parts cs0 (S6 k)):=(rfl)
def bU(U:TypeId→TI)(ρ:Env)(ty:TypeId)(parts:List (Nat×Operand))(k:AV→Prop)(b:Bool):Prop:=match b with
 |true=>parts= []∧k (.agg [])
 |false=>atK (U ty).k (bK U ρ ty parts k)
theorem afg(ty)(parts):bU U ρ ty parts k true=(parts= []∧k (.agg [])):=(rfl)
theorem aff(ty)(parts):bU U ρ ty parts k false=atK (U ty).k (bK U ρ ty parts k):=(rfl)
theorem W9:isUnit (.strct [])=true:=(rfl)
theorem W8(f)(fs):isUnit (.strct (f::fs))=false:=(rfl)
theorem W7(x):isUnit (.int x)=false:=(rfl)
theorem W5:isUnit .bool=false:=(rfl)
theorem TT:isUnit .str=false:=(rfl)
theorem VE(e):isUnit (.slice e)=false:=(rfl)
theorem W6(x):isUnit (.cplx x)=false:=(rfl)
attribute [go_sem↓] Q4 X5 acT afg aff
attribute [go_sem] Vb W9 W8 W7 W5 TT VE W6
theorem Og(ty)(parts):(match (U ty).k with
  |.strct fs=>(U ty).sz≠0∧∃cs0,(U ty).zero= .agg cs0∧withps U ρ fs parts cs0 fun cs=>(atH Q h) (.agg cs)
  |_=>False)=atK (U ty).k (bK U ρ ty parts (atH Q h)):=by
 congr 1
 cases hz:(U ty).zero<;>simp[IC,aF]
 rfl
theorem YX(ty)(parts):bg P U ρ h ⟨d,.build ty parts.toArray,t,p,a,g⟩ Q=bU U ρ ty parts (atH Q h) (isUnit (U ty).k):=by
 simp only[bg,pv];cases isUnit (U ty).k
 ·simp only[bU,Bool.false_eq_true,if_false]
  exact Og ty parts
 rfl
@[congr] theorem PD{fs}{ps}{cs cs'}{k}(e:cs=cs'):withps U ρ fs ps cs k=withps U ρ fs ps cs' k:=by rw[e]
theorem UN(fs)(cs)(k):withps U ρ fs [] cs k=k cs:=(rfl)
attribute [go_sem↓] YX
attribute [go_sem] UN
theorem SH(fs)(i)(x)(r)(cs)(k):
  withps U ρ fs ((i,x)::r) cs k=aF fs[i]? fun q=>(U q.2).sz≠0∧aF (ev ρ x) fun y=>fit y (U q.2).sz∧q.1+(U q.2).sz≤cs.length∧withps U ρ fs r (over cs q.1 y.cells) k:=by
 simp only[withps,cc];cases fs[i]? <;>rfl
theorem Y2(cs)(o)(xs):over cs o xs=cs.take o++xs++cs.drop (o+xs.length):=(rfl)
attribute [go_sem] SH Y2
section
variable {ty : TypeId} {y : AV}
end
def Xh(f:FuncId)(k:AV→Prop)(ys:List AV):Prop:=k (.fn f ys)
@[go_sem↓] theorem YT(f)(ys):Xh f k ys=k (.fn f ys):=(rfl)
theorem Ud(f)(cap):bg P U ρ h ⟨d,.makeFunc (.func f) #[] cap.toArray,t,p,a,g⟩ Q=aF (evs ρ cap) (Xh f (atH Q h)):=by simp only[bg,pv,ig];rfl
def fnA(y:AV)(f:FuncId→List AV→Prop):Prop:=match y with
 |.fn g cap=>f g cap
 |_=>False
@[congr] theorem VB{y y'}{f}(e:y=y'):fnA y f=fnA y' f:=by rw[e]
theorem ZN(g)(cap)(f):fnA (.fn g cap) f=f g cap:=(rfl)
attribute [go_sem↓] Ud ZN
theorem ZV(q)(args)(ts):bg P U ρ h ⟨d,.call ⟨.value q,args.toArray,ts⟩,t,p,a,g⟩ Q=aF (ev ρ q) fun y=>fnA y fun f cap=>aF (evs ρ args) fun ys=>ai P f (ys++cap) h Q:=by
 simp only[bg,cc,ig]
 congr 1
def xW(y:AV)(k:AV→Prop)(tk:TK):Prop:=match tk,y with
 |.str,.s l=>k (.i l.length)
 |.slice _,.sl xs _=>k (.i xs.length)
 |.slice _,.oa _ _ len=>k (.i len)
 |.slice _,.ob _ _ len _ _=>k (.i len)
 |_,_=>False
def QL(k:AV→Prop)(b:Blk):Prop:=match b with
 |.mp m=>k (.i m.length)
 |_=>False
@[congr] theorem TY{b b'}(e:b=b'):QL k b=QL k b' :=by rw[e]
def TZ(h:Heap)(y:AV)(k:AV→Prop)(tk:TK):Prop:=match tk,y with
 |.map _ _,.mp id=>aF (h id) (QL k)
 |tk,y=>xW y k tk
theorem Xc(y):TZ h y k .str=xW y k .str:=(rfl)
theorem T0(y)(e):TZ h y k (.slice e)=xW y k (.slice e):=(rfl)
theorem YQ(i o l c s)(e):xW (.ob i o l c s) k (.slice e)=k (.i l):=(rfl)
theorem ZR(l):xW (.s l) k .str=k (.i l.length):=(rfl)
theorem YR(xs)(q)(e):xW (.sl xs q) k (.slice e)=k (.i xs.length):=(rfl)
attribute [go_sem↓] ZV Xc T0 YQ ZR YR
theorem adj(x)(ty):bg P U ρ h ⟨d,.call ⟨.builtin .len, #[x], #[ty]⟩,t,p,a,g⟩ Q=aF (ev ρ x) fun y=>atK (U ty).k (TZ h y (atH Q h)):=by
 simp only[bg,pv,pvB,cc,atK]
 congr 1
 funext y
 cases (U ty).k with
 |map a b=>
  cases y with
  |mp id=>
   show(match h id with
    |some (.mp m)=>Q (.i m.length) h
    |_=>False)=aF (h id) (QL (atH Q h))
   exact ajW
  |_=>rfl
 |_=>cases y<;>rfl
def Wl(y:AV)(k:AV→Prop)(tk:TK):Prop:=match tk,y with
 |.slice _,.sl xs .full=>k (.i xs.length)
 |.slice _,.ob _ _ _ cap _=>k (.i cap)
 |_,_=>False
theorem Yg(i o l c s)(e):Wl (.ob i o l c s) k (.slice e)=k (.i c):=(rfl)
attribute [go_sem↓] adj Yg
theorem adi(x)(ty):bg P U ρ h ⟨d,.call ⟨.builtin .cap, #[x], #[ty]⟩,t,p,a,g⟩ Q=aF (ev ρ x) fun y=>atK (U ty).k (Wl y (atH Q h)):=by
 simp only[bg,pv,pvB,cc,atK]
 congr 1
@[congr] theorem T7{ys ys'}(e:ys=ys'):E2 ys k=E2 ys' k:=by rw[e]
@[congr] theorem T4{ys ys'}(e:ys=ys'):A2 ys k=A2 ys' k:=by rw[e]
attribute [go_sem↓] adi
@[go_sem] theorem Xg(x)(i j):E2 [.v (.int x i),.v (.int x j)] k=k (.v (.int x (if j<i then j else i))):=by simp[E2]
theorem Xf(x)(i j):A2 [.v (.int x i),.v (.int x j)] k=k (.v (.int x (if i<j then j else i))):=by simp[A2]
@[congr] theorem Sw{ys ys'}(e:ys=ys'):Ak ys k=Ak ys' k:=by rw[e]
@[congr] theorem Si{ys ys'}(e:ys=ys'):zp ys k=zp ys' k:=by rw[e]
@[congr] theorem Sc{ys ys'}(e:ys=ys'):yU ys k=yU ys' k:=by rw[e]
theorem Xt(x)(i j):Ak [.v (.complex x i j)] k=k (.v (.float x i)):=(rfl)
theorem W3(x)(i j):zp [.v (.complex x i j)] k=k (.v (.float x j)):=(rfl)
theorem Ws(x y)(i j):yU [.v (.float x i),.v (.float y j)] k=(x=y∧k (.v (.complex x i j))):=(rfl)
theorem HB{x y}{i j}{r}(h:∀(P:Program) (ts:Array TypeId) (ty:TypeId) (w:World),(Builtin.max_ ts ty #[.float x i,.float y j]).run P w= .ok r w)(k):A2 [.v (.float x i),.v (.float y j)] k=k (.v r):=propext ⟨fun⟨r',h',hk⟩=>by have e:=(h default #[] 0 default).symm.trans (h' default #[] 0 default);cases e;exact hk,fun hk=>⟨r,h,hk⟩⟩
attribute [go_sem] Xf Ws
attribute [go_sem↓] Xt W3
@[go_sem↓] theorem Z3(args)(ts):bg P U ρ h ⟨d,.call ⟨.builtin .real,args.toArray,ts⟩,t,p,a,g⟩ Q=aF (evs ρ args) fun ys=>Ak ys (atH Q h):=by simp only[bg,pv,pvB,ig];rfl
@[go_sem↓] theorem ZX(args)(ts):bg P U ρ h ⟨d,.call ⟨.builtin .imag,args.toArray,ts⟩,t,p,a,g⟩ Q=aF (evs ρ args) fun ys=>zp ys (atH Q h):=by simp only[bg,pv,pvB,ig];rfl
@[go_sem↓] theorem VO(args)(ts):bg P U ρ h ⟨d,.call ⟨.builtin .complex,args.toArray,ts⟩,t,p,a,g⟩ Q=aF (evs ρ args) fun ys=>yU ys (atH Q h):=by simp only[bg,pv,pvB,ig];rfl
@[go_sem↓] theorem adl(args)(ts):bg P U ρ h ⟨d,.call ⟨.builtin .min,args.toArray,ts⟩,t,p,a,g⟩ Q=aF (evs ρ args) fun ys=>E2 ys (atH Q h):=by simp only[bg,pv,pvB,ig];rfl
theorem adk(args)(ts):bg P U ρ h ⟨d,.call ⟨.builtin .max,args.toArray,ts⟩,t,p,a,g⟩ Q=aF (evs ρ args) fun ys=>A2 ys (atH Q h):=by simp only[bg,pv,pvB,ig];rfl
@[congr] theorem Ut{e}{y y'}{f}(h1:y=y'):iY U e h y f=iY U e h y' f:=by rw[h1]
theorem Y7(e)(ys)(q)(f):iY U e h (.sl ys q) f=f ys:=(rfl)
theorem Uu(e)(l)(f):iY U e h (.s l) f=((U e).k= .int .u8∧(U e).sz=1∧f (l.map aK)):=(rfl)
def apK(U:TypeId→TI)(h:Heap)(x y:AV)(Q:AV→Heap→Prop)(tk:TK):Prop:=match tk,x with
 |.slice e,.sl xs .full=>(U e).sz≠0∧(U e).bytes≠0∧iY U e h y fun ys=>Sized (U e).sz xs∧Sized (U e).sz ys∧(xs.length+ys.length)*(U e).bytes≤140737488355328∧
   sZ U h xs ys e Q
 |.slice e,.sl xs (.own id)=>(U e).sz≠0∧(U e).bytes≠0∧iY U e h y fun ys=>Sized (U e).sz xs∧Sized (U e).sz ys∧(xs.length+ys.length)*(U e).bytes≤140737488355328∧
   h id=some (.spare xs.length (U e).sz)∧Q (.sl (xs++ys) (.own id)) (upd h id (some (.spare (xs.length+ys.length) (U e).sz)))
 |.slice e,.oa id off len=>(U e).sz≠0∧(U e).bytes≠0∧(U e).sz=1∧iY U e h y fun ys=>Sized 1 ys∧(∀z∈ys,bB z=false)∧(len+ys.length)*(U e).bytes≤140737488355328∧aF (h id) fun b=>qS b fun cs t=>
   off+len≤cs.length∧(∀z∈(cs.drop off).take len,bB z=false)∧fit (U e).zero 1∧bB (U e).zero=false∧
     (off+(len+ys.length)≤cs.length→Q (.oa id off (len+ys.length)) (upd h id (some (.obj (over cs (off+len) ys) t))))∧
     (∀id' m,h id' =none→Q (.oa id' 0 (len+ys.length)) (upd h id' (some (.obj ((cs.drop off).take len++ys++List.replicate m (U e).zero) e))))
 |.slice e,.ob id off len cap sz=>(U e).sz≠0∧(U e).bytes≠0∧sz=(U e).sz∧iY U e h y fun ys=>Sized (U e).sz ys∧(len+ys.length)*(U e).bytes≤140737488355328∧aF (h id) fun b=>qS b fun cs t=>
   off+len*(U e).sz≤cs.length∧fit (U e).zero (U e).sz∧
     (len+ys.length≤cap→Q (.ob id off (len+ys.length) cap (U e).sz) (upd h id (some (.obj (over cs (off+len*(U e).sz) (au ys)) t))))∧
     (cap<len+ys.length→ld h ((cs.drop off).take (len*(U e).sz)++au ys) (len+ys.length) (U e).sz e Q)
 |_,_=>False
theorem qX(xs)(y)(e):apK U h (.sl xs .full) y Q (.slice e)=((U e).sz≠0∧(U e).bytes≠0∧iY U e h y fun ys=>Sized (U e).sz xs∧Sized (U e).sz ys∧(xs.length+ys.length)*(U e).bytes≤140737488355328∧
   sZ U h xs ys e Q):=(rfl)
theorem CM(xs)(y)(id)(e):apK U h (.sl xs (.own id)) y Q (.slice e)=((U e).sz≠0∧(U e).bytes≠0∧iY U e h y fun ys=>Sized (U e).sz xs∧Sized (U e).sz ys∧(xs.length+ys.length)*(U e).bytes≤140737488355328∧
   h id=some (.spare xs.length (U e).sz)∧Q (.sl (xs++ys) (.own id)) (upd h id (some (.spare (xs.length+ys.length) (U e).sz)))):=(rfl)
attribute [go_sem↓] adk Y7 Uu qX CM
theorem FY(ts)(x y):sk U h ts x y Q=atK (U ts).k (apK U h x y Q):=by
 unfold sk atK;cases (U ts).k with
 |slice e=>
  cases x with
  |sl xs q=>
   cases q with
   |no=>
    simp only[apK];apply propext;constructor
    ·rintro⟨_,_,hk⟩
     obtain⟨ys,hh,_⟩:∃ys:List AV,(Sized (U e).sz xs∧Sized (U e).sz ys∧(xs.length+ys.length)*(U e).bytes≤140737488355328∧False)∧True:=by
      unfold iY at hk
      grind
     grind
    simp
   |full=>rfl
   |own id=>rfl
  |oa id off len=>
   refine congrArg (fun q=>(U e).sz≠0∧(U e).bytes≠0∧(U e).sz=1∧q) (congrArg (fun f=>iY U e h y f) (funext fun ys=>?_))
   exact ajW
  |ob id off len cap sz=>
   refine congrArg (fun q=>(U e).sz≠0∧(U e).bytes≠0∧sz=(U e).sz∧q) (congrArg (fun f=>iY U e h y f) (funext fun ys=>?_))
   exact ajW
  |_=>simp[apK]
 |_=>rfl
theorem Ve(e)(A B:Prop):apT A B (.slice e)=A:=(rfl)
theorem Ya(A B:Prop):apT A B .str=A:=(rfl)
theorem X9(x)(A B:Prop):apT A B (.int x)=B:=(rfl)
def PX(U:TypeId→TI)(h:Heap)(x y:AV)(Q:AV→Heap→Prop)(tk:TK):Prop:=match tk,x,y with
 |.slice e,.ob id off len cap sz,.v (.int _ n)=>(U e).sz≠0∧(U e).bytes≠0∧sz=(U e).sz∧0<n∧(len+n.toNat)*(U e).bytes≤140737488355328∧fit (U e).zero (U e).sz∧cap<len+n.toNat∧aF (h id) fun b=>qS b fun cs _=>off+len*(U e).sz≤cs.length∧ld h ((cs.drop off).take (len*(U e).sz)++cQ (U e).zero n.toNat (U e).sz) (len+n.toNat) (U e).sz e Q
 |_,_,_=>False
theorem Yb(id off len cap sz)(x)(n)(e):PX U h (.ob id off len cap sz) (.v (.int x n)) Q (.slice e)=((U e).sz≠0∧(U e).bytes≠0∧sz=(U e).sz∧0<n∧(len+n.toNat)*(U e).bytes≤140737488355328∧fit (U e).zero (U e).sz∧cap<len+n.toNat∧aF (h id) fun b=>qS b fun cs _=>off+len*(U e).sz≤cs.length∧ld h ((cs.drop off).take (len*(U e).sz)++cQ (U e).zero n.toNat (U e).sz) (len+n.toNat) (U e).sz e Q):=(rfl)
attribute [go_sem↓] Ve Ya X9 Yb
theorem Pm(ts)(x y):FZ U h ts x y Q=atK (U ts).k (PX U h x y Q):=by
 unfold FZ atK;cases (U ts).k with
 |slice e=>
  cases x with
  |ob id off len cap sz=>
   cases y with
   |v u=>
    cases u with
    |int k n=>simp only[PX];exact ajW
    |_=>rfl
   |_=>rfl
  |_=>rfl
 |_=>rfl
theorem Xm(x y)(t1 t2):bg P U ρ h ⟨d,.call ⟨.builtin .append, #[x,y], #[t1,t2]⟩,t,p,a,g⟩ Q=aF (ev ρ x) fun u=>aF (ev ρ y) fun v=>atK (U t2).k (apT (atK (U t1).k (apK U h u v Q)) (atK (U t1).k (PX U h u v Q))):=by simp[bg,cc,FY,Pm,atK]
def alU(U:TypeId→TI)(h:Heap)(ty:TypeId)(Q:AV→Heap→Prop)(b:Bool):Prop:=match b with
 |true=>Mp h (.obj [] ty) Q
 |false=>(U ty).sz≠0∧fit (U ty).zero (U ty).sz∧Mp h (.obj (U ty).zero.cells ty) Q
theorem acS(ty):alU U h ty Q true=Mp h (.obj [] ty) Q:=(rfl)
theorem acR(ty):alU U h ty Q false=((U ty).sz≠0∧fit (U ty).zero (U ty).sz∧Mp h (.obj (U ty).zero.cells ty) Q):=(rfl)
attribute [go_sem↓] Xm acS acR
@[go_sem↓] theorem YV(ty):bg P U ρ h ⟨d,.alloc ty,t,p,a,g⟩ Q=alU U h ty Q (isUnit (U ty).k):=by simp only[bg];cases isUnit (U ty).k<;>rfl
theorem adh(ty)(x):bg P U ρ h ⟨d,.box ty x,t,p,a,g⟩ Q=((U ty).sz≠0∧aF (ev ρ x) fun y=>fit y (U ty).sz∧Mp h (.obj y.cells ty) Q):=by simp only[bg,cc];rfl
def stA(U:TypeId→TI)(h:Heap)(ty:TypeId)(q y:AV)(Q:AV→Heap→Prop):Prop:=match q with
 |.ptr id off=>aF (h id) fun b=>qS b fun cs t' =>fit y (U ty).sz∧off+(U ty).sz≤cs.length∧Q (.v undef) (upd h id (some (.obj (over cs off y.cells) t')))
 |_=>False
@[congr] theorem VU{ty}{q q' y y'}(e1:q=q')(e2:y=y'):stA U h ty q y Q=stA U h ty q' y' Q:=by grind
theorem Y8(ty)(id off)(y):stA U h ty (.ptr id off) y Q=aF (h id) fun b=>qS b fun cs t' =>fit y (U ty).sz∧off+(U ty).sz≤cs.length∧Q (.v undef) (upd h id (some (.obj (over cs off y.cells) t'))):=(rfl)
def utA(h:Heap)(u y:AV)(Q:AV→Heap→Prop):Prop:=y= .agg []∧match u with
 |.ptr .. =>Q (.v undef) h
 |_=>False
@[congr] theorem VZ{u u' y y'}(e1:u=u')(e2:y=y'):utA h u y Q=utA h u' y' Q:=by grind
attribute [go_sem↓] adh Y8
theorem aam(i o):utA h (.ptr i o) (.agg []) Q=Q (.v undef) h:=by simp[utA]
def stU(U:TypeId→TI)(ρ:Env)(h:Heap)(ty:TypeId)(q x:Operand)(Q:AV→Heap→Prop)(b:Bool):Prop:=match b with
 |true=>aF (ev ρ q) fun u=>aF (ev ρ x) fun y=>utA h u y Q
 |false=>(U ty).sz≠0∧aF (ev ρ q) fun u=>aF (ev ρ x) fun y=>stA U h ty u y Q
theorem adq(ty)(q x):stU U ρ h ty q x Q true=aF (ev ρ q) fun u=>aF (ev ρ x) fun y=>utA h u y Q:=(rfl)
theorem adp(ty)(q x):stU U ρ h ty q x Q false=((U ty).sz≠0∧aF (ev ρ q) fun u=>aF (ev ρ x) fun y=>stA U h ty u y Q):=(rfl)
attribute [go_sem↓] aam adq adp
theorem Y1(ty)(q x):bg P U ρ h ⟨d,.store ty q x,t,p,a,g⟩ Q=stU U ρ h ty q x Q (isUnit (U ty).k):=by
 simp only[bg,cc];cases isUnit (U ty).k
 case true=>rfl
 simp only[stU,Bool.false_eq_true,if_false]
 congr 1
 congr 1
 funext u
 congr 1
 funext y
 cases u<;>simp only[stA]
 rename_i id off
 exact ajW
def nZ(xs:List AV)(h:Heap)(Q:AV→Heap→Prop):Prop:=∃y h',Weak (ax xs) y∧Sub h' h∧Q y h'
@[congr] theorem R1{xs xs'}{h h'}{Q}(e1:xs=xs')(e2:h=h'):nZ xs h Q=nZ xs' h' Q:=by grind
attribute [go_sem↓] Y1
@[go_sem↓] theorem Vi(rs):wK U rs Q .ret ρ h=tK ρ h U rs fun xs=>nZ xs h Q:=by simp[wK,nZ]
theorem P6(rs):wK U rs Q .normal ρ h=tK ρ h U rs fun xs=>nZ xs h Q:=by simp[wK,nZ]
theorem Xw(f):tK ρ h U [] f=f []:=(rfl)
attribute [go_sem↓] P6 Xw
theorem Xx(i)(r)(f):tK ρ h U (.tmp i::r) f=aF (lk ρ i) fun x=>tK ρ h U r fun xs=>f (x::xs):=by simp only[tK];cases lk ρ i<;>rfl
def DX(U:TypeId→TI)(h:Heap)(ty:TypeId)(y:AV)(k:AV→Prop):Prop:=match y with
 |.ptr id off=>aF (h id) fun b=>qS b fun cs _=>(U ty).sz≠0∧(U ty).k≠ .other∧iW cs off (U ty) k
 |_=>False
@[congr] theorem R9{ty}{y y'}(e:y=y'):DX U h ty y k=DX U h ty y' k:=by rw[e]
theorem Vj(ty)(id off):DX U h ty (.ptr id off) k=aF (h id) fun b=>qS b fun cs _=>(U ty).sz≠0∧(U ty).k≠ .other∧iW cs off (U ty) k:=(rfl)
attribute [go_sem↓] Xx Vj
theorem VS(i)(ty)(r)(f):tK ρ h U (.cell i ty::r) f=aF (lk ρ i) fun y=>DX U h ty y fun x=>tK ρ h U r fun xs=>f (x::xs):=by
 simp only[tK];cases lk ρ i with
 |none=>rfl
 |some y=>
  cases y<;>simp only[dQ,DX]
  rename_i id off
  exact ajW
theorem nZ.mk{xs}{h h'}{Q}(y)(hw:Weak (ax xs) y)(hs:Sub h' h)(hq:Q y h'):nZ xs h Q:=⟨y,h',hw,hs,hq⟩
theorem nZ.same{xs}{h h'}{Q}(hs:Sub h' h)(hq:Q (ax xs) h'):nZ xs h Q:=⟨_,h',.refl _,hs,hq⟩
theorem Sub.refl(h):Sub h h:=fun _ _ e=>e
theorem Sub.trans{a b c}(h1:Sub a b)(h2:Sub b c):Sub a c:=fun i k e=>h2 i k (h1 i k e)
theorem Sub.new{a b}(hs:Sub a b){id}(hid:b id=none)(k):Sub a (Ab.upd b id k):=fun j l e=>by
 by_cases ej:j=id
 ·subst ej;rw[hs _ _ e]at hid;grind
 ·rw[ag _ _ ej];exact hs _ _ e
theorem Sub.none{a b}(hs:Sub a b){id}(hid:b id=none):a id=none:=by
 cases hh:a id with
 |none=>rfl
 |some k=>rw[hs _ _ hh]at hid;omega
attribute [go_sem↓] VS
theorem ai.body(hU:∀t,aQ P U t)(hm:P.follows .mixedOrders=true){f}{fn}{c}{args}{h}{Q}(hf:P.funcs[f]? =some fn)(hb:fn.body=some c)
  (hn : (fn.name == "runtime.NumGoroutine") = false) (m) (hm' : fn.ntmps = m) (rs) (hr : fn.results.toList = rs) (hl : args.length ≤ m)
  (hk:(∀x∈args,wfA x)→bI P U m c (za args) h (wK U rs Q)):ai P f args h Q:=by
 subst hm';subst hr
 exact ai.Xp hU hm hf hb hn hl hk
end
section
variable {P : Program} {U : TypeId → TI} {n : Nat} {ρ : Env} {h : Heap}
variable {d : Option Tmp} {t : TypeId} {p : String} {a : Array Edge} {g : Option (Nat × Bool)} {Q : AV → Heap → Prop} {k : AV → Prop}
def dsts(n:Nat):List Oper→Bool
 | []=>true
 |o::os=>fk n o.dst && dsts n os
theorem pT(l):dsts n l=l.all fun o=>fk n o.dst:=by induction l with
 |nil=>rfl
 |cons o os ih=>grind [dsts]
@[go_sem] theorem WC:(dsts n []=true)=True:=by simp[dsts]
theorem Vr(o)(os):(dsts n (o::os)=true)=(fk n o.dst=true∧dsts n os=true):=by simp[dsts]
def DF(ops:Array Oper):Prop:=zF ops=true
theorem DF.of{ops}(h:zF ops=true):DF ops:=h
def Gt(k:AV→Prop)(x:AV)(_:Heap):Prop:=k x
theorem Vn(x):Gt k x h=k x:=(rfl)
def KDr(P:Program)(U:TypeId→TI)(n:Nat)(all os:List Oper)(h:Heap)(K:Env→Prop)(ρ:Env)(d:Option Tmp)(x:AV):Prop:=mG P U n all os (put ρ d x) h K
theorem Ze(all os)(K)(x):KDr P U n all os h K ρ d x=mG P U n all os (put ρ d x) h K:=(rfl)
def atN(K:Exit→Env→Heap→Prop)(h:Heap)(ρ:Env):Prop:=K .normal ρ h
theorem Zk(K):atN K h ρ=K .normal ρ h:=(rfl)
def Mn(ops:Array Oper):Prop:=NY ops=true
theorem Mn.of{ops}(h:NY ops=true):Mn ops:=h
attribute [go_sem] Vr
attribute [go_sem↓] Vn Ze Zk
attribute [go_sem] Bool.not_false Bool.not_true C7 Option.isNone_none Option.isNone_some Bool.and_true Bool.true_and Bool.and_false Bool.false_and List.dropLast_singleton
theorem Ht(o o')(r):sV (o::o' ::r)=sV (o' ::r):=(rfl)
theorem AW(o o' :Oper)(r:List Oper):(o::o' ::r).dropLast=o::(o' ::r).dropLast:=(rfl)
theorem VF(o)(K):qI P U [o] h K ρ=bg P U ρ h o (fun X h' =>K (put ρ o.dst X) h'):=(rfl)
theorem TX(o o')(r)(K):qI P U (o::o' ::r) h K ρ=qI P U (o' ::r) h K ρ:=(rfl)
def JR(l:List Oper)(k:List Oper→Prop):Prop:=k l
@[congr] theorem SG{l l'}{k}(e:l=l'):JR l k=JR l' k:=by rw[e]
theorem UM(o)(r)(k):JR (o::r) k=k (o::r):=(rfl)
attribute [go_sem] Ht AW UM
attribute [go_sem↓] VF TX
section
variable (l : List Oper)
theorem Uz:oX []=true:=(rfl)
theorem FT(o):oX (o::l)=(!dR o.op && oX l):=(rfl)
attribute [go_sem] Uz FT
end
section
variable (x y z : Operand) (ty ty' : TypeId)
theorem Vv:dR (.move x)=false:=(rfl)
theorem Sf:dR (.assign x)=false:=(rfl)
theorem Vw:dR (.pick x y z)=false:=(rfl)
theorem PB:dR (.nilCheck x)=false:=(rfl)
theorem Ty(op):dR (.binOp op ty x y ty')=false:=(rfl)
theorem Vx(op):dR (.unOp op ty x)=false:=(rfl)
theorem Ql:dR (.convert ty ty' x)=false:=(rfl)
theorem Qm(f):dR (.extract x f)=false:=(rfl)
theorem TA:dR (.index ty x y)=false:=(rfl)
theorem Na(f):dR (.fieldAddr ty x f)=false:=(rfl)
theorem Nc:dR (.indexAddr ty x y)=false:=(rfl)
theorem Vu:dR (.load ty x)=false:=(rfl)
theorem TB(lo hi mx):dR (.slice ty x lo hi mx)=false:=(rfl)
theorem Mk(m)(ps):dR (.buildSlice ty m ps)=false:=(rfl)
theorem Tz(ps):dR (.build ty ps)=false:=(rfl)
theorem WD(aa)(ts):dR (.call ⟨.builtin .len,aa,ts⟩)=false:=(rfl)
theorem WG(aa)(ts):dR (.call ⟨.builtin .min,aa,ts⟩)=false:=(rfl)
theorem WE(aa)(ts):dR (.call ⟨.builtin .max,aa,ts⟩)=false:=(rfl)
theorem Vs(aa)(ts):dR (.call ⟨.value x,aa,ts⟩)=true:=(rfl)
theorem Se(aa)(ts):dR (.call ⟨.builtin .append,aa,ts⟩)=true:=(rfl)
theorem Vt(aa)(ts):dR (.call ⟨.builtin .copy,aa,ts⟩)=true:=(rfl)
theorem Tx:dR (.alloc ty)=true:=(rfl)
theorem TC:dR (.store ty x y)=true:=(rfl)
attribute [go_sem] Vv Sf Vw PB Ty Vx Ql Qm TA Na Nc Vu TB Mk Tz WD WG WE Vs Se Vt Tx TC
end
def nX(P:Program)(U:TypeId→TI)(n:Nat)(l:List Oper)(ρ:Env)(h:Heap)(K:Exit→Env→Heap→Prop):Prop:=SF P U n l.toArray ρ h (K .normal)
theorem nX.quiet{l}{K}(hB:zF l.toArray=true)(hk:dsts n l=true∧mG P U n l l ρ h (atN K h)):nX P U n l ρ h K:=
 ⟨by grind [pT],.inl ⟨hB,hk.2⟩⟩
theorem nX.calls{l}{K}(hm)(os)(hs:Sub hm h)(hB:kN .any l.toArray none (.seq os) (Array.replicate l.toArray.size false)=true)(hl:os.length=l.toArray.size)
  (hk:dsts n l=true∧eE P U n l hm os ρ h (K .normal)):nX P U n l ρ h K:=
 ⟨by grind [pT],.inr (.inl ⟨hm,.seq os,_,hs,hB,hl,hk.2,fun _ _ h=>h⟩)⟩
def S4(P:Program)(U:TypeId→TI)(n:Nat)(l:List Oper)(o2:List Nat)(K:Exit→Env→Heap→Prop)(ρ:Env)(h:Heap):Prop:=∃hm2,Sub hm2 h∧eE P U n l hm2 o2 ρ h (K .normal)
theorem nX.tree{l}{K}(hm)(t)(hs:Sub hm h)(hB:kN .any l.toArray none t (Array.replicate l.toArray.size false)=true)(hl:t.len=l.toArray.size)
  (hk:dsts n l=true∧mz P U n l hm t ρ h (K .normal)):nX P U n l ρ h K:=
 ⟨by grind [pT],.inr afv⟩
theorem nX.stage{l}{K}(hm)(o1 o2)(hs:Sub hm h)(hB:yy .any l.toArray o1 o2=true)
  (hk:dsts n l=true∧eE P U n l hm o1 ρ h (S4 P U n l o2 K)):nX P U n l ρ h K:=
 ⟨by grind [pT],.inr (.inr (.inl ⟨hm,o1,o2,hs,hB,hk.2⟩))⟩
def IB(P:Program)(U:TypeId→TI)(l:List Oper)(K:Exit→Env→Heap→Prop)(ρ:Env)(h:Heap):Prop:=qI P U l h (K .normal) ρ
theorem U6(o)(K):IB P U [o] K ρ h=bg P U ρ h o (fun X h' =>K .normal (put ρ o.dst X) h'):=(rfl)
theorem SY(o o')(r)(K):IB P U (o::o' ::r) K ρ h=IB P U (o' ::r) K ρ h:=(rfl)
theorem nX.last{l}{K}(hm)(os)(hs:Sub hm h)(hz:F5 .any l.toArray os.length=true)(hg:(l.getLast?.map fun o=>o.guard.isNone)=some true)(hB:kN .any l.toArray (some os.length) (.seq os) (Array.replicate l.toArray.size false)=true)(hl:os.length+1=l.toArray.size)
  (hk:dsts n l=true∧eE P U n l hm os ρ h (IB P U l K)):nX P U n l ρ h K:=
 ⟨by grind [pT],.inr (.inr (.inr (.inl ⟨hm,.seq os,hs,hz,hg,hB,hl,hk.2⟩)))⟩
def wH(P:Program)(U:TypeId→TI)(n:Nat)(l:List Oper)(ρ:Env)(h:Heap)(K:Exit→Env→Heap→Prop)(b:Bool)(e:Bool):Prop:=match b,e with
 |true,_=>Mn l.toArray∧dsts n l=true∧mG P U n l l.dropLast ρ h (qI P U l h (K .normal))
 |false,true=>DF l.toArray∧dsts n l=true∧mG P U n l l ρ h (atN K h)
 |false,false=>nX P U n l ρ h K
@[congr] theorem RW{l}{K}{b b' e e'}(h1:b=b')(h2:e=e'):wH P U n l ρ h K b e=wH P U n l ρ h K b' e' :=by grind
theorem SM(l)(K)(e):wH P U n l ρ h K true e=(Mn l.toArray∧dsts n l=true∧JR l.dropLast fun l' =>mG P U n l l' ρ h (qI P U l h (K .normal))):=(rfl)
theorem RX(l)(K):wH P U n l ρ h K false true=(DF l.toArray∧dsts n l=true∧mG P U n l l ρ h (atN K h)):=(rfl)
theorem UR(l)(K):wH P U n l ρ h K false false=nX P U n l ρ h K:=(rfl)
def tM(l:List Oper):Bool:=sV l && oX l.dropLast
attribute [go_sem↓] U6 SY SM RX UR
theorem Uy(o):tM [o]=(C7 o.op && o.guard.isNone):=by simp[tM,sV,oX]
theorem Sz(o o')(r):tM (o::o' ::r)=(!dR o.op && tM (o' ::r)):=by grind [tM,Ht,AW,FT,dR]
attribute [go_sem] Uy Sz
theorem aaa(id)(l)(K):bI P U n (.region id l.toArray true) ρ h K=wH P U n l ρ h K (tM l) (oX l):=by
 simp only[bI,if_true,tM];cases hb:(sV l && oX l.dropLast)with
 |true=>simp[if_true,Bool.and_eq_true,wH,Mn,pT,and_assoc]
 |false=>
  cases he:oX l with
  |true=>simp only[Bool.false_eq_true,if_false,Bool.and_eq_true,wH,DF,pT,and_assoc,Bool.true_eq_false];rfl
  |false=>rfl
def sN(P:Program)(U:TypeId→TI)(n:Nat)(all:List Oper)(hm:Heap)(is:List Nat)(K:Env→Heap→Prop)(ρ:Env)(d:Option Tmp)(X:AV)(h:Heap):Prop:=eE P U n all hm is (put ρ d X) h K
theorem X1(all)(hm)(is)(K)(d)(X):sN P U n all hm is K ρ d X h=eE P U n all hm is (put ρ d X) h K:=(rfl)
def SR(P:Program)(U:TypeId→TI)(n:Nat)(all:List Oper)(hm:Heap)(is:List Nat)(K:Env→Heap→Prop)(ρ:Env)(d:Option Tmp)(X:AV)(h:Heap):Prop:=Sub hm h∧eE P U n all hm is (put ρ d X) h K
theorem X2(all)(hm)(is)(K)(d)(X):SR P U n all hm is K ρ d X h=(Sub hm h∧eE P U n all hm is (put ρ d X) h K):=(rfl)
theorem adf(all)(hm)(K):eE P U n all hm [] ρ h K=K ρ h:=(rfl)
def ny(P:Program)(U:TypeId→TI)(n:Nat)(all:List Oper)(hm:Heap)(is:List Nat)(K:Env→Heap→Prop)(ρ:Env)(h:Heap)(o:Oper)(e:Bool):Prop:=match e with
 |true=>bg P U ρ h o (SR P U n all hm is K ρ o.dst)
 |false=>pv U ρ hm o.op fun X=>eE P U n all hm is (put ρ o.dst X) h K
@[congr] theorem S1{all}{hm}{is}{K}{o}{e e'}(he:e=e'):ny P U n all hm is K ρ h o e=ny P U n all hm is K ρ h o e' :=by rw[he]
def iO(k:AV→Heap→Prop)(h:Heap)(x:AV)(_:Heap):Prop:=k x h
theorem Vm(k)(h h')(x):iO k h x h' =k x h:=(rfl)
theorem U9(all)(hm)(is)(K)(op):ny P U n all hm is K ρ h ⟨d,op,t,p,a,g⟩ true=bg P U ρ h ⟨d,op,t,p,a,g⟩ (SR P U n all hm is K ρ d):=(rfl)
def notNil:Op→Bool
 |.binOp _ _ _ y _=> !HH y
 |_=>true
attribute [go_sem↓] aaa X1 X2 adf Vm U9
theorem Rb{hm}{op}{k}(h1:dR op=false)(h2:notNil op=true):bg P U ρ hm ⟨d,op,t,p,a,g⟩ (iO k h)=pv U ρ hm op fun X=>k X h:=by
 cases op with
 |call c=>
  obtain⟨cal,args,ts⟩:=c;cases cal with
  |value q=>grind [dR]
  |builtin b=>cases b<;>first|rfl|grind [dR]
  |_=>rfl
 |binOp op ty x y ty' =>simp only[notNil,Bool.not_eq_true']at h2;simp only[bg,h2];rfl
 |alloc=>grind [dR]
 |box=>grind [dR]
 |store=>grind [dR]
 |makeSlice=>grind [dR]
 |makeMap=>grind [dR]
 |mapUpdate=>grind [dR]
 |_=>rfl
theorem dN{all}{hm}{is}{K}{op}(h1:dR op=false)(h2:notNil op=true):
  ny P U n all hm is K ρ h ⟨d,op,t,p,a,g⟩ false=bg P U ρ hm ⟨d,op,t,p,a,g⟩ (iO (sN P U n all hm is K ρ d) h):=by
 rw[Rb h1 h2];rfl
section
variable (all : List Oper) (hm : Heap) (is : List Nat) (K : Env → Heap → Prop) (x y z : Operand) (ty ty' : TypeId)
theorem U8:ny P U n all hm is K ρ h ⟨d,.move x,t,p,a,g⟩ false=bg P U ρ hm ⟨d,.move x,t,p,a,g⟩ (iO (sN P U n all hm is K ρ d) h):=dN rfl rfl
theorem R0:ny P U n all hm is K ρ h ⟨d,.assign x,t,p,a,g⟩ false=bg P U ρ hm ⟨d,.assign x,t,p,a,g⟩ (iO (sN P U n all hm is K ρ d) h):=dN rfl rfl
theorem Pz:ny P U n all hm is K ρ h ⟨d,.nilCheck x,t,p,a,g⟩ false=bg P U ρ hm ⟨d,.nilCheck x,t,p,a,g⟩ (iO (sN P U n all hm is K ρ d) h):=dN rfl rfl
theorem PM(f):ny P U n all hm is K ρ h ⟨d,.extract x f,t,p,a,g⟩ false=bg P U ρ hm ⟨d,.extract x f,t,p,a,g⟩ (iO (sN P U n all hm is K ρ d) h):=dN rfl rfl
theorem Mq(f):ny P U n all hm is K ρ h ⟨d,.fieldAddr ty x f,t,p,a,g⟩ false=bg P U ρ hm ⟨d,.fieldAddr ty x f,t,p,a,g⟩ (iO (sN P U n all hm is K ρ d) h):=dN rfl rfl
theorem Mr:ny P U n all hm is K ρ h ⟨d,.indexAddr ty x y,t,p,a,g⟩ false=bg P U ρ hm ⟨d,.indexAddr ty x y,t,p,a,g⟩ (iO (sN P U n all hm is K ρ d) h):=dN rfl rfl
theorem U7:ny P U n all hm is K ρ h ⟨d,.load ty x,t,p,a,g⟩ false=bg P U ρ hm ⟨d,.load ty x,t,p,a,g⟩ (iO (sN P U n all hm is K ρ d) h):=dN rfl rfl
theorem S2(lo hi mx):ny P U n all hm is K ρ h ⟨d,.slice ty x lo hi mx,t,p,a,g⟩ false=bg P U ρ hm ⟨d,.slice ty x lo hi mx,t,p,a,g⟩ (iO (sN P U n all hm is K ρ d) h):=dN rfl rfl
theorem Mj(m)(ps):ny P U n all hm is K ρ h ⟨d,.buildSlice ty m ps,t,p,a,g⟩ false=bg P U ρ hm ⟨d,.buildSlice ty m ps,t,p,a,g⟩ (iO (sN P U n all hm is K ρ d) h):=dN rfl rfl
theorem S0(ps):ny P U n all hm is K ρ h ⟨d,.build ty ps,t,p,a,g⟩ false=bg P U ρ hm ⟨d,.build ty ps,t,p,a,g⟩ (iO (sN P U n all hm is K ρ d) h):=dN rfl rfl
theorem V8(aa)(ts):ny P U n all hm is K ρ h ⟨d,.call ⟨.builtin .len,aa,ts⟩,t,p,a,g⟩ false=bg P U ρ hm ⟨d,.call ⟨.builtin .len,aa,ts⟩,t,p,a,g⟩ (iO (sN P U n all hm is K ρ d) h):=dN rfl rfl
theorem V9(aa)(ts):ny P U n all hm is K ρ h ⟨d,.call ⟨.builtin .min,aa,ts⟩,t,p,a,g⟩ false=bg P U ρ hm ⟨d,.call ⟨.builtin .min,aa,ts⟩,t,p,a,g⟩ (iO (sN P U n all hm is K ρ d) h):=dN rfl rfl
theorem SZ(op)(w):ny P U n all hm is K ρ h ⟨d,.binOp op ty x (.tmp w) ty',t,p,a,g⟩ false=bg P U ρ hm ⟨d,.binOp op ty x (.tmp w) ty',t,p,a,g⟩ (iO (sN P U n all hm is K ρ d) h):=dN rfl rfl
theorem PL(op)(ik)(im):ny P U n all hm is K ρ h ⟨d,.binOp op ty x (.const (.int ik im)) ty',t,p,a,g⟩ false=bg P U ρ hm ⟨d,.binOp op ty x (.const (.int ik im)) ty',t,p,a,g⟩ (iO (sN P U n all hm is K ρ d) h):=dN rfl rfl
attribute [go_sem↓] U8 R0 Pz PM Mq Mr U7 S2 Mj S0 V8 V9 SZ PL
end
def SP(P:Program)(U:TypeId→TI)(n:Nat)(all:List Oper)(hm:Heap)(is:List Nat)(ρ:Env)(h:Heap)(K:Env→Heap→Prop)(w:Bool)(o:Oper)(s:Nat)(x:AV):Prop:=
 gB s w ρ (fun ρ=>ny P U n all hm is K ρ h o (dR o.op)) (fun ρ=>eE P U n all hm is (put ρ o.dst (.v undef)) h K) x
section
variable {all : List Oper} {hm : Heap} {is : List Nat} {K : Env → Heap → Prop} {o : Oper} {s : Nat}
end
def OZ(P:Program)(U:TypeId→TI)(n:Nat)(all:List Oper)(hm:Heap)(is:List Nat)(ρ:Env)(h:Heap)(K:Env→Heap→Prop)(o:Oper):Prop:=match o.guard with
 |none=>ny P U n all hm is K ρ h o (dR o.op)
 |some (gi,w)=>aF (rB all gi) fun s=>aF (lk ρ s) (SP P U n all hm is ρ h K w o s)
@[go_sem↓] theorem Uw(all)(hm)(is)(K)(op):OZ P U n all hm is ρ h K ⟨d,op,t,p,a,none⟩=ny P U n all hm is K ρ h ⟨d,op,t,p,a,none⟩ (dR op):=(rfl)
theorem ZO(all)(hm)(i)(is)(K):eE P U n all hm (i::is) ρ h K=aF all[i]? (OZ P U n all hm is ρ h K):=by
 simp only[eE];cases all[i]? with
 |none=>rfl
 |some o=>
  simp only[dQ,OZ];have e:∀ρ',F0 P U hm o ρ' h (fun X h' =>eE P U n all hm is (put ρ' o.dst X) h' K)=ny P U n all hm is K ρ' h o (dR o.op):=fun ρ' =>by unfold F0 ny vcE;cases dR o.op<;>rfl
  cases hg:o.guard with
  |none=>simp only[kD];exact e ρ
  |some gg=>rw[vK];simp only[e];rfl
@[congr] theorem UT{f f'}{a a'}{hm}{k}(h0:f=f')(h1:a=a'):FnQ P f a hm k=FnQ P f' a' hm k:=by grind
attribute [go_sem↓] ZO
theorem Z7(hm)(q)(args)(ts)(k):vcQ P U ρ hm ⟨d,.call ⟨.value q,args.toArray,ts⟩,t,p,a,g⟩ k=aF (ev ρ q) fun y=>fnA y fun f cap=>aF (evs ρ args) fun ys=>FnQ P f (ys++cap) hm k:=by
 simp only[vcQ,cc,ig]
 congr 1
def QStep(P:Program)(U:TypeId→TI)(n:Nat)(all:List Oper)(hm:Heap)(t:Ord)(ρ:Env)(h:Heap)(K:Env→Heap→Prop)(o:Oper):Prop:=o.guard=none∧vcQ P U ρ hm o fun X=>mz P U n all hm t (put ρ o.dst X) h K
attribute [go_sem↓] Z7
theorem Wa(all)(hm)(t')(K)(op):QStep P U n all hm t' ρ h K ⟨d,op,t,p,a,none⟩=vcQ P U ρ hm ⟨d,op,t,p,a,none⟩ fun X=>mz P U n all hm t' (put ρ d X) h K:=by simp[QStep]
theorem adr(all)(hm)(l)(K):mz P U n all hm (.seq l) ρ h K=eE P U n all hm l ρ h K:=(rfl)
attribute [go_sem↓] Wa adr
theorem Y9(all)(hm)(l)(i)(t')(K):mz P U n all hm (.quiet l i t') ρ h K=eE P U n all hm l ρ h fun ρ h=>aF all[i]? (QStep P U n all hm t' ρ h K):=by
 simp only[mz]
 congr 1
 funext ρ h
 cases all[i]? <;>rfl
theorem aah(all)(hm)(l is)(t')(K):mz P U n all hm (.news l is t') ρ h K=eE P U n all hm l ρ h fun ρ h=>Sub hm h∧mX U all is∧sY P U all is ρ h fun ρ h=>mz P U n all hm t' ρ h K:=(rfl)
def Sx(U:TypeId→TI)(o:Oper):Prop:=Ap U o.op
theorem XA(ty):Sx U ⟨d,.alloc ty,t,p,a,g⟩=(isUnit (U ty).k=true∨(U ty).sz≠0∧fit (U ty).zero (U ty).sz):=(rfl)
theorem VT(all):mX U all []=True:=(rfl)
attribute [go_sem↓] Y9 aah XA VT
theorem Ur(all)(i)(is):mX U all (i::is)=(aF all[i]? (Sx U)∧mX U all is):=by simp only[mX];cases all[i]? <;>rfl
def NStep(P:Program)(U:TypeId→TI)(all:List Oper)(is:List Nat)(ρ:Env)(h:Heap)(K:Env→Heap→Prop)(o:Oper):Prop:=bg P U ρ h o fun X h' =>sY P U all is (put ρ o.dst X) h' K
theorem V6(all)(is)(K)(op):NStep P U all is ρ h K ⟨d,op,t,p,a,g⟩=bg P U ρ h ⟨d,op,t,p,a,g⟩ fun X h' =>sY P U all is (put ρ d X) h' K:=(rfl)
theorem YU(all)(K):sY P U all [] ρ h K=K ρ h:=(rfl)
attribute [go_sem↓] Ur V6 YU
theorem Xi(all)(i)(is)(K):sY P U all (i::is) ρ h K=aF all[i]? (NStep P U all is ρ h K):=by simp only[sY];cases all[i]? <;>rfl
theorem ac7(all)(K):mG P U n all [] ρ h K=K ρ:=(rfl)
theorem ZG(all)(op)(os)(K):
  mG P U n all (⟨d,op,t,p,a,none⟩::os) ρ h K=(fk n d=true∧jk P U ρ h ⟨d,op,t,p,a,none⟩ (KDr P U n all os h K ρ d)):=(rfl)
def oK(P:Program)(U:TypeId→TI)(n:Nat)(all os:List Oper)(ρ:Env)(h:Heap)(K:Env→Prop)(w:Bool)(d:Option Tmp)(op:Op)(t:TypeId)(p:String)(a:Array Edge)(g:Option (Nat×Bool))(s:Nat)(x:AV):Prop:=
 gB s w ρ (fun ρ=>jk P U ρ h ⟨d,op,t,p,a,g⟩ (KDr P U n all os h K ρ d)) (fun ρ=>mG P U n all os (put ρ d (.v undef)) h K) x
attribute [go_sem↓] Xi ac7 ZG
section
variable {all os : List Oper} {K : Env → Prop} {op : Op} {s : Nat}
@[go_sem↓] theorem U2:oK P U n all os ρ h K true d op t p a g s (.b true)=jk P U ((s,.b true)::ρ) h ⟨d,op,t,p,a,g⟩ (KDr P U n all os h K ((s,.b true)::ρ) d):=by simp[oK,gB,Br]
@[go_sem↓] theorem U1:oK P U n all os ρ h K true d op t p a g s (.b false)=mG P U n all os (put ((s,.b false)::ρ) d (.v undef)) h K:=by simp[oK,gB,Br]
@[go_sem↓] theorem U0:oK P U n all os ρ h K false d op t p a g s (.b true)=mG P U n all os (put ((s,.b true)::ρ) d (.v undef)) h K:=by simp[oK,gB,Br]
@[go_sem↓] theorem UZ:oK P U n all os ρ h K false d op t p a g s (.b false)=jk P U ((s,.b false)::ρ) h ⟨d,op,t,p,a,g⟩ (KDr P U n all os h K ((s,.b false)::ρ) d):=by simp[oK,gB,Br]
end
theorem Yr(all)(op)(gi)(w)(os)(K):
  mG P U n all (⟨d,op,t,p,a,some (gi,w)⟩::os) ρ h K=(fk n d=true∧aF (rB all gi) fun s=>aF (lk ρ s) (oK P U n all os ρ h K w d op t p a (some (gi,w)) s)):=by
 have:=vK (ρ:=ρ) all gi w (fun ρ=>jk P U ρ h ⟨d,op,t,p,a,some (gi,w)⟩ (KDr P U n all os h K ρ d)) (fun ρ=>mG P U n all os (put ρ d (.v undef)) h K)
 rw[show(fun s=>aF (lk ρ s) (oK P U n all os ρ h K w d op t p a (some (gi,w)) s))=fun d_1=>aF (lk ρ d_1) fun x=>gB d_1 w ρ (fun ρ=>jk P U ρ h ⟨d,op,t,p,a,some (gi,w)⟩ (KDr P U n all os h K ρ d)) (fun ρ=>mG P U n all os (put ρ d (.v undef)) h K) x from rfl,←this]
 rfl
def FnD(P:Program)(f:FuncId)(args:List AV)(h:Heap)(k:AV→Prop):Prop:=∃X,ai P f args h (fun x h' =>x=X∧h' =h)∧k X
@[congr] theorem US{f f'}{a a'}{h h'}(h0:f=f')(h1:a=a')(h2:h=h'):FnD P f a h k=FnD P f' a' h' k:=by grind
attribute [go_sem↓] Yr
theorem Ym(q)(args)(ts):jk P U ρ h ⟨d,.call ⟨.value q,args.toArray,ts⟩,t,p,a,g⟩ k=aF (ev ρ q) fun y=>fnA y fun f cap=>aF (evs ρ args) fun ys=>FnD P f (ys++cap) h k:=by
 simp only[jk,cc,ig]
 congr 1
def opD(P:Program)(U:TypeId→TI)(ρ:Env)(h:Heap)(d:Option Tmp)(op:Op)(t:TypeId)(p:String)(a:Array Edge)(g:Option (Nat×Bool))(k:AV→Prop):Prop:=bg P U ρ h ⟨d,op,t,p,a,g⟩ (Gt k)
theorem Z5(op):opD P U ρ h d op t p a g k=bg P U ρ h ⟨d,op,t,p,a,g⟩ (Gt k):=(rfl)
attribute [go_sem↓] Ym Z5
section
theorem Yo(x):jk P U ρ h ⟨d,.move x,t,p,a,g⟩ k=opD P U ρ h d (.move x) t p a g k:=(rfl)
theorem Vq(x):jk P U ρ h ⟨d,.assign x,t,p,a,g⟩ k=opD P U ρ h d (.assign x) t p a g k:=(rfl)
theorem Yp(x y z):jk P U ρ h ⟨d,.pick x y z,t,p,a,g⟩ k=opD P U ρ h d (.pick x y z) t p a g k:=(rfl)
theorem Sd(x):jk P U ρ h ⟨d,.nilCheck x,t,p,a,g⟩ k=opD P U ρ h d (.nilCheck x) t p a g k:=(rfl)
attribute [go_sem↓] Yo Vq Yp Sd
theorem CU(op)(ty ty')(x y)(hy:HH y=false):jk P U ρ h ⟨d,.binOp op ty x y ty',t,p,a,g⟩ k=opD P U ρ h d (.binOp op ty x y ty') t p a g k:=by simp only[jk,opD,bg,hy];rfl
theorem Wt(op)(ty ty')(x)(y):jk P U ρ h ⟨d,.binOp op ty x (.tmp y) ty',t,p,a,g⟩ k=opD P U ρ h d (.binOp op ty x (.tmp y) ty') t p a g k:=CU _ _ _ _ _ rfl
theorem Tk(op)(ty ty')(x)(ik)(im):jk P U ρ h ⟨d,.binOp op ty x (.const (.int ik im)) ty',t,p,a,g⟩ k=opD P U ρ h d (.binOp op ty x (.const (.int ik im)) ty') t p a g k:=CU _ _ _ _ _ rfl
theorem Tl(op)(ty ty')(x)(b):jk P U ρ h ⟨d,.binOp op ty x (.const (.string b)) ty',t,p,a,g⟩ k=opD P U ρ h d (.binOp op ty x (.const (.string b)) ty') t p a g k:=CU _ _ _ _ _ rfl
theorem Yq(op)(ty)(x):jk P U ρ h ⟨d,.unOp op ty x,t,p,a,g⟩ k=opD P U ρ h d (.unOp op ty x) t p a g k:=(rfl)
theorem Tm(s e)(x):jk P U ρ h ⟨d,.convert s e x,t,p,a,g⟩ k=opD P U ρ h d (.convert s e x) t p a g k:=(rfl)
theorem Tn(x)(i):jk P U ρ h ⟨d,.extract x i,t,p,a,g⟩ k=opD P U ρ h d (.extract x i) t p a g k:=(rfl)
theorem Wv(ty)(x i):jk P U ρ h ⟨d,.index ty x i,t,p,a,g⟩ k=opD P U ρ h d (.index ty x i) t p a g k:=(rfl)
theorem Qd(ty)(x)(f):jk P U ρ h ⟨d,.fieldAddr ty x f,t,p,a,g⟩ k=opD P U ρ h d (.fieldAddr ty x f) t p a g k:=(rfl)
theorem Qe(ty)(x i):jk P U ρ h ⟨d,.indexAddr ty x i,t,p,a,g⟩ k=opD P U ρ h d (.indexAddr ty x i) t p a g k:=(rfl)
theorem Yn(ty)(x):jk P U ρ h ⟨d,.load ty x,t,p,a,g⟩ k=opD P U ρ h d (.load ty x) t p a g k:=(rfl)
theorem Ww(ty)(x)(lo hi mx):jk P U ρ h ⟨d,.slice ty x lo hi mx,t,p,a,g⟩ k=opD P U ρ h d (.slice ty x lo hi mx) t p a g k:=(rfl)
theorem PA(ty)(len)(parts):jk P U ρ h ⟨d,.buildSlice ty len parts,t,p,a,g⟩ k=opD P U ρ h d (.buildSlice ty len parts) t p a g k:=(rfl)
theorem Wu(ty)(parts):jk P U ρ h ⟨d,.build ty parts,t,p,a,g⟩ k=opD P U ρ h d (.build ty parts) t p a g k:=(rfl)
theorem ZC(x)(ty):jk P U ρ h ⟨d,.call ⟨.builtin .len, #[x], #[ty]⟩,t,p,a,g⟩ k=opD P U ρ h d (.call ⟨.builtin .len, #[x], #[ty]⟩) t p a g k:=(rfl)
theorem ZE(args)(ts):jk P U ρ h ⟨d,.call ⟨.builtin .min,args,ts⟩,t,p,a,g⟩ k=opD P U ρ h d (.call ⟨.builtin .min,args,ts⟩) t p a g k:=(rfl)
theorem ZD(args)(ts):jk P U ρ h ⟨d,.call ⟨.builtin .max,args,ts⟩,t,p,a,g⟩ k=opD P U ρ h d (.call ⟨.builtin .max,args,ts⟩) t p a g k:=(rfl)
attribute [go_sem↓] Wt Tk Tl Yq Tm Tn Wv Qd Qe Yn Ww PA Wu ZC ZE ZD
end
@[go_sem↓] theorem Ro(e)(id off len)(f):iY U e h (.oa id off len) f=((U e).sz=1∧aF (h id) fun b=>qS b fun cs _=>off+len≤cs.length∧(∀x∈(cs.drop off).take len,x.cells.length=1)∧(∀x∈(cs.drop off).take len,bB x=false)∧f ((cs.drop off).take len)):=by
 simp only[iY]
 congr 1
 exact ajW
theorem Rp(e)(id off len cap sz)(f):iY U e h (.ob id off len cap sz) f=(sz=(U e).sz∧aF (h id) fun b=>qS b fun cs _=>∃ys:List AV,ys.length=len∧off+len*sz≤cs.length∧au ys=(cs.drop off).take (len*sz)∧f ys):=by
 simp only[iY]
 congr 1
 exact ajW
theorem Yk(xs)(q)(n):Gx (.sl xs q) n= .sl xs q:=(rfl)
theorem Yj(i o l c s n):Gx (.ob i o l c s) n= .ob i o (min l n) c s:=(rfl)
def cpK(U:TypeId→TI)(h:Heap)(x y:AV)(Q:AV→Heap→Prop)(tk:TK):Prop:=match tk,x with
 |.slice e,.oa id off len=>(U e).sz=1∧iY U e h y fun ys=>Sized 1 ys∧(∀z∈ys,bB z=false)∧aF (h id) fun b=>qS b fun cs t=>ys.length≤len∧off+len≤cs.length∧Q (.i ys.length) (upd h id (some (.obj (over cs off ys) t)))
 |.slice e,.ob id off len _ sz=>(U e).sz≠0∧sz=(U e).sz∧iY U e h (Gx y len) fun ys=>Sized (U e).sz ys∧aF (h id) fun b=>qS b fun cs t=>ys.length≤len∧off+len*(U e).sz≤cs.length∧Q (.i ys.length) (upd h id (some (.obj (over cs off (au ys)) t)))
 |_,_=>False
theorem Zz(id off len cap sz)(y)(e):cpK U h (.ob id off len cap sz) y Q (.slice e)=((U e).sz≠0∧sz=(U e).sz∧iY U e h (Gx y len) fun ys=>Sized (U e).sz ys∧aF (h id) fun b=>qS b fun cs t=>ys.length≤len∧off+len*(U e).sz≤cs.length∧Q (.i ys.length) (upd h id (some (.obj (over cs off (au ys)) t)))):=(rfl)
attribute [go_sem↓] Rp Zz
attribute [go_sem] Yk Yj
@[go_sem↓] theorem ZW(x y)(t1 t2):bg P U ρ h ⟨d,.call ⟨.builtin .copy, #[x,y], #[t1,t2]⟩,t,p,a,g⟩ Q=aF (ev ρ x) fun u=>aF (ev ρ y) fun v=>atK (U t1).k (cpK U h u v Q):=by
 simp only[bg,cc,DA,atK]
 congr 1
 funext u
 congr 1
 funext v
 cases (U t1).k with
 |slice e=>
  cases u with
  |oa id off len=>
   refine congrArg (fun f=>(U e).sz=1∧iY U e h v f) (funext fun ys=>?_)
   exact ajW
  |ob id off len cap sz=>
   refine congrArg (fun f=>(U e).sz≠0∧sz=(U e).sz∧iY U e h (Gx v len) f) (funext fun ys=>?_)
   exact ajW
  |_=>simp[cpK]
 |_=>simp[cpK]
end
section
variable {P : Program} {U : TypeId → TI} {n : Nat} {ρ : Env} {h h' : Heap} {tb : TypeId} {y : AV} {l : List UInt8}
theorem Wk(c):aK c= .v (.int .u8 c.toNat):=(rfl)
theorem jT(l:List UInt8):Sized 1 (l.map aK)=True:=by apply eq_true;intro z hz;obtain⟨c,_,rfl⟩:=List.mem_map.1 hz;rfl
attribute [go_sem] Wk jT
@[go_sem] theorem Va(m):Sized m []=True:=by simp[Sized]
theorem S3(m)(x)(r):Sized m (x::r)=(x.cells.length=m∧Sized m r):=by simp[Sized]
theorem xq(l:List UInt8):∀z∈l.map aK,bB z=false:=by intro z hz;obtain⟨c,_,rfl⟩:=List.mem_map.1 hz;rfl
theorem QN(l:List UInt8):(l.map aK).length=l.length:=afj ..
theorem Sub.aj{id}{k}(hid:h id=Option.none):Sub h (Ab.upd h id k):=(Sub.refl h).new hid k
def Keep(id:Nat)(h h' :Heap):Prop:=∀j k,j≠id→h j=some k→h' j=some k
theorem Keep.refl(id)(h):Keep id h h:=fun _ _ _ e=>e
theorem Keep.trans{a b c}{id}(x:Keep id a b)(y:Keep id b c):Keep id a c:=fun j k e hj=>y j k e (x j k e hj)
theorem Sub.keep(hs:Sub h h')(id:Nat):Keep id h h' :=fun _ _ _ e=>hs _ _ e
theorem Keep.upd(id)(k):Keep id h (Ab.upd h id k):=fun _ _ e hj=>af8
def Bytes(tb:TypeId)(h:Heap)(y:AV)(l:List UInt8):Prop:=
 (∃q,y= .sl (l.map aK) q)∨∃id off cs,y= .oa id off l.length∧h id=some (.obj cs tb)∧off+l.length≤cs.length∧(cs.drop off).take l.length=l.map aK
theorem Bytes.sl(l)(q):Bytes tb h (.sl (l.map aK) q) l:=.inl ⟨q,rfl⟩
theorem Bytes.nil(q):Bytes tb h (.sl [] q) []:=.inl ⟨q,rfl⟩
theorem Bytes.oa{id off}{cs}(h1:h id=some (.obj cs tb))(h2:off+l.length≤cs.length)(h3:(cs.drop off).take l.length=l.map aK):Bytes tb h (.oa id off l.length) l:=.inr ⟨id,off,cs,rfl,h1,h2,h3⟩
theorem Bytes.sub(hb:Bytes tb h y l)(hs:Sub h h'):Bytes tb h' y l:=by
 rcases hb with hb|⟨id,off,cs,rfl,h1,h2,h3⟩
 ·exact ajs
 ·exact .oa (hs _ _ h1) h2 h3
theorem Bytes.keep(hb:Bytes tb h y l){id:Nat}(hs:Keep id h h'){cs:List AV}{t:TypeId}(hid:h id=some (.obj cs t))(ht:t≠tb):Bytes tb h' y l:=by
 rcases hb with hb|⟨i,off,cs',rfl,h1,h2,h3⟩
 ·exact ajs
 ·refine .oa (hs _ _ (fun e=>?_) h1) h2 h3
  grind
theorem Bytes.new(hb:Bytes tb h y l){id:Nat}{k:Option Blk}(hid:h id=none):Bytes tb (Ab.upd h id k) y l:=hb.sub (Sub.aj hid)
theorem Bytes.cells(hb:Bytes tb h y l):y.cells= [y]:=by exact akJ
theorem Bytes.fit(hb:Bytes tb h y l)(m:Nat):Ab.fit y m=(m=1):=by exact akJ
theorem Bytes.len(hb:Bytes tb h y l)(e:TypeId)(k:AV→Prop):xW y k (.slice e)=k (.i l.length):=by
 rcases hb with⟨q,rfl⟩|⟨id,off,cs,rfl,_⟩
 ·grind [xW,afj]
 ·rfl
attribute [go_sem] S3 QN
theorem Bytes.src(hb:Bytes tb h y l){e:TypeId}(he:(U e).sz=1)(k:List AV→Prop):iY U e h y k=k (l.map aK):=by
 rcases hb with⟨q,rfl⟩|⟨id,off,cs,rfl,h1,h2,h3⟩
 ·rfl
 ·rw[Ro,h1,he]
  simp only[dQ,Di,h3,h2,true_and];apply propext;constructor
  ·simp
  ·intro hk
   exact⟨fun x hx=>by obtain⟨c,_,rfl⟩:=List.mem_map.1 hx;rfl,xq l,hk⟩
theorem Bytes.Ua(hb:Bytes tb h y l){e:TypeId}{w:Heap}{Q:AV→Heap→Prop}(hk:∀b:Bool,(l≠ []→b=false)→Q (.b b) w):Ub w .eql y Q (.slice e):=by
 rcases hb with⟨q,rfl⟩|⟨id,off,cs,rfl,h1,h2,h3⟩
 ·intro b hb
  exact hk b fun hl=>hb ajB
 ·exact hk false fun _=>rfl
def V2(U:TypeId→TI)(tb:TypeId)(h:Heap)(p:AV)(c:UInt8):Prop:=∀k:AV→Prop,oA U h tb p k=k (aK c)
theorem Bytes.idx(hb:Bytes tb h y l){m:Int}{x:IntKind}{K:AV→Prop}(j:Nat)(hm:m=j)(hj:j<l.length)(hz:(U tb).sz=1)(ha:(U tb).k.agg=false)
  (hk:∀p,V2 U tb h p l[j]→K p):qd U y (.v (.int x m)) K (.slice tb):=by
 subst hm;rcases hb with⟨q,rfl⟩|⟨id,off,cs,rfl,h1,h2,h3⟩
 ·refine(vM ..).mpr ⟨afu,?_⟩
  refine fF.at j afv (by rw[afk,hz];rfl) ?_
  refine hk _ fun k=>?_
  simp_all [oA,MA,aK,AV.cells,bB,List.length_cons,List.length_nil,Nat.zero_add,and_self,if_true]
 ·refine(BM ..).mpr ⟨afu,afu,afu,?_⟩
  refine hk _ fun k=>?_
  have e1:cs[off+j]? =some (aK l[j]):=by
   have:=congrArg (fun q=>q[j]?) h3
   simp only[List.getElem?_take,hj,if_true,List.getElem?_drop,List.getElem?_map,List.getElem?_eq_getElem hj,Option.map_some]at this;exact agc
  simp only[oA,h1,dQ,Di,hz,Nat.mul_one,Int.toNat_natCast,Fh,ha,Br,e1];simp
theorem Bytes.take(hb:Bytes tb h y l){hi:Operand}{m:Int}{x:IntKind}{K:AV→Prop}(j:Nat)(hm:ev ρ hi=some (.v (.int x m)))(hj:m=j)(hl:j≤l.length)(hz:(U tb).sz=1)(hk:∀z,Bytes tb h z (l.take j)→K z):
  iB U ρ y none (some hi) none K (.slice tb):=by
 subst hj;rcases hb with⟨q,rfl⟩|⟨id,off,cs,rfl,h1,h2,h3⟩
 ·grind [rY,fX,dQ,ot,Option.isSome_some,uf,Int.toNat_natCast,List.map_take,sl]
 ·rw[sH]
  refine⟨afu,fun _=>hz,?_⟩
  simp only[nj,fX,hm,dQ,ot];refine⟨afu,afu,afu,?_⟩;have e:(l.take j).length=j:=afv;have:=hk (.oa id off (l.take j).length) (by grind [oa,List.map_take,Nat.min_eq_left])
  rw[e]at this;simpa using this
end
section
variable {ys:List AV}{ls:List (List UInt8)}
variable {P : Program} {U : TypeId → TI} {n : Nat} {ρ : Env} {h h' h2 : Heap} {e tb : TypeId} {y v : AV} {xs zs : List AV} {l : List UInt8} {Q : AV → Heap → Prop}
def fZ(h h' :Heap):Prop:=∀j cs t,h j=some (.obj cs t)→h' j=some (.obj cs t)
theorem fZ.refl(h):fZ h h:=fun _ _ _ e=>e
theorem fZ.trans{a b c}(x:fZ a b)(y:fZ b c):fZ a c:=fun j cs t e=>y j cs t (x j cs t e)
theorem Sub.gF(hs:Sub h h'):fZ h h' :=fun _ _ _ e=>hs _ _ e
theorem Bytes.gF(hb:Bytes tb h y l)(hs:fZ h h'):Bytes tb h' y l:=by
 rcases hb with hb|⟨id,off,cs,rfl,h1,h2,h3⟩
 ·exact ajs
 ·exact .oa (hs _ _ _ h1) h2 h3
def Acc(U:TypeId→TI)(e:TypeId)(h h' :Heap)(y:AV)(xs:List AV):Prop:=
 Sub h h'∧(y= .sl xs .full∨∃id,h id=none∧y= .sl xs (.own id)∧h' id=some (.spare xs.length (U e).sz))
theorem Acc.full(hs:Sub h h'):Acc U e h h' (.sl xs .full) xs:=⟨hs,.inl rfl⟩
theorem Acc.sub(ha:Acc U e h h' y xs)(hs:Sub h' h2):Acc U e h h2 y xs:=by
 obtain⟨h1,rfl|⟨id,i1,rfl,i2⟩⟩:=ha
 ·exact⟨h1.trans hs,.inl rfl⟩
 ·exact⟨h1.trans hs,.inr ⟨id,i1,rfl,hs _ _ i2⟩⟩
theorem Acc.row(ha:Acc U e h h' y xs):∃q,y= .sl xs q:=by obtain⟨h1,rfl|⟨id,i1,rfl,i2⟩⟩:=ha<;>exact⟨_,rfl⟩
theorem Acc.weak(ha:Acc U e h h' y xs):Weak y (.sl xs .no):=by obtain⟨q,rfl⟩:=ha.row;exact .sl _ _
theorem Acc.len(ha:Acc U e h h' y xs)(t:TypeId)(k:AV→Prop):xW y k (.slice t)=k (.i xs.length):=by obtain⟨q,rfl⟩:=ha.row;rfl
theorem Acc.app(ha:Acc U e h h' y xs)(hz:(U e).sz≠0)(hb:(U e).bytes≠0)(hsrc:∀k:List AV→Prop,k zs→iY U e h' v k)(s1:Sized (U e).sz xs)(s2:Sized (U e).sz zs)
  (hlen:(xs.length+zs.length)*(U e).bytes≤140737488355328) (hk:∀y' h'',Acc U e h h'' y' (xs++zs)→fZ h' h''→Q y' h''):apK U h' y v Q (.slice e):=by
 have keep:∀id,(h' id=none∨∃m,h' id=some (.spare m (U e).sz))→∀k,fZ h' (upd h' id k):=fun id hid k j cs t hj=>by grind [ag]
 obtain⟨h1,rfl|⟨id,i1,rfl,i2⟩⟩:=ha
 ·refine(qX ..).mpr ⟨hz,hb,hsrc _ ⟨s1,s2,hlen,fun hn=>?_,fun hn=> .own fun id hid=>?_⟩⟩
  ·subst hn
   have:=hk (.sl xs .full) h' (by grind [full]) (.refl _)
   exact agc
  ·exact hk _ _ ⟨h1.new hid _,.inr ⟨id,h1.none hid,rfl,by rw[ah,afn]⟩⟩ afv
 ·refine(CM ..).mpr ⟨hz,hb,hsrc _ ⟨s1,s2,hlen,i2,?_⟩⟩
  have hs2:Sub h (upd h' id (some (.spare (xs.length+zs.length) (U e).sz))):=by
   intro j k hj;rw[ag _ _ fun e=>?_]
   ·exact h1 _ _ hj
   grind
  exact hk _ _ ⟨hs2,.inr ⟨id,i1,rfl,by rw[ah,afn]⟩⟩ afv
theorem Bytes.Ob(hb:Bytes tb h y l):bB y=false:=by exact akJ
def Rows(tb:TypeId)(h:Heap)(ys:List AV)(ls:List (List UInt8)):Prop:=ys.length=ls.length∧∀i (h1:i<ys.length) (h2:i<ls.length),Bytes tb h ys[i] ls[i]
theorem Rows.sized(hr:Rows tb h ys ls):Sized 1 ys:=fun z hz=>by obtain⟨i,hi,rfl⟩:=List.mem_iff_getElem.1 hz;rw[(hr.2 i hi (by rw[←hr.1];omega)).cells];rfl
theorem Rows.nil:Rows tb h [] []:=⟨rfl,fun i h1=>afB⟩
theorem Rows.cons(hb:Bytes tb h y l)(hr:Rows tb h ys ls):Rows tb h (y::ys) (l::ls):=⟨by simp[hr.1],fun i h1 h2=>by
 cases i with
 |zero=>grind
 |succ i=>exact hr.2 i afv afv⟩
end
section
variable {P : Program}
def cY:Heap:=fun _=>none
def cx0(w:World):Cx:=⟨w,fun _=>⟨0,0,none⟩,cY⟩
theorem WX(w):Good (cx0 w) where
 fin:=⟨0,fun _ _=>rfl⟩
 inj:=fun i j k l h=>agp
 obj:=fun id cs t h=>agp
 spare:=fun id n sz h=>agp
 mp:=fun id m h=>agp
 keys:=fun id m h=>agp
 ro:=fun id b vs h=>agp
theorem Ot(w)(b o):¬owned (cx0 w) b o:=fun⟨id,k,h,_⟩=>agp
theorem ai.calls{f}{args}{b}{vs}{w}(hc:callable P f)(hf:ai P f args cY fun r _=>r= .v b)(hv:vs.size=args.length)(hr:∀i (hi:i<args.length),Rep (cx0 w) args[i] (vs.getD i undef)):
  Calls P f vs w fun e w' =>e= .returned b∧Go.RowKit.Below w.heap.size w w' :=by
 refine((hf (cx0 w) vs (fun _ _ h=>agp) (WX w) hv hr).calls hc).mono ?_
 rintro e w' ⟨u,rfl,c',x,h',rfl,g',hE,hx,hs,rfl⟩
 rw[hx.bV];exact⟨rfl,hE.os,hE.tape,hE.output,hE.size,fun k hk=>hE.block k hk fun o=>Ot w k o⟩
end
section
variable {P : Program} {f : FuncId} {args : List AV} {h : Heap} {Q : AV → Heap → Prop} {X : AV}
theorem ai.pthen(hf:ai P f args h fun r h' =>r=X∧h' =h)(k:Q X h):ai P f args h Q:=
 hf.mono fun r h' ⟨e1,e2⟩=>ah7
theorem ai.pthen'(hf:ai P f args h fun r h' =>h' =h∧r=X)(k:Q X h):ai P f args h Q:=
 hf.mono fun r h' ⟨e1,e2⟩=>ah7
theorem ai.sthen(hf:ai P f args h fun r h' =>r=X∧Sub h h')(k:∀h',Sub h h'→Q X h'):ai P f args h Q:=
 hf.mono fun r h' ⟨e1,e2⟩=>by subst e1;exact k h' e2
def KV(K:AV→Prop)(x:AV):Prop:=K x
@[congr] theorem V4{K}{x x'}(e:x=x'):KV K x=KV K x' :=by rw[e]
@[go_sem] theorem V5(K)(x):KV K x=K x:=(rfl)
section
variable {U : TypeId → TI} {ρ : Env} {K : AV → Prop}
@[go_sem↓high] theorem FJ(xs)(q)(lo)(e):iB U ρ (.sl xs q) (some lo) none none K (.slice e)=((U e).sz≠0∧Sized (U e).sz xs∧aF (ev ρ lo) fun y=>Hl y fun a=>0≤a∧a≤xs.length∧KV K (.sl (xs.drop a.toNat) (AU xs q true false))):=by simp[rZ,fX,nj,Option.isSome_none,mP,KV]
@[go_sem↓high] theorem LL(xs)(q)(lo hi)(e):iB U ρ (.sl xs q) (some lo) (some hi) none K (.slice e)=((U e).sz≠0∧Sized (U e).sz xs∧aF (ev ρ lo) fun y=>Hl y fun a=>aF (ev ρ hi) fun z=>Hl z fun b=>0≤a∧a≤b∧b≤xs.length∧KV K (.sl ((xs.drop a.toNat).take (b.toNat - a.toNat)) (AU xs q true true))):=by simp[rZ,fX,Option.isSome_some,Qc,KV]
end
attribute [go_sem] Int.toNat_natCast Int.toNat_zero
theorem UB(l:List UInt8)(n:Nat):(l.map aK).take n=(l.take n).map aK:=(List.map_take ..).symm
theorem Ts(l:List UInt8)(n:Nat):(l.map aK).drop n=(l.drop n).map aK:=(List.map_drop ..).symm
theorem yT{α β:Type}{f:β→α}{p:β→Prop}:∀(xs:List α),(∀x∈xs,∃b,x=f b∧p b)→∃bs:List β,xs=bs.map f∧∀b∈bs,p b
 | [],_=>afB
 |x::xs,h=>by
  obtain⟨b,rfl,hb⟩:=h x afB;obtain⟨bs,rfl,hbs⟩:=yT xs fun y hy=>h y afv
  exact⟨b::bs,rfl,fun c hc=>by
   rcases List.mem_cons.1 hc with h1|h1
   ·rw[h1];exact hb
   ·exact hbs c h1⟩
def iA(n:Int):AV:=.i n
theorem adg(n):iA n= .i n:=(rfl)
theorem aW(n)(h: -9223372036854775808≤n∧n≤9223372036854775807):IntKind.i64.wrap n=n:=by grind [IntWalk.i64_in]
theorem afp(n:Nat)(h:-9223372036854775808≤(n:Int)+1∧(n:Int)+1≤9223372036854775807):IntKind.i64.wrap ((n:Int)+1)=((n+1:Nat):Int):=by rw[aW _ h];omega
theorem afq{a b:Nat}(h:decide ((a:Int)<(b:Int))=true):a<b:=Int.ofNat_lt.1 (_root_.of_decide_eq_true h)
attribute [go_sem] UB Ts adg
end
section
variable {sp:Nat→Bool}{held:Bool}
variable {P : Program} {U : TypeId → TI}
inductive Dat (U:TypeId→TI):TypeId→AV→Prop
 |bool {t:TypeId} (b:Bool) (h:(U t).k= .bool):Dat U t (.b b)
 |int {t:TypeId} {k:IntKind} (n:Int) (h:(U t).k= .int k) (hw:(Lit.int k n).wf=true):Dat U t (.v (.int k n))
 |str {t:TypeId} (l:List UInt8) (h:(U t).k= .str) (hl:l.length≤maxLen):Dat U t (.s l)
 |slice {t e:TypeId} (xs:List AV) (h:(U t).k= .slice e) (hx:∀x∈xs,Dat U e x) (hl:xs.length≤maxLen):Dat U t (.sl xs .no)
 |strct {t:TypeId} {fs:List (Nat×TypeId)} (ys:List AV) (h:(U t).k= .strct fs) (hn:ys.length=fs.length) (hx:∀i (h1:i<fs.length) (h2:i<ys.length),Dat U fs[i].2 ys[i]):Dat U t (.agg (ys.map AV.cells).flatten)
theorem Dat.Qw{t}{x}{k}(h:Dat U t x)(hk:(U t).k= .int k):∃n,x= .v (.int k n)∧(Lit.int k n).wf=true:=by
 cases h with
 |int n h hw=>grind
 |_=>simp_all
theorem Dat.Rt{t}{x}(h:Dat U t x)(hk:(U t).k= .str):∃l,x= .s l∧l.length≤maxLen:=by
 cases h with
 |str l h hl=>grind
 |_=>simp_all
theorem Dat.LM{t e}{x}(h:Dat U t x)(hk:(U t).k= .slice e):∃xs,x= .sl xs .no∧xs.length≤maxLen∧∀y∈xs,Dat U e y:=by
 cases h with
 |slice xs h hx hl=>grind
 |_=>simp_all
def Mm(U:TypeId→TI):List TypeId→List AV→Prop
 | [],ys=>ys= []
 |t::ts,ys=>∃y r,ys=y::r∧Dat U t y∧Mm U ts r
theorem Kf:∀(fs:List (Nat×TypeId)) (ys:List AV),ys.length=fs.length→(∀i (h1:i<fs.length) (h2:i<ys.length),Dat U fs[i].2 ys[i])→Mm U (fs.map (·.2)) ys
 | [],ys,h,_=>List.length_eq_zero_iff.1 h
 |f::fs,[],h,_=>agp
 |f::fs,y::ys,h,hx=>⟨y,ys,rfl,hx 0 afB afB,Kf fs ys afv fun i h1 h2=>hx (i+1) afv afv⟩
theorem aan{n}(h:(Lit.int .i64 n).wf=true): -9223372036854775808≤n∧n≤9223372036854775807:=by grind [Lit.wf,IntKind.min,IntKind.max,IntKind.signed,IntKind.bits]
theorem Dat.i64{t}{x}(h:Dat U t x)(hk:(U t).k= .int .i64):∃n,x=iA n∧ -9223372036854775808≤n∧n≤9223372036854775807:=by obtain⟨n,rfl,hw⟩:=h.Qw hk;exact⟨n,rfl,aan hw⟩
theorem Dat.list{t e}{x}{β:Type}{f:β→AV}{p:β→Prop}(h:Dat U t x)(hk:(U t).k= .slice e)(he:∀y,Dat U e y→∃b,y=f b∧p b):∃bs:List β,x= .sl (bs.map f) .no∧bs.length≤maxLen∧∀b∈bs,p b:=by
 obtain⟨xs,rfl,hl,hx⟩:=h.LM hk;obtain⟨bs,rfl,hb⟩:=yT xs fun y hy=>he y (hx y hy)
 grind
def RL(c:Cx):List AV→List Value→Prop
 | [],vs=>vs= []
 |x::xs,[]=>False
 |x::xs,v::vs=>(Rep c x v∧v.oneCell' =true)∧RL c xs vs
theorem RL.len{c}:∀ {xs:List AV} {vs:List Value},RL c xs vs→xs.length=vs.length
 | [],vs,h=>by rw[h];rfl
 |x::xs,[],h=>h.elim
 |x::xs,v::vs,h=>by simp[RL.len h.2]
theorem RL.get{c}:∀ {xs:List AV} {vs:List Value},RL c xs vs→∀i (h:i<xs.length),Rep c xs[i] (vs.getD i undef)∧(vs.getD i undef).oneCell' =true
 | [],vs,h,i,hi=>afv
 |x::xs,[],h,i,hi=>h.elim
 |x::xs,v::vs,h,0,hi=>h.1
 |x::xs,v::vs,h,i+1,hi=>by simpa using RL.get h.2 i afv
theorem RL.append{c}:∀ {xs ys:List AV} {vs us:List Value},RL c xs vs→RL c ys us→RL c (xs++ys) (vs++us)
 | [],ys,vs,us,h,k=>by rw[h];exact k
 |x::xs,ys,[],us,h,k=>h.elim
 |x::xs,ys,v::vs,us,h,k=>⟨h.1,RL.append h.2 k⟩
theorem RL.one{c}{x}{v}(h:Rep c x v)(h1:v.oneCell' =true):RL c [x] [v]:=⟨⟨h,h1⟩,rfl⟩
def FU(U:TypeId→TI)(n:Nat):List (Nat×TypeId)→Nat→Bool
 | [],o=>o==n
 |f::fs,o=>f.1==o && FU U n fs (o+(U f.2).sz)
def HN(U:TypeId→TI)(L:List TypeId):Bool:=L.all fun t=>(U t).sz !=0 && match (U t).k with
 |.bool|.int _|.str=>(U t).sz==1
 |.slice e=>(U t).sz==1 && L.contains e
 |.strct fs=>fs.all (fun f=>L.contains f.2) && FU U (U t).sz fs 0
 |_=>false
theorem tf(hU:∀t,aQ P U t){t}(hz:(U t).sz≠0):P.cellsOf t=(U t).sz:=by
 obtain⟨i,h1,h2,_⟩:=(hU t).info hz
 grind [Program.cellsOf]
variable {H : Type} {enc : TypeId × Value → H} {w : World}
theorem Ov(hU:∀t,aQ P U t){L:List TypeId}{m:Nat}(n:Nat)(cs:List Value)(hn:cs.length=n)
  (ih:∀(t:TypeId) (cs:List Value) r,t∈L→DataW.trod enc P w 0 sp held m t cs=some r→∃x,Dat U t x∧RL (cx0 w) x.cells cs) (hz:∀t∈L,(U t).sz≠0):
  ∀(fs:List (Nat×TypeId)) (gs:List Field) (o:Nat),gs.map (fun f=>(f.offset,f.type))=fs→(∀f∈fs,f.2∈L)→FU U n fs o=true→
   (∀f∈gs,∃r,DataW.trod enc P w 0 sp held m f.type ((cs.drop f.offset).take (P.cellsOf f.type))=some r)→
   ∃ys:List AV,ys.length=fs.length∧(∀i (h1:i<fs.length) (h2:i<ys.length),Dat U fs[i].2 ys[i])∧RL (cx0 w) (ys.map AV.cells).flatten (cs.drop o):=by
 intro fs
 induction fs with
 |nil=>
  intro gs o hg hL ht hr;refine⟨[],rfl,fun i h1=>afB,?_⟩
  have:o=n:=by grind [FU]
  show cs.drop o= []
  grind
 |cons f fs ihf=>
  intro gs o hg hL ht hr;cases gs with
  |nil=>grind
  |cons g gs=>
   simp only[List.map_cons,List.cons.injEq]at hg;obtain⟨hg1,hg2⟩:=hg;simp only[FU,Bool.and_eq_true,beq_iff_eq]at ht;obtain⟨ht1,ht2⟩:=ht;have hfL:=hL f afB;obtain⟨ys,y1,y2,y3⟩:=ihf gs (o+(U f.2).sz) hg2 afv ht2 afv;obtain⟨r,hr0⟩:=hr g afB;have e1:g.type=f.2:=afv;have e2:g.offset=o:=afv;rw[e1,e2,tf hU (hz _ hfL)]at hr0;obtain⟨x,x1,x2⟩:=ih _ _ _ hfL hr0;refine⟨x::ys,afv,fun i h1 h2=>?_,?_⟩
   ·grind
   ·have:cs.drop o=(cs.drop o).take (U f.2).sz++cs.drop (o+(U f.2).sz):=by rw[←List.drop_drop,List.take_append_drop]
    rw[this];exact x2.append y3
theorem D8(hU:∀t,aQ P U t)(L:List TypeId)(hL:HN U L=true)(hsp:∀b,sp b=true):
  ∀(fuel:Nat) (t:TypeId) (cs:List Value) (r:DataW H×List MemPlace),t∈L→DataW.trod enc P w 0 sp held fuel t cs=some r→∃x,Dat U t x∧RL (cx0 w) x.cells cs:=by
 have hall:∀t∈L,(U t).sz≠0:=fun t ht=>by have:=List.all_eq_true.1 hL t ht;simp only[Bool.and_eq_true,bne_iff_ne]at this;exact this.1
 intro fuel
 induction fuel with
 |zero=>intro t cs r _ h;simp[DataW.trod]at h
 |succ m ih=>
  intro t cs r ht h;have hp:=List.all_eq_true.1 hL t ht;simp only[Bool.and_eq_true,bne_iff_ne]at hp;obtain⟨hz,hp⟩:=hp;have hd:=(hU t).desc;unfold DataW.trod at h;cases hk:(U t).k with
  |bool=>
   rw[hk]at hd;simp only at hd;rw[hd]at h;split at h<;>simp_all
   rename_i b
   exact⟨_,.bool b hk,.one (.v _) rfl⟩
  |int k=>
   rw[hk]at hd;simp only at hd;rw[hd]at h;split at h<;>simp_all
   obtain⟨⟨rfl,hw⟩,_⟩:=h;exact⟨_,.int _ hk hw,.one (.v _) rfl⟩
  |str=>
   rw[hk]at hd;simp only at hd;rw[hd]at h;split at h<;>simp_all
   rename_i s
   refine⟨_,.str s.data.toList hk (by simpa using h.1),.one ?_ rfl⟩
   have:=Rep.s (c:=cx0 w) s.data.toList (by have:=h.1;unfold maxLen at this;simp only[lim];simp;omega)
   simpa using this
  |slice e=>
   rw[hk]at hd hp;simp only at hd;simp only[Bool.and_eq_true]at hp;have he:e∈L:=by simpa using hp.2
   have hez:=hall e he;rw[hd]at h;split at h<;>try (simp_all;done)
   ·rename_i e' heq
    refine⟨_,.slice [] hk (fun x hx=>by cases hx) afB,.one ?_ rfl⟩
    exact .sl [] .no none 0 0 (fun _ _=>undef) (Nat.le_refl _) afy (fun _=>rfl) (fun q h _=>agp) (fun i h=>agp) (fun q h=>agp) (fun i h=>agp) (fun i j h=>agp) trivial
   ·rename_i e' a len cap heq
    obtain rfl:e=e' :=by simpa using heq
    split at h
    ·rename_i hc
     obtain⟨hc1,hc2,hc3⟩:=hc;simp only[hsp,if_true]at h;obtain⟨els,hels,h⟩:=Option.bind_eq_some_iff.1 h;obtain⟨⟨rst,hrst,_⟩⟩:Nonempty {rst // (List.range (cap - len)).mapM (fun j=>((w.cells? 0 (a.add ((len+j)*P.cellsOf e)) (P.cellsOf e)).bind (DataW.trod enc P w 0 sp held m e)))=some rst∧True}:=by
      cases hq:(List.range (cap - len)).mapM (fun j=>((w.cells? 0 (a.add ((len+j)*P.cellsOf e)) (P.cellsOf e)).bind (DataW.trod enc P w 0 sp held m e)))with
      |none=>rw[hq]at h;simp at h
      |some rst=>exact⟨⟨rst,rfl,trivial⟩⟩
     rw[tf hU hez]at hels hrst;have cell:∀j,j<(U e).sz→∀(b:Addr) vs,w.cells? 0 b (U e).sz=some vs→w.cell? (b.add j)=vs[j]?∧vs.length=(U e).sz:=fun j hj b vs hb=>by
      simp only[World.cells?,Nat.zero_le,if_true]at hb;have:=mapM_some_get hb j j (by simp[hj])
      exact⟨this,by simpa using mapM_some_length hb⟩
     have el:∀i,i<len→∃vs x,w.cells? 0 (a.add (i*(U e).sz)) (U e).sz=some vs∧Dat U e x∧RL (cx0 w) x.cells vs:=fun i hi=>by
      have:=mapM_some_get hels i i (by simp[hi])
      have hi2:i<els.length:=by have:=mapM_some_length hels;simp at this;omega
      rw[List.getElem?_eq_getElem hi2]at this;obtain⟨vs,v1,v2⟩:=Option.bind_eq_some_iff.1 this;obtain⟨x,x1,x2⟩:=ih _ _ _ he v2;exact⟨vs,x,v1,x1,x2⟩
     have hspot:0<cap→a.spot=none∧a.block<w.heap.size:=fun hcap=>by
      have:∃b vs,w.cells? 0 b (U e).sz=some vs∧b.spot=a.spot∧b.block=a.block:=by
       by_cases hl:0<len
       ·obtain⟨vs,x,v1,_⟩:=el 0 hl
        have a0:a.add (0*(U e).sz)=a:=by simp[Addr.add]
        exact⟨_,vs,v1,by rw[a0],by rw[a0]⟩
       ·have:=mapM_some_get hrst 0 0 (by rw[List.getElem?_eq_getElem afZ];simp)
        have hi2:0<rst.length:=by have:=mapM_some_length hrst;simp at this;omega
        rw[List.getElem?_eq_getElem hi2]at this;obtain⟨vs,v1,v2⟩:=Option.bind_eq_some_iff.1 this;have a0:a.add ((len+0)*(U e).sz)=a:=by obtain rfl:len=0:=afu;simp[Addr.add]
        exact⟨_,vs,v1,by rw[a0],by rw[a0]⟩
      obtain⟨b,vs,b1,b2,b3⟩:=this;obtain⟨c1,c2⟩:=cell 0 afu b vs b1;rw[List.getElem?_eq_getElem afu]at c1;rw[←b2,←b3];unfold World.cell? at c1;split at c1
      ·rename_i hh
       split at c1
       ·cases c1
       ·rename_i hs
        refine⟨?_,?_⟩
        ·have:(b.add 0).spot=b.spot:=by simp[Addr.add]
         rw[this]at hs;cases hb:b.spot with
         |none=>rfl
         |some z=>rw[hb]at hs;simp at hs
        ·exact(Array.getElem?_eq_some_iff.1 hh).1
      ·cases c1
     have:∀n,n≤len→∃xs:List AV,xs.length=n∧∀i (hi:i<xs.length),Dat U e xs[i]∧∃vs,w.cells? 0 (a.add (i*(U e).sz)) (U e).sz=some vs∧RL (cx0 w) xs[i].cells vs:=by
      intro n
      induction n with
      |zero=>exact fun _=>⟨[],rfl,fun i hi=>by cases hi⟩
      |succ n ihn=>
       intro hn;obtain⟨xs,e1,e2⟩:=ihn afu;obtain⟨vs,x,v1,v2,v3⟩:=el n afu;refine⟨xs++ [x],by simp[e1],fun i hi=>?_⟩
       by_cases hi' :i<xs.length
       ·rw[List.getElem_append_left hi']
        exact e2 i hi'
       ·have:i=n:=by simp at hi;omega
        subst this;rw[List.getElem_append_right afu];simp only[e1,Nat.sub_self,List.getElem_singleton];exact⟨v2,vs,v1,v3⟩
     obtain⟨xs,e1,e2⟩:=this len (Nat.le_refl _);subst e1;refine⟨.sl xs .no,.slice xs hk (fun x hx=>?_) afu,.one ?_ rfl⟩
     ·obtain⟨i,hi,rfl⟩:=List.mem_iff_getElem.1 hx
      exact(e2 i hi).1
     ·refine .sl xs .no (some a) cap (U e).sz (fun i j=>((w.cells? 0 (a.add (i*(U e).sz)) (U e).sz).getD []).getD j undef) hc2 (by unfold maxLen at hc3;simp only[lim];omega) (fun hh=>agW) (fun q hq hcap=>by cases hq;exact hspot hcap)
       (fun i hi=>?_) (fun q hq i j hi hj=>?_) (fun i hi j hj=>?_) (fun i j hi hj=>?_) trivial
      ·obtain⟨_,vs,v1,v2⟩:=e2 i hi
       rw[v2.len];exact(cell 0 afu _ _ v1).2
      ·cases hq
       obtain⟨_,vs,v1,v2⟩:=e2 i hi;refine⟨?_,Ot w _ _⟩;obtain⟨c1,c2⟩:=cell j hj _ _ v1;rw[v1];obtain⟨hs1,_⟩:=hspot afu;obtain⟨ab,ao,az⟩:=a;simp only at hs1;subst hs1
       rw[cH,cH]at c1;simp only[Option.getD_some];have hj2:j<vs.length:=afu;rw[show vs.getD j undef=vs[j] by simp[hj2]]
       rw[List.getElem?_eq_getElem hj2,Nat.add_assoc]at c1;exact c1
      ·obtain⟨_,vs,v1,v2⟩:=e2 i hi
       rw[v1];exact(v2.get j hj).1
      ·obtain⟨_,vs,v1,v2⟩:=e2 i hi
       rw[v1];have:=(cell 0 afu _ _ v1).2;exact(v2.get j (by rw[v2.len];omega)).2
    ·cases h
  |strct fs=>
   rw[hk]at hd hp;simp only at hd;simp only[Bool.and_eq_true]at hp;obtain⟨gs,hd,hg,_⟩:=hd;rw[hd]at h;have hq:cs.length=P.cellsOf t∧∃xs,(gs.toList.mapM fun f=>DataW.trod enc P w 0 sp held m f.type ((cs.drop f.offset).take (P.cellsOf f.type)))=some xs:=by
    split at h<;>try (simp_all;done)
    rename_i fs' heq
    obtain rfl:gs=fs' :=by simpa using heq
    split at h
    ·rename_i hl
     obtain⟨xs,h1,_⟩:=Option.map_eq_some_iff.1 h;exact⟨hl,xs,h1⟩
    ·cases h
   obtain⟨hl,xs,hxs⟩:=hq;rw[tf hU hz]at hl;obtain⟨ys,y1,y2,y3⟩:=Ov hU (U t).sz cs hl ih hall fs gs.toList 0 hg (fun f hf=>by have:=List.all_eq_true.1 hp.1 f hf;simpa using this) hp.2 (fun f hf=>by
    obtain⟨i,hi,rfl⟩:=List.mem_iff_getElem.1 hf;have hi2:i<xs.length:=by have:=mapM_some_length hxs;omega
    have:=mapM_some_get hxs i _ (List.getElem?_eq_getElem hi);rw[List.getElem?_eq_getElem hi2]at this;exact⟨_,this⟩)
   exact⟨_,.strct ys hk y1 y2,y3⟩
  |_=>rw[hk]at hp;simp at hp
theorem nD(hU:∀t,aQ P U t)(L)(hL:HN U L=true)(hsp:∀b,sp b=true){t}{v}{d}{p}(ht:t∈L){base}{rc}
  (hv:Value.okWide P w rc base t v) (h:DataW.Trod enc P w 0 sp held t v d p):∃x,Dat U t x∧Rep (cx0 w) x v:=by
 obtain⟨fuel,h⟩:=h;obtain⟨x,x1,x2⟩:=D8 hU L hL hsp fuel t _ _ ht h;refine⟨x,x1,?_⟩;have hd:=(hU t).desc;cases x1 with
 |strct ys hk hn hx=>
  rw[hk]at hd;obtain⟨gs,hd,_⟩:=hd;unfold Value.okWide at hv;rw[hd]at hv;obtain⟨cs,rfl,_⟩:=hv;have hl:=x2.len;simp only[AV.cells,Value.cells]at hl x2;refine .agg _ _ afv (fun i hi=>?_) (fun i hi=>?_)
  ·have:=(x2.get i hi).1
   simpa using this
  ·have:=(x2.get i hi).2
   simpa using this
 |bool b hk=>exact akb
 |int n hk hw=>exact akb
 |str l hk hl=>exact akb
 |slice xs hk hx hl=>exact akb
end
section
variable {P : Program} {U : TypeId → TI} {n : Nat} {ρ : Env} {h h' h2 : Heap} {e tb : TypeId} {y v : AV} {xs zs : List AV} {l : List UInt8} {Q : AV → Heap → Prop}
def hm1(id:Nat)(k:Blk):Heap:=upd (fun _=>none) id (some k)
theorem gG(id)(k):hm1 id k id=some k:=ah ..
theorem Sub.hm1{id}{k}(h1:h id=some k):Sub (hm1 id k) h:=fun j b hj=>by
 unfold Ab.hm1 at hj
 grind [ah,ag]
theorem fZ.new{id:Nat}{k:Option Blk}(hid:h id=none):fZ h (upd h id k):=((Sub.refl h).new hid k).gF
theorem oZ.accs{h0}(hs:Sub h0 h)(hk:∀y' h'',Acc U e h0 h'' y' (xs++zs)→fZ h h''→Q y' h''):oZ U h xs zs e Q:=
 .own fun id hid=>hk _ _ ⟨hs.new hid _,.inr ⟨id,hs.none hid,rfl,by rw[ah,afn]⟩⟩ (.new hid)
attribute [go_sem] gG
end
end Go.Ab
