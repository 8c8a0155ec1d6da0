/- The law EngineChain: pack 2 of its texts. -/
import Derived.ScopeJumps
import Derived.Below
import Derived.OpenShut
import Derived.Test.YtfdgemhnlennbaaGreatDoorPk1
set_option linter.unusedSimpArgs false
set_option linter.unusedVariables false
set_option maxRecDepth 100000
namespace Go.Ab
open Go
section
variable {P : Program} {U : TypeId → TI}
def callable (P : Program) (f : FuncId) : Prop := ∃ fn, P.funcs[f]? = some fn ∧ (fn.name == "runtime.NumGoroutine") = false ∧ fn.body.isNone = false
def zQ(P:Program)(f:FuncId)(vs:Array Value)(w:World)(K:Value→World→Prop):Prop:=
 (callable P f∧Calls P f vs w fun e w' =>∃u,e= .returned u∧K u w')∨∃u w',(callFunc f vs).run P w= .ok (.value u) w'∧K u w'
theorem zQ.mono{f:FuncId}{vs:Array Value}{w:World}{K K' :Value→World→Prop}(h:zQ P f vs w K)(hk:∀u w',K u w'→K' u w'):zQ P f vs w K' :=by
 rcases h with⟨h1,h2⟩|⟨u,w',h1,h2⟩
 ·exact .inl ⟨h1,h2.mono fun e w' ⟨u,h3,h4⟩=>⟨u,h3,hk _ _ h4⟩⟩
 ·exact .inr ⟨u,w',h1,hk _ _ h2⟩
theorem qb{f:FuncId}(hc:callable P f)(vs:Array Value)(w:World):(callFunc f vs).run P w= .ok (.enter f vs) w:=by
 obtain ⟨fn,hfn,hname,hbody⟩:=hc;have h3 : fn.name ≠ "runtime.NumGoroutine" := ab8;have h4:fn.body≠none:=fun hh=>by rw [hh] at hbody; cases hbody
 simp[callFunc,hfn,h3,h4]
theorem zQ.calls{f:FuncId}{vs:Array Value}{w:World}{K:Value→World→Prop}(hc:callable P f)(h:zQ P f vs w K):Calls P f vs w fun e w' =>∃u,e= .returned u∧K u w' :=by
 rcases h with⟨h1,h2⟩|⟨u,w',h1,h2⟩
 ·omega
 grind [qb]
def ai(P:Program)(f:FuncId)(args:List AV)(h:Heap)(Q:AV→Heap→Prop):Prop:=
 ∀c (vs:Array Value),Sub h c.h→Good c→vs.size=args.length→(∀i (hi:i<args.length),Rep c args[i] (vs.getD i undef))→zQ P f vs c.w (eT c Q)
theorem eT.mono{c:Cx}{Q Q' :AV→Heap→Prop}{u:Value}{w' :World}(h:eT c Q u w')(hq:∀x h,Q x h→Q' x h):eT c Q' u w' :=by
 obtain⟨c',x,h',h1,h2,h3,h4,h5,h6⟩:=h;exact⟨c',x,h',h1,h2,h3,h4,h5,hq _ _ h6⟩
theorem ai.mono{f:FuncId}{args:List AV}{h:Heap}{Q Q' :AV→Heap→Prop}(hf:ai P f args h Q)(hq:∀x h,Q x h→Q' x h):ai P f args h Q' :=
 fun c vs h1 h2 h3 h4=>(hf c vs h1 h2 h3 h4).mono fun u w' h6=>h6.mono hq
def EE(y:AV)(n:Nat):AV:=match y with
 |.ob id off len cap sz=> .ob id off (min len n) cap sz
 |y=>y
theorem Ks{c:Cx}{y:AV}{u:Value}(n:Nat)(h:Rep c y u):∃u',Rep c (EE y n) u'∧(∀sz k,Builtin.firstCells sz k u' =Builtin.firstCells sz k u)∧
  ∀w m,(Builtin.lenOf u').run P w= .ok m w→m≤n→∃m',(Builtin.lenOf u).run P w= .ok m' w∧Nat.min m' n=m:=by
 cases y with
 |ob id off len cap sz=>
  obtain⟨o,rfl,h1,h2,cs,t,h3,h4⟩:=h.jo;refine⟨.slice (some ⟨(c.φ id).block,o,none⟩) (min len n) cap,.ob _ _ _ _ _ _ cs t h3 ab7 h2 h4,fun _ _=>rfl,fun w m hm hn=>⟨len,acr,?_⟩⟩
  simp_all [Builtin.lenOf,Sem.run_pure,Result.ok.injEq,and_true]
 |_=>exact⟨u,h,fun _ _=>rfl,fun w m hm hn=>⟨m,hm,Nat.min_eq_left hn⟩⟩
def B2(U:TypeId→TI)(h:Heap)(ts:TypeId)(x y:AV)(Q:AV→Heap→Prop):Prop:=
 match (U ts).k with
 |.slice e=>match x with
  |.oa id off len=>(U e).sz=1∧iu U e h y fun ys=>Sized 1 ys∧(∀z∈ys,bA z=false)∧match h id with
   |some (.obj cs t)=>ys.length≤len∧off+len≤cs.length∧Q (.i ys.length) (upd h id (some (.obj (over cs off ys) t)))
   |_=>False
  |.ob id off len _ sz=>(U e).sz≠0∧sz=(U e).sz∧iu U e h (EE y len) fun ys=>Sized (U e).sz ys∧match h id with
   |some (.obj cs t)=>ys.length≤len∧off+len*(U e).sz≤cs.length∧Q (.i ys.length) (upd h id (some (.obj (over cs off (aq ys)) t)))
   |_=>False
  |_=>False
 |_=>False
def Fu:Operand→Bool
 |.const (.slice none _ _)=>true
 |_=>false
def Mt(U:TypeId→TI)(h:Heap)(op:BinOp)(ty:TypeId)(x:AV)(Q:AV→Heap→Prop):Prop:=
 match (U ty).k,op,x with
 |.slice _,.eql,.sl xs _=>∀b:Bool,(xs≠ []→b=false)→Q (.b b) h
 |.slice _,.neq,.sl xs _=>∀b:Bool,(xs≠ []→b=true)→Q (.b b) h
 |.slice _,.eql,.oa .. =>Q (.b false) h
 |.slice _,.neq,.oa .. =>Q (.b true) h
 |.slice _,.eql,.ob .. =>Q (.b false) h
 |.slice _,.neq,.ob .. =>Q (.b true) h
 |_,_,_=>False
def Tb(sz m id:Nat):AV:=if sz=1 then .oa id 0 m else .ob id 0 m m sz
def zE(m:List (AV×AV))(b v:AV):List (AV×AV):=if(getM m b).isSome then m.map (fun p=>if rU p.1 b then(p.1,v)else p)else m++ [(b,v)]
def Hl(U:TypeId→TI)(ρ:Env)(mt:TypeId):Option Operand→Prop
 |none=>True
 |some x=>(∃kt e,(U mt).k= .map kt e)∧withv ρ x fun a=>∃kk n,a= .v (.int kk n)
def aZ(P:Program)(U:TypeId→TI)(ρ:Env)(h:Heap)(o:Oper)(Q:AV→Heap→Prop):Prop:=
 match o.op with
 |.alloc t=>if isUnit (U t).k then∀id,h id=none→Q (.ptr id 0) (upd h id (some (.obj [] t)))else(U t).sz≠0∧fit (U t).zero (U t).sz∧∀id,h id=none→Q (.ptr id 0) (upd h id (some (.obj (U t).zero.cells t)))
 |.box t x=>(U t).sz≠0∧withv ρ x fun y=>fit y (U t).sz∧∀id,h id=none→Q (.ptr id 0) (upd h id (some (.obj y.cells t)))
 |.store t a x=>if isUnit (U t).k then withv ρ a fun p=>withv ρ x fun y=>y= .agg []∧match p with
   |.ptr .. =>Q (.v undef) h
   |_=>False
  else(U t).sz≠0∧withv ρ a fun p=>withv ρ x fun y=>match p with
  |.ptr id off=>match h id with
   |some (.obj cs t')=>fit y (U t).sz∧off+(U t).sz≤cs.length∧Q (.v undef) (upd h id (some (.obj (over cs off y.cells) t')))
   |_=>False
  |_=>False
 |.makeSlice t l m=>withv ρ l fun a=>withv ρ m fun b=>match (U t).k,a,b with
  |.slice e,.v (.int _ n),.v (.int _ n')=>n=n'∧0≤n∧n<lim∧n*(U e).bytes≤281474976710656∧(U e).sz≠0∧fit (U e).zero (U e).sz∧
   ∀id,h id=none→Q (Tb (U e).sz n.toNat id) (upd h id (some (.obj (cH (U e).zero n.toNat (U e).sz) e)))
  |_,_,_=>False
 |.makeMap mt r=>Hl U ρ mt r∧∀id,h id=none→Q (.mp id) (upd h id (some (.mp [])))
 |.mapUpdate mt x y z=>withv ρ x fun a=>withv ρ y fun b=>withv ρ z fun v=>match (U mt).k,a with
  |.map kt e,.mp id=>gA (U kt).k b∧match h id with
   |some (.mp m)=>(∀p∈m,gA (U kt).k p.1)∧Q (.v undef) (upd h id (some (.mp (zE m b v))))
   |_=>False
  |_,_=>False
 |.call c=>match c.callee with
  |.value q=>withv ρ q fun y=>match y with
   |.fn f cap=>withvs ρ c.args.toList fun ys=>ai P f (ys++cap) h Q
   |_=>False
  |.builtin .append=>match c.args.toList,c.argTypes.toList with
   | [x,y],[ts,tx]=>withv ρ x fun a=>withv ρ y fun b=>apT (qQ U h ts a b Q) (Eb U h ts a b Q) (U tx).k
   |_,_=>False
  |.builtin .copy=>match c.args.toList,c.argTypes.toList with
   | [x,y],[ts,_]=>withv ρ x fun a=>withv ρ y fun b=>B2 U h ts a b Q
   |_,_=>False
  |_=>pv U ρ h o.op fun x=>Q x h
 |.binOp op ty x y _=>if Fu y then withv ρ x fun a=>Mt U h op ty a Q else pv U ρ h o.op fun x=>Q x h
 |_=>pv U ρ h o.op fun x=>Q x h
def lN(P:Program)(c:Cx)(Q:AV→Heap→Prop):Result Next→Prop
 |.ok (.value u) w' =>eT c Q u w'
 |.ok .skip w' =>eT c Q undef w'
 |.ok (.enter f args) w' =>w' =c.w∧Calls P f args w' fun e w'' =>∃u,e= .returned u∧eT c Q u w''
 |_=>False
theorem uX{ρ:Env}{h:Heap}{o:Oper}{Q:AV→Heap→Prop}(hU:∀t,aN P U t)(hp:pv U ρ h o.op fun x=>Q x h){c:Cx}{a:Act}{n:Nat}(hs:Sub h c.h)(g:Good c)(he:cq c n ρ a):
  lN P c Q ((execOp a.eval o).run P c.w):=by
 obtain⟨X,hQ,hX⟩:=yD hU hp;obtain⟨u,c',h1,h2,h3,h4,h5⟩:=hX c a n hs g he;rw[h1];exact⟨c',X,h,rfl,h2,h3,h5,ab8,hQ⟩
theorem xM{h:Heap}{c:Cx}(hs:Sub h c.h){id:Nat}(hid:c.h id=none):h id=none:=by
 exact agT
theorem oS{c:Cx}{h:Heap}{t:TypeId}{y:AV}{u:Value}{n:Nat}{Q:AV→Heap→Prop}(hs:Sub h c.h)(g:Good c)(hr:Rep c y u)(hf:fit y n)
  (hQ:∀id,h id=none→Q (.ptr id 0) (upd h id (some (.obj y.cells t)))):eT c Q (.pointer (some ⟨c.w.heap.size,0,none⟩)) (c.w.alloc (.cells u.cells t)):=by
 obtain⟨id,hid⟩:=g.fresh;obtain⟨f1,f2,f3,f4⟩:=hr.fits hf;refine⟨c.ay (.cells u.cells t) id ⟨c.w.heap.size,0,none⟩ (.obj y.cells t),_,_,rfl,?_,Ext.ay c _ id _ _ rfl (.inl hid),?_,hs.upd id _,hQ id (xM hs hid)⟩
 ·refine g.ay _ _ (0,0) id _ _ rfl (.inl hid) (fun cs t' hh=>?_) (fun n sz hh=>aci)
  grind
 ·have:=Rep.ptr (c:=c.ay (.cells u.cells t) id ⟨c.w.heap.size,0,none⟩ (.obj y.cells t)) id 0 y.cells t aep
  simpa[Cx.ay,ah]using this
theorem DU{ρ:Env}{h:Heap}{o:Oper}{Q:AV→Heap→Prop}{t:TypeId}(hU:∀t,aN P U t)(ho:o.op= .alloc t)(hz:(U t).sz≠0)(hf:fit (U t).zero (U t).sz)
  (hQ:∀id,h id=none→Q (.ptr id 0) (upd h id (some (.obj (U t).zero.cells t)))) {c:Cx} {a:Act} (hs:Sub h c.h) (g:Good c):lN P c Q ((execOp a.eval o).run P c.w):=by
 obtain⟨i,i1,i2,i3,z,z1,z2,z3⟩:=(hU t).info hz;have hz0:(zeroValue t).run P c.w= .ok z c.w:=ade;have:=oS (t:=t) hs g (z3 c) hf hQ;have hr:(execOp a.eval o).run P c.w= .ok (.value (.pointer (some ⟨c.w.heap.size,0,none⟩))) (c.w.alloc (.cells z.cells t)):=by
  simp_all [execOp,Instr.alloc,newVar,newRow]
 rw[hr];exact acQ
theorem Jq{ρ:Env}{h:Heap}{o:Oper}{Q:AV→Heap→Prop}{t:TypeId}{x:Operand}(ho:o.op= .box t x)
  (hk:withv ρ x fun y=>fit y (U t).sz∧∀id,h id=none→Q (.ptr id 0) (upd h id (some (.obj y.cells t)))) {c:Cx} {a:Act} {n:Nat} (hs:Sub h c.h) (g:Good c) (he:cq c n ρ a):
  lN P c Q ((execOp a.eval o).run P c.w):=by
 obtain⟨y,hy,hf,hQ⟩:=aI hk;have:=oS (t:=t) hs g (aF he hy) hf hQ;have hr:(execOp a.eval o).run P c.w= .ok (.value (.pointer (some ⟨c.w.heap.size,0,none⟩))) (c.w.alloc (.cells (a.eval x).cells t)):=by
  simp[execOp,ho,Instr.box,newVar,newRow]
 rw[hr];exact acQ
theorem D3{ρ:Env}{h:Heap}{o:Oper}{Q:AV→Heap→Prop}{t:TypeId}{p x:Operand}(hU:∀t,aN P U t)(ho:o.op= .store t p x)(hk:aZ P U ρ h o Q){c:Cx}{a:Act}{n:Nat}(hs:Sub h c.h)(g:Good c)(he:cq c n ρ a):
  lN P c Q ((execOp a.eval o).run P c.w):=by
 simp only[aZ,ho]at hk
 by_cases hun:isUnit (U t).k=true
 ·rw[if_pos hun]at hk
  obtain⟨i,i1,_,i3⟩:=(hU t).unit (uo hun);obtain⟨A,hA,hk⟩:=aI hk;obtain⟨y,hy,hk2⟩:=aI hk;obtain⟨rfl,hk2⟩:=hk2;split at hk2
  ·obtain⟨hu,_⟩:=(aF he hA).kL
   obtain⟨vs,hv,hn,_⟩:=(aF he hy).oA;have hr:(execOp a.eval o).run P c.w= .ok .skip c.w:=by
    simp_all [execOp,Instr.storeAt,Instr.sureAddr,storeVar,sizeOf,typeInfo,Value.cells,storeCells]
   rw[hr];exact adi
  grind
 rw[if_neg hun]at hk;obtain⟨hz,hk⟩:=hk;obtain⟨A,hA,hk⟩:=aI hk;obtain⟨y,hy,hk2⟩:=aI hk;split at hk2
 ·rename_i id off
  split at hk2
  ·rename_i cs t' hid
   obtain⟨hf,hb,hQ⟩:=hk2;obtain⟨f1,f2,f3,f4⟩:=(aF he hy).fits hf;obtain⟨hu,_⟩:=(aF he hA).kL;obtain⟨h1,h2⟩:=iZ (P:=P) (off:=off) (xs:=y.cells) (vs:=(a.eval x).cells.toList) (u:=undef) (X:=.v undef) hs g hid ab8 ab7
    agb (fun _ _=> .v _) hQ
   have hr:(execOp a.eval o).run P c.w= .ok .skip (c.w.setCells (c.φ id).block off (a.eval x).cells.toList):=by
    simp[execOp,ho,Instr.storeAt,hu,Instr.sureAddr,storeVar,bC hU hz,f1,h1]
   rw[hr];exact aga
  grind
 grind
theorem zH{ρ:Env}{h:Heap}{o:Oper}{Q:AV→Heap→Prop}{mt:TypeId}{r:Option Operand}(hU:∀t,aN P U t)(ho:o.op= .makeMap mt r)(hr:Hl U ρ mt r)(hk:∀id,h id=none→Q (.mp id) (upd h id (some (.mp []))))
  {c:Cx} {a:Act} {n:Nat} (hs:Sub h c.h) (g:Good c) (he:cq c n ρ a):lN P c Q ((execOp a.eval o).run P c.w):=by
 obtain⟨id,hid⟩:=g.fresh;have hfr:h id=none:=by
  exact agT
 have hrun:(execOp a.eval o).run P c.w= .ok (.value (.map (some c.w.heap.size))) (c.w.alloc (.map #[] 0)):=by
  cases r with
  |none=>simp[execOp,ho,Instr.makeMap]
  |some x=>
   obtain⟨⟨kt,e,hty⟩,hv⟩:=hr;have hd:=(hU mt).desc;rw[hty]at hd;obtain⟨A,hA,kk,m,rfl⟩:=aI hv;simp[execOp,ho,Instr.makeMap,run_underlying hd,(aF he hA).bT,asInt,asIntOf]
 rw[hrun];refine⟨c.ay (.map #[] 0) id ⟨c.w.heap.size,0,none⟩ (.mp []),_,_,rfl,g.allocMap id hid,Ext.ay _ _ id _ _ rfl (.inl hid),?_,hs.upd id _,hk id hfr⟩;have:=Rep.mp (c:=c.ay (.map #[] 0) id ⟨c.w.heap.size,0,none⟩ (.mp [])) id [] aep;simpa[Cx.ay,ah]using this
theorem wu{ρ:Env}{h:Heap}{o:Oper}{Q:AV→Heap→Prop}{mt:TypeId}{x y z:Operand}(hU:∀t,aN P U t)(ho:o.op= .mapUpdate mt x y z)
  (hk:withv ρ x fun a=>withv ρ y fun b=>withv ρ z fun v=>match (U mt).k,a with
   |.map kt e,.mp id=>gA (U kt).k b∧match h id with
    |some (.mp m)=>(∀p∈m,gA (U kt).k p.1)∧Q (.v undef) (upd h id (some (.mp (zE m b v))))
    |_=>False
   |_,_=>False)
  {c:Cx} {a:Act} {n:Nat} (hs:Sub h c.h) (g:Good c) (he:cq c n ρ a):lN P c Q ((execOp a.eval o).run P c.w):=by
 obtain⟨A,hA,hk⟩:=aI hk;obtain⟨b,hB,hk⟩:=aI hk;obtain⟨v,hV,hk⟩:=aI hk;have hd:=(hU mt).desc;split at hk
 ·rename_i kt e id hty hp' hp''
  clear hp' hp'';rw[hty]at hd;obtain⟨hb,hk⟩:=hk;split at hk
  ·rename_i m hid
   obtain⟨hm,hQ⟩:=hk;have hcid:=hs _ _ hid;obtain⟨hu,_⟩:=(aF he hA).Fm;have hv:=C5 hb (aF he hB);have hval:=aF he hV;obtain⟨es,cl,e1,e2,e3⟩:=g.mp id m hcid;obtain⟨K,l,hl⟩:=sX hU hb;have hchk:=K.check c.w false hl;have hg:=g.keys id m hcid;rcases CL hU hb hm e2 (fun i h1 h2=>(e3 i h1 h2).1) c.w with⟨f1,f2⟩|⟨j,hj,hj',f1,f2⟩
   ·have hget:=getM_none hb hm f2
    have hset:zE m b v=m++ [(b,v)]:=by grind [zE]
    have hrun:(execOp a.eval o).run P c.w= .ok .skip (c.turn id (es.push {key:=jc b,val:=a.eval z,born:=cl}) (cl+1) (m++ [(b,v)])).w:=by
     simp[execOp,ho,hu,hv,Instr.mapUpdate,run_underlying hd,MapKept.run_getObj_map e1,hchk,f1,MapKept.run_setObj_map _ e1,Cx.turn]
     try rfl
    rw[hrun];rw[hset]at hQ;refine⟨c.turn id (es.push {key:=jc b,val:=a.eval z,born:=cl}) (cl+1) (m++ [(b,v)]),_,_,rfl,g.turn id _ es _ cl _ m hcid e1 ab8 (fun i h1 h2=>?_) ?_,Ext.turn id _ es _ cl _ m hcid e1,.v _,hs.upd id _,hQ⟩
    ·grind
    grind
   ·have hget:=BB hb hm hg j hj f2
    have hset:zE m b v=m.map (fun p=>if rU p.1 b then(p.1,v)else p):=by grind [zE]
    have hst:=K.stays c.w hl;have hkey:es[j].key=jc b:=(e3 j hj hj').1.trans f2;have hrun:(execOp a.eval o).run P c.w= .ok .skip (c.turn id (es.modify j fun e=> {e with key:=jc b,val:=a.eval z}) cl (m.map (fun p=>if rU p.1 b then(p.1,v)else p))).w:=by
     simp[execOp,ho,hu,hv,Instr.mapUpdate,run_underlying hd,MapKept.run_getObj_map e1,hchk,f1,hj',hkey,hst,MapKept.run_setObj_map _ e1,Cx.turn]
     try rfl
    rw[hrun];rw[hset]at hQ;refine⟨c.turn id (es.modify j fun e=> {e with key:=jc b,val:=a.eval z}) cl (m.map (fun p=>if rU p.1 b then(p.1,v)else p)),_,_,rfl,g.turn id _ es _ cl _ m hcid e1 ab8 (fun i h1 h2=>?_) ?_,Ext.turn id _ es _ cl _ m hcid e1,.v _,hs.upd id _,hQ⟩
    ·have hi:i<m.length:=by grind
     have h3:i<es.size:=ab7;rw[Array.getElem_modify,abY]
     by_cases hij:j=i
     ·subst hij
      have hke:rU m[j].1 b=true:=(qt (hm _ (ab2 hj)) hb).2 f2;rw[if_pos rfl,if_pos hke];exact⟨f2.symm,hval⟩
     ·have hke:rU m[i].1 b=false:=by
       cases hh:rU m[i].1 b with
       |false=>rfl
       |true=>
        grind [qt,ab2,List.pairwise_iff_getElem,Nat.lt_or_gt_of_ne]
      rw[if_neg hij,if_neg ab8];exact e3 i hi h3
    grind
  ·exact acz
 ·exact acz
theorem wq{ρ:Env}{h:Heap}{o:Oper}{Q:AV→Heap→Prop}{t:TypeId}{l m:Operand}(hU:∀t,aN P U t)(ho:o.op= .makeSlice t l m)(hk:aZ P U ρ h o Q){c:Cx}{a:Act}{n:Nat}(hs:Sub h c.h)(g:Good c)(he:cq c n ρ a):
  lN P c Q ((execOp a.eval o).run P c.w):=by
 simp only[aZ,ho]at hk;obtain⟨A,hA,hk⟩:=aI hk;obtain⟨B,hB,hk2⟩:=aI hk;clear hk;have hd:=(hU t).desc;split at hk2
 ·rename_i e k1 n1 k2 n2 hty
  rw[hty]at hd;obtain⟨rfl,h0,hlim,hbytes,hz,hf,hQ⟩:=hk2;obtain⟨i,i1,i2,i3,z,z1,z2,z3⟩:=(hU e).info hz;have hz0:(zeroValue e).run P c.w= .ok z c.w:=ade;obtain⟨f1,f2,f3,f4⟩:=(z3 c).fits hf;have hw:IntKind.i64.wrap n1=n1:=by
   grind [lim,IntWalk.i64_in]
  generalize hcells:(Array.range (n1.toNat*(U e).sz)).map (fun j=>(if n1.toNat*(U e).sz=0 then #[]else z.cells)[j % (if n1.toNat*(U e).sz=0 then #[]else z.cells).size]!)=cells
  have hr:(execOp a.eval o).run P c.w= .ok (.value (.slice (some ⟨c.w.heap.size,0,none⟩) n1.toNat n1.toNat)) (c.w.alloc (.cells cells e)):=by
   have hcap:¬(n1<0∨281474976710656<(U e).bytes*n1):=by
    grind
   have h00:¬(n1<0):=ab7;have hcap' :¬(281474976710656<(U e).bytes*n1):=fun hh=>hcap (.inr hh)
   by_cases hn:n1.toNat*(U e).sz=0
   ·simp only[hn,if_true]at hcells
    simp[execOp,ho,(aF he hA).bT,(aF he hB).bT,Instr.makeSlice,run_underlying hd,asInt,asIntOf,typeInfo,i1,i3,hw,bC hU hz,newRow,hcap',h00,hn];simp at hcells;rw[←hcells]
   ·simp only[hn,if_false]at hcells
    simp[execOp,ho,(aF he hA).bT,(aF he hB).bT,Instr.makeSlice,run_underlying hd,asInt,asIntOf,typeInfo,i1,i3,hw,bC hU hz,newRow,hcap',h00,hn,hz0,hcells]
  rw[hr];obtain⟨id,hid⟩:=g.fresh;refine⟨c.ay (.cells cells e) id ⟨c.w.heap.size,0,none⟩ (.obj (cH (U e).zero n1.toNat (U e).sz) e),_,_,rfl,?_,Ext.ay c _ id _ _ rfl (.inl hid),?_,hs.upd id _,hQ id (xM hs hid)⟩
  ·refine g.ay _ _ (0,0) id _ _ rfl (.inl hid) (fun cs t' hh=>?_) (fun n sz hh=>aci)
   cases hh;have hsz:cells.size=n1.toNat*(U e).sz:=ab8;refine⟨rfl,rfl,by grind [cH],fun j hj=>?_⟩
   have hj' :j<n1.toNat*(U e).sz:=by grind [cH]
   have hmod:j % (U e).sz<(U e).sz:=Nat.mod_lt _ ab7;have e1:(cH (U e).zero n1.toNat (U e).sz)[j]=(U e).zero.cells[j % (U e).sz]'ab7:=by
    grind [cH]
   have e2:cells.getD j undef=z.cells.getD (j % (U e).sz) undef:=by
    rw[←hcells];have hne:¬(n1.toNat*(U e).sz=0):=ab7;simp only[hne,if_false];have h9:j % (U e).sz<z.cells.size:=ab7;simp[hj',z2];rw[getElem!_pos z.cells (j % (U e).sz) h9,Array.getElem?_eq_getElem h9];rfl
   rw[e1,e2];exact⟨f3 _ ab7,f4 _ hmod⟩
  ·have r1:=Rep.oa (c:=c.ay (.cells cells e) id ⟨c.w.heap.size,0,none⟩ (.obj (cH (U e).zero n1.toNat (U e).sz) e)) id 0 n1.toNat n1.toNat 0 (cH (U e).zero n1.toNat (U e).sz) e
    aep (Nat.le_refl _) ab7 (fun _=>⟨rfl,by simp only[cH,abX,List.length_range];have:=Nat.le_mul_of_pos_right n1.toNat (show 0<(U e).sz by omega);omega⟩)
   have r2:=Rep.ob (c:=c.ay (.cells cells e) id ⟨c.w.heap.size,0,none⟩ (.obj (cH (U e).zero n1.toNat (U e).sz) e)) id 0 n1.toNat n1.toNat (U e).sz 0 (cH (U e).zero n1.toNat (U e).sz) e
    aep (Nat.le_refl _) ab7 (fun _=>⟨rfl,by grind [cH,abX,List.length_range]⟩)
   simp only[Cx.ay,ah]at r1 r2;unfold Tb;split
   ·simpa[Cx.ay,ah]using r1
   ·simpa[Cx.ay,ah]using r2
 ·exact hk2.elim
theorem FI{h:Heap}{ts tx ty:TypeId}{x y:AV}{Q:AV→Heap→Prop}(hU:∀t,aN P U t)(hk:B2 U h ts x y Q)(c:Cx)(u v:Value)
  (hs:Sub h c.h) (g:Good c) (hx:Rep c x u) (hy:Rep c y v):
  ∃r w',(Builtin.copy_ #[ts,tx] ty #[u,v]).run P c.w= .ok r w'∧eT c Q r w' :=by
 unfold B2 at hk;have hd:=(hU ts).desc;split at hk
 ·rename_i e hty
  rw[hty]at hd;split at hk
  ·rename_i id off len
   obtain⟨hz,hk⟩:=hk;obtain⟨ys,hk',hsrc⟩:=qM (P:=P) ab7 hk;clear hk;obtain⟨hsy,hna,hk⟩:=hk';split at hk
   ·rename_i cs t hid
    obtain⟨hle,hb,hQ⟩:=hk;rw[hz]at hsrc;obtain⟨hl,val,row,hlen,hfirst⟩:=hsrc c v hs g hy hsy;obtain⟨cap,o',rfl,h1,h2,h3,_⟩:=hx.oU;have hcells:∀i (hi:i<ys.length),ys[i].cells= [ys[i]]:=fun i hi=>by
     have hh:=hna _ (ab2 hi);generalize ys[i]=q at hh;cases q<;>simp[bA]at hh<;>rfl
    have hrow:∀i (hi:i<ys.length),Rep c ys[i] (val i 0):=fun i hi=>by
     have:=row.hr i hi 0 ab8;simpa only[hcells i hi,List.getElem_singleton]using this
    have hget:∀j,j<ys.length→(bZ 1 ys.length val).getD j undef=val j 0:=fun j hj=>by
     have:=gF (sz:=1) (n:=ys.length) (val:=val) hj (show 0<1 by omega)
     rw[Nat.mul_one,Nat.add_zero]at this;simp[List.getD,this]
    obtain⟨s1,s2⟩:=iZ (P:=P) (off:=off) (xs:=ys) (vs:=bZ 1 ys.length val) (u:=.int .i64 ys.length) (X:=.i ys.length) hs g hid (by simp[aU]) ab7
     (fun j hj=>by rw[hget j hj];exact⟨hrow j hj,row.ho j 0 hj ab7⟩) (fun _ _=> .v _) hQ
    refine⟨_,_,?_,s2⟩;have hmin:Nat.min ys.length len=ys.length:=ab8
    by_cases h0:ys.length=0
    ·have e0:bZ 1 ys.length val= []:=by grind [bZ]
     rw[e0]at hfirst s1⊢;simp[Builtin.copy_,run_underlying hd,hlen,hmin,bC hU (show(U e).sz≠0 by omega),hz,hfirst,goInt,storeCells,World.setCells]
    ·obtain rfl:=h3 ab7
     simp[Builtin.copy_,run_underlying hd,hlen,hmin,bC hU (show(U e).sz≠0 by omega),hz,hfirst,goInt,s1]
   ·exact acz
  ·rename_i id off len cap0 sz0
   obtain⟨hz,rfl,hk⟩:=hk;obtain⟨ys,hk',hsrc⟩:=qM (P:=P) hz hk;clear hk;obtain⟨hsy,hk⟩:=hk';split at hk
   ·rename_i cs t hid
    obtain⟨hle,hb,hQ⟩:=hk;obtain⟨v',hy',hfc,hlv⟩:=Ks (P:=P) len hy;obtain⟨hl,val,row,hlen,hfirst⟩:=hsrc c v' hs g hy' hsy;rw[hfc]at hfirst;obtain⟨m',hm1,hm2⟩:=hlv c.w _ (hlen c.w) hle;obtain⟨o',rfl,h1,h2,cs',t',h4,h5⟩:=hx.jo;obtain⟨hly,hry⟩:=row.flat ab7;have hle2:ys.length*(U e).sz≤len*(U e).sz:=Nat.mul_le_mul_right _ hle;obtain⟨s1,s2⟩:=iZ (P:=P) (off:=off) (xs:=aq ys) (vs:=bZ (U e).sz ys.length val) (u:=.int .i64 ys.length) (X:=.i ys.length) hs g hid (by grind [aU]) ab7
     hry (fun _ _=> .v _) hQ
    refine⟨_,_,?_,s2⟩
    by_cases h0:ys.length=0
    ·have e0:bZ (U e).sz ys.length val= []:=by grind [bZ]
     rw[e0]at hfirst s1⊢;simp[Builtin.copy_,run_underlying hd,hm1,hm2,bC hU hz,hfirst,goInt,storeCells,World.setCells]
    ·obtain⟨rfl,_⟩:=h5 ab7
     simp[Builtin.copy_,run_underlying hd,hm1,hm2,bC hU hz,hfirst,goInt,s1]
   ·exact acz
  ·exact acz
 ·exact acz
theorem FH{f:FuncId}{h:Heap}{Q:AV→Heap→Prop}{ys:List AV}(hf:ai P f ys h Q){c:Cx}(hs:Sub h c.h)(g:Good c){vs:Array Value}(h1:vs.size=ys.length)(h2:∀i (hi:i<ys.length),Rep c ys[i] (vs.getD i undef)):
  lN P c Q ((callFunc f vs).run P c.w):=by
 rcases hf c vs hs g h1 h2 with⟨hc,hcall⟩|⟨u,w',hr,hk⟩
 ·rw[qb hc]
  exact⟨rfl,hcall⟩
 ·rw[hr]
  exact hk
theorem vb{c:Cx}{Q:AV→Heap→Prop}{s:Sem Value}{r:Value}{w' :World}(hr:s.run P c.w= .ok r w')(hc:eT c Q r w'):lN P c Q ((do pure (.value (←s)):Sem Next).run P c.w):=by
 simp only[Sem.run_bind,hr,Result.andThen_ok,Sem.run_pure];exact hc
theorem eC{ty e:TypeId}(h:P.underlying ty=some (.slice e))(d:Nat)(a:Option Addr)(l k l' k' :Nat)(w:World):(Op.equalIn (d+1) ty (.slice a l k) (.slice none l' k')).run P w= .ok a.isNone w:=by
 cases a<;>simp[Op.equalIn,run_underlying h]
theorem Jv{ρ:Env}{h:Heap}{o:Oper}{Q:AV→Heap→Prop}{op:BinOp}{t t' :TypeId}{x y:Operand}(hU:∀t,aN P U t)(ho:o.op= .binOp op t x y t')(hy:Fu y=true)(hk:withv ρ x fun a=>Mt U h op t a Q)
  {c:Cx} {a:Act} {n:Nat} (hs:Sub h c.h) (g:Good c) (he:cq c n ρ a):lN P c Q ((execOp a.eval o).run P c.w):=by
 obtain⟨A,hA,hk2⟩:=aI hk;clear hk;obtain⟨l',k',rfl⟩:∃l' k',y= .const (.slice none l' k'):=by
  unfold Fu at hy
  grind
 have hev:a.eval (.const (.slice none l' k'))= .slice none l' k' :=rfl;have hd:=(hU t).desc;have hgu:∀ad l k,(eqGuard op t x (.const (.slice none l' k')) (.slice ad l k) (.slice none l' k')).run P c.w= .ok () c.w:=fun ad l k=>gE _ _ _ _ _ _ _ rfl
 unfold Mt at hk2;split at hk2
 ·rename_i e xs p hty
  rw[hty]at hd;obtain⟨ad,cap,sz,val,hu,sl⟩:=(aF he hA).iq;have h1:(execOp a.eval o).run P c.w= .ok (.value (.bool ad.isNone)) c.w:=by
   simp_all [execOp,binOp,kM,eC]
  rw[h1];refine⟨c,_,h,rfl,g,.refl c,.v _,hs,hk2 _ fun hne=>?_⟩
  cases ad with
  |some q=>rfl
  |none=>have:=sl.h0 rfl;have:=sl.hc;have:=List.length_pos_iff.2 hne;omega
 ·rename_i e xs p hty
  rw[hty]at hd;obtain⟨ad,cap,sz,val,hu,sl⟩:=(aF he hA).iq;have h1:(execOp a.eval o).run P c.w= .ok (.value (.bool (!ad.isNone))) c.w:=by
   simp_all [execOp,binOp,kM,eC]
  rw[h1];refine⟨c,_,h,rfl,g,.refl c,.v _,hs,hk2 _ fun hne=>?_⟩
  cases ad with
  |some q=>rfl
  |none=>have:=sl.h0 rfl;have:=sl.hc;have:=List.length_pos_iff.2 hne;omega
 ·rename_i e id off len hty
  rw[hty]at hd;obtain⟨cap,o',hu,_⟩:=(aF he hA).oU;have h1:(execOp a.eval o).run P c.w= .ok (.value (.bool false)) c.w:=by
   simp_all [execOp,binOp,kM,eC]
  rw[h1];exact adi
 ·rename_i e id off len hty
  rw[hty]at hd;obtain⟨cap,o',hu,_⟩:=(aF he hA).oU;have h1:(execOp a.eval o).run P c.w= .ok (.value (.bool true)) c.w:=by
   simp_all [execOp,binOp,kM,eC]
  rw[h1];exact adi
 ·rename_i e id off len cap0 sz0 hty
  rw[hty]at hd;obtain⟨o',hu,_⟩:=(aF he hA).jo;have h1:(execOp a.eval o).run P c.w= .ok (.value (.bool false)) c.w:=by
   simp_all [execOp,binOp,kM,eC]
  rw[h1];exact adi
 ·rename_i e id off len cap0 sz0 hty
  rw[hty]at hd;obtain⟨o',hu,_⟩:=(aF he hA).jo;have h1:(execOp a.eval o).run P c.w= .ok (.value (.bool true)) c.w:=by
   simp_all [execOp,binOp,kM,eC]
  rw[h1];exact adi
 ·exact hk2.elim
theorem mK{ρ:Env}{h:Heap}{o:Oper}{Q:AV→Heap→Prop}(hU:∀t,aN P U t)(hk:aZ P U ρ h o Q){c:Cx}{a:Act}{n:Nat}(hs:Sub h c.h)(g:Good c)(he:cq c n ρ a):
  lN P c Q ((execOp a.eval o).run P c.w):=by
 have hk0:=hk;unfold aZ at hk;split at hk
 ·rename_i t ho
  split at hk
  ·rename_i hun
   obtain⟨i,i1,i2,_⟩:=(hU t).unit (uo hun);have hz0:(zeroValue t).run P c.w= .ok (.agg #[]) c.w:=ade;have:=oS (t:=t) (y:=.agg []) (u:=.agg #[]) (n:=0) hs g (.agg [] #[] rfl aci aci) rfl hk;have hr:(execOp a.eval o).run P c.w= .ok (.value (.pointer (some ⟨c.w.heap.size,0,none⟩))) (c.w.alloc (.cells (Value.agg #[]).cells t)):=by
    simp_all [execOp,Instr.alloc,newVar,newRow]
   rw[hr];exact acQ
  ·exact DU (ρ:=ρ) hU ho hk.1 hk.2.1 hk.2.2 hs g
 ·rename_i t x ho
  exact Jq ho hk.2 hs g he
 ·rename_i t p x ho
  exact D3 hU ho hk0 hs g he
 ·rename_i t l m ho
  exact wq hU ho hk0 hs g he
 ·rename_i t r ho
  exact zH hU ho hk.1 hk.2 hs g he
 ·rename_i t x y z ho
  exact wu hU ho hk hs g he
 ·rename_i cl ho
  obtain⟨callee,args,ts⟩:=cl;simp only at hk;split at hk
  ·rename_i q
   obtain⟨y,hy,hk⟩:=aI hk;split at hk
   ·rename_i f cap
    obtain⟨ys,hys,hk⟩:=fl hk;obtain⟨vs,hu,hn,hr⟩:=(aF he hy).EV;obtain⟨h1,h2⟩:=wD he _ _ hys;have:(execOp a.eval o).run P c.w=(callFunc f (args.map a.eval++vs)).run P c.w:=by
     grind [execOp,resolve,Deferred.ofValue,invoke]
    rw[this];refine FH hk hs g ab8 fun i hi=>?_
    have hsz:(args.map a.eval).size=ys.length:=ab8
    by_cases hlt:i<ys.length
    ·have e1:(ys++cap)[i]=ys[i]:=by grind
     have hlt' :i<args.size:=ab8;have:=h2 i ab7 hlt;rw[e1];have e2:(args.map a.eval++vs).getD i undef=a.eval args.toList[i]:=by
      have h9:i<(args.map a.eval++vs).size:=ab8;rw[Array.getD,dif_pos h9]
      show(args.map a.eval++vs)[i]=_
      grind
     rw[e2];exact acQ
    ·have hi' :i<ys.length+cap.length:=by grind
     have e1:(ys++cap)[i]=cap[i - ys.length]:=ab8;rw[e1];have e2:(args.map a.eval++vs).getD i undef=vs.getD (i - ys.length) undef:=by
      have h9:i<(args.map a.eval++vs).size:=ab8;have h8:i - ys.length<vs.size:=ab7;rw[Array.getD,dif_pos h9,Array.getD,dif_pos h8]
      show(args.map a.eval++vs)[i]=_
      rw[Array.getElem_append_right ab7]
      simp_all
     rw[e2];exact hr _ ab7
   ·exact acz
  ·split at hk
   ·rename_i x y t1 t2 hA hB
    obtain⟨A,hA',hk⟩:=aI hk;obtain⟨B,hB',hk2⟩:=aI hk;obtain⟨r,w',hr,hc⟩:∃r w',(Builtin.append_ #[t1,t2] o.type #[a.eval x,a.eval y]).run P c.w= .ok r w'∧eT c Q r w' :=by
     unfold apT at hk2;split at hk2
     ·rename_i ki hki
      exact HH hU hki hk2 c _ _ hs g (aF he hA') (aF he hB')
     ·exact ahr
     ·exact ahr
     grind
    rw[ck ho];have e1:args= #[x,y]:=ab8;have e2:ts= #[t1,t2]:=ab8;subst e1;subst e2
    exact vb ab8 hc
   ·exact acz
  ·split at hk
   ·rename_i x y t1 t2 hA hB
    obtain⟨A,hA',hk⟩:=aI hk;obtain⟨B,hB',hk2⟩:=aI hk;obtain⟨r,w',hr,hc⟩:=FI (P:=P) (tx:=t2) (ty:=o.type) hU hk2 c _ _ hs g (aF he hA') (aF he hB');rw[ck ho];have e1:args= #[x,y]:=ab8;have e2:ts= #[t1,t2]:=ab8;subst e1;subst e2
    exact vb ab8 hc
   ·exact acz
  ·exact uX hU hk hs g he
 ·rename_i op ty x y t' ho
  split at hk
  ·rename_i hy
   exact Jv hU ho hy hk hs g he
  ·exact uX hU ab7 hs g he
 ·exact uX hU hk hs g he
end
section
variable (P : Program) (U : TypeId → TI) (n : Nat)
def qj(all:List Oper)(g:Nat):Option Tmp:=(all[g]?).bind (·.dst)
def jL(all:List Oper)(ρ:Env)(gd:Option (Nat×Bool))(yes no:Env→Prop):Prop:=
 match gd with
 |none=>yes ρ
 |some (g,want)=>match qj all g with
  |some d=>match lk ρ d with
   |some (.v (.bool t))=>(t=want→yes ((d,.b want)::ρ))∧(t= !want→no ((d,.b (!want))::ρ))
   |some (.v (.tuple _))=>no ρ
   |_=>False
  |none=>False
def KOp(k:Env→Heap→Prop)(ρ:Env)(d:Option Tmp)(x:AV)(h:Heap):Prop:=k (put ρ d x) h
def j6(all:List Oper):List Oper→Env→Heap→(Env→Heap→Prop)→Prop
 | [],ρ,h,K=>K ρ h
 |o::os,ρ,h,K=>eS n o.dst=true∧jL all ρ o.guard
   (fun ρ=>aZ P U ρ h o (KOp (fun ρ h=>j6 all os ρ h K) ρ o.dst))
   (fun ρ=>j6 all os (put ρ o.dst (.v undef)) h K)
def WPK(K:Exit→Env→Heap→Prop)(c0:Cx)(e:Exit)(a:Act)(w:World):Prop:=
 ∃c ρ h,c.w=w∧Good c∧Ext c0 c∧cq c n ρ a∧Sub h c.h∧K e ρ h
end
section
variable {P : Program} {U : TypeId → TI} {n : Nat}
theorem cq.learn{c:Cx}{ρ:Env}{a:Act}(h:cq c n ρ a){d:Nat}{t:Bool}(hd:lk ρ d=some (.b t)){b:Bool}(hb:t=b):cq c n ((d,.b b)::ρ) a:=by
 subst hb;refine⟨h.size,h.defers,fun t' x hx=>?_⟩
 simp only[lk]at hx;split at hx
 ·rename_i e;subst e
  cases hx;exact h.rep _ _ hd
 ·exact h.rep _ _ hx
theorem JE{c:Cx}{ρ:Env}{a:Act}(h:cq c n ρ a){d:Nat}{u:Value}(hd:lk ρ d=some (.v u))(hu:u≠undef∨d<a.tmps.size):a.tmps[d]? =some u:=by
 have:=(h.rep d _ hd).bT
 by_cases hlt:d<a.tmps.size
 ·simpa[hlt]using this
 ·have e:a.tmps.getD d undef=undef:=by grind
  rw[e]at this;rcases hu with hu|hu
  ·exact(hu this.symm).elim
  ·exact(hlt hu).elim
theorem CV{all:List Oper}{ρ:Env}{o:Oper}{yes no:Env→Prop}(hg:jL all ρ o.guard yes no){c:Cx}{a:Act}(he:cq c n ρ a):
  ∃ρ',cq c n ρ' a∧((Region.wanted o (yielded all.toArray a.tmps)=true∧yes ρ')∨(Region.wanted o (yielded all.toArray a.tmps)=false∧no ρ')):=by
 unfold jL at hg;split at hg
 ·grind [Region.wanted]
 ·rename_i g want hgd
  split at hg
  ·rename_i d hd
   have hd' :(all[g]?).bind (·.dst)=some d:=hd
   split at hg
   ·rename_i t ht
    obtain⟨h1,h2⟩:=hg;have hy:yielded all.toArray a.tmps g=some t:=by
     have:=JE he ht (by grind [undef])
     simp[yielded,hd',this]
    by_cases e:t=want
    ·exact⟨_,he.learn ht e,.inl ⟨by grind [Region.wanted],h1 e⟩⟩
    ·have e' :t= !want:=by cases t<;>cases want<;>simp_all
     exact⟨_,he.learn ht e',.inr ⟨by grind [Region.wanted],h2 e'⟩⟩
   ·rename_i vs ht
    refine⟨ρ,he,.inr ⟨?_,hg⟩⟩;have hy:yielded all.toArray a.tmps g=none:=by
     have:=(he.rep _ _ ht).bT
     by_cases hlt:d<a.tmps.size
     ·have e:a.tmps[d]? =some (.tuple vs):=by simp_all
      simp[yielded,hd',e]
     ·have e:a.tmps[d]? =none:=by grind
      simp[yielded,hd',e]
    simp[Region.wanted,hgd,hy]
   ·exact hg.elim
  grind
theorem WPK.after{K:Exit→Env→Heap→Prop}{c0 c1:Cx}(he:Ext c0 c1){e:Exit}{a:Act}{w:World}(h:WPK n K c1 e a w):WPK n K c0 e a w:=by
 obtain⟨c,ρ,hh,h1,h2,h3,h4⟩:=h;exact⟨c,ρ,hh,h1,h2,he.trans h3,h4⟩
theorem qR(hU:∀t,aN P U t){all:List Oper}{K:Exit→Env→Heap→Prop}(c0:Cx):∀(l:List Oper) (ρ:Env) (h:Heap),j6 P U n all l ρ h (K .normal)→
  ∀c a,Ext c0 c→Sub h c.h→Good c→cq c n ρ a→wpList P all.toArray (WPK n K c0) l a c.w
 | [],ρ,h,hk,c,a,hE,hs,g,he=>⟨c,ρ,h,rfl,g,hE,he,hs,hk⟩
 |o::os,ρ,h,hk,c,a,hE,hs,g,he=>by
  obtain⟨hd,hk⟩:=hk;obtain⟨ρ',he',hk⟩:=CV hk he;unfold wpList;rcases hk with⟨hw,hk⟩|⟨hw,hk⟩
  ·rw[if_pos hw]
   left
   have hu:=mK hU hk hs g he';have next:∀u w',eT c (KOp (fun ρ h=>j6 P U n all os ρ h (K .normal)) ρ' o.dst) u w'→wpList P all.toArray (WPK n K c0) os (a.put o.dst u) w' :=by
    rintro u w' ⟨c',x,h',rfl,g',hE',hr,hs',hK⟩
    exact qR hU c0 os _ h' hK c' _ (hE.trans hE') hs' g' ((he'.mono hE').put hd hr)
   unfold Oper.wp;generalize (execOp a.eval o).run P c.w=r at hu;cases r with
   |ok nx w' =>
    exact ags
   |halt x w' =>exact hu.elim
  ·rw[if_neg ab8]
   exact qR hU c0 os _ h hk c _ hE hs g (he'.put hd (.v _))
end
section
variable {P : Program} {U : TypeId → TI}
theorem CH{ρ ρ' :Env}{x:Operand}(h:∀t,x= .tmp t→lk ρ t=lk ρ' t):ev ρ x=ev ρ' x:=by
 cases x with
 |tmp t=>exact h t rfl
 |_=>rfl
theorem lW{ρ ρ' :Env}:∀ {xs:List Operand},(∀x∈xs,ev ρ x=ev ρ' x)→evs ρ xs=evs ρ' xs
 | [],_=>rfl
 |x::r,h=>by
  simp only[evs];rw[h x aci,lW fun y hy=>h y ab8]
theorem sd{ρ ρ' :Env}{x:Option Operand}{d:Nat}{k:Int→Prop}(h:∀y,x=some y→ev ρ y=ev ρ' y):ew ρ x d k=ew ρ' x d k:=by
 cases x with
 |none=>rfl
 |some y=>simp only[ew,withv,h y rfl]
theorem tT{ρ ρ' :Env}{fs:List (Nat×TypeId)}{k:List AV→Prop}:∀ {ps:List (Nat×Operand)} {cs:List AV},(∀p∈ps,ev ρ p.2=ev ρ' p.2)→withps U ρ fs ps cs k=withps U ρ' fs ps cs k
 | [],_,_=>rfl
 |(i,x)::r,cs,h=>by
  simp only[withps,withv];have h1:ev ρ x=ev ρ' x:=agb;rw[h1];have h2:∀cs',withps U ρ fs r cs' k=withps U ρ' fs r cs' k:=fun cs' =>tT fun p hp=>h p ab8
  simp only[h2]
theorem Jg{ρ ρ' :Env}{hp:Heap}{b:Builtin}{args:List Operand}{ts:List TypeId}{k:AV→Prop}(h:∀x∈args,ev ρ x=ev ρ' x):pvB U ρ hp b args ts k=pvB U ρ' hp b args ts k:=by
 cases b<;>simp only[pvB,withvs,lW h]
 ·grind [withv]
 grind [withv]
theorem zB{ρ ρ' :Env}{ty:TypeId}{y:AV}{lo hi mx:Option Operand}{k:AV→Prop}(h1:∀x,lo=some x→ev ρ x=ev ρ' x)(h2:∀x,hi=some x→ev ρ x=ev ρ' x)(h3:∀x,mx=some x→ev ρ x=ev ρ' x):
  ri U ρ ty y lo hi mx k=ri U ρ' ty y lo hi mx k:=by
 have e1:∀d (k:Int→Prop),ew ρ lo d k=ew ρ' lo d k:=fun d k=>sd h1
 have e2:∀d (k:Int→Prop),ew ρ hi d k=ew ρ' hi d k:=fun d k=>sd h2
 cases mx with
 |none=>simp only[ri,e1,e2]
 |some m=>
  have e3:∀d (k:Int→Prop),ew ρ (some m) d k=ew ρ' (some m) d k:=fun d k=>sd h3
  simp only[ri,e1,e2,e3]
theorem DE{ρ ρ' :Env}{h:Heap}{op:Op}{k:AV→Prop}(he:∀x∈op.operands,ev ρ x=ev ρ' x):pv U ρ h op k=pv U ρ' h op k:=by
 cases op<;>simp only[pv]
 case move x=>grind [withv,Op.operands]
 case assign x=>grind [withv,Op.operands]
 case pick c a b=>simp_all [withv,Op.operands]
 case nilCheck x=>grind [withv,Op.operands]
 case binOp op ty x y ty' =>grind [withv,Op.operands]
 case unOp op ty x=>grind [withv,Op.operands]
 case convert s d x=>grind [withv,Op.operands]
 case field ty x f=>grind [withv,Op.operands]
 case extract x i=>grind [withv,Op.operands]
 case index ty x y=>grind [withv,Op.operands]
 case fieldAddr ty x f=>grind [withv,Op.operands]
 case indexAddr ty x y=>grind [withv,Op.operands]
 case load ty x=>grind [withv,Op.operands]
 case slice ty x lo hi mx=>
  simp only[withv,he x adw]
  grind [zB,Op.operands]
 case lookup mt x y ok=>grind [withv,Op.operands]
 case buildSlice ty n ps=>
  grind [evs,lW,Op.operands,withvs]
 case build ty ps=>
  have:∀fs cs (k:List AV→Prop),withps U ρ fs ps.toList cs k=withps U ρ' fs ps.toList cs k:=fun fs cs k=>tT fun p hp=>he p.2 (by simp only[Op.operands,List.mem_toArray,List.mem_map];grind)
  simp only[this]
 case makeInterface ty x=>grind [withv,Op.operands]
 case makeFunc fn first cap=>
  grind [evs,lW,Op.operands,withvs]
 grind [builtin,Jg,Op.operands,Call.operands]
def restrict(ρ:Env)(S:List Nat):Env:=ρ.filter fun p=>S.contains p.1
theorem kW(S:List Nat)(t:Nat):∀ρ:Env,lk (restrict ρ S) t=if S.contains t then lk ρ t else none
 | []=>by simp[restrict,lk]
 |(k,x)::r=>by
  have ih:=kW S t r;simp only[restrict,List.filter_cons]at ih⊢
  by_cases hk:S.contains k=true
  ·rw[if_pos hk]
   simp only[lk]
   by_cases e:k=t
   ·subst e;rw[if_pos rfl,if_pos hk,if_pos rfl]
   ·rw[if_neg e,if_neg e];exact ih
  ·rw[if_neg hk]
   rw[ih]
   by_cases e:k=t
   ·subst e
    simp only[hk];rfl
   ·simp only[lk,if_neg e]
def fc(op:Op):List Nat:=op.operands.toList.filterMap fun|.tmp t=>some t|_=>none
abbrev EF:=Nat→Option AV
def DUpon(P:Program)(c:Cx)(h:Heap)(X:AV):Result Next→Prop
 |.ok (.value u) w' =>∃c',c'.w=w'∧Good c'∧Ext c c'∧Sub h c'.h∧Rep c' X u
 |.ok .skip w' =>∃c',c'.w=w'∧Good c'∧Ext c c'∧Sub h c'.h∧Rep c' X undef
 |.ok (.enter f args) w' =>w' =c.w∧Calls P f args w' fun e w'' =>∃u,e= .returned u∧∃c',c'.w=w''∧Good c'∧Ext c c'∧Sub h c'.h∧Rep c' X u
 |_=>False
def DOK(P:Program)(o:Oper)(F:EF)(h:Heap)(X:AV):Prop:=
 ∀(c:Cx) (a:Act),Sub h c.h→Good c→a.defers= []→(∀t∈fc o.op,∀x,F t=some x→Rep c x (a.tmps.getD t undef))→DUpon P c h X ((execOp a.eval o).run P c.w)
def ju(P:Program)(U:TypeId→TI)(ρ:Env)(h:Heap)(o:Oper)(Q:AV→Prop):Prop:=
 match o.op with
 |.call c=>match c.callee with
  |.value q=>withv ρ q fun y=>match y with
   |.fn f cap=>withvs ρ c.args.toList fun ys=>∃X,ai P f (ys++cap) h (fun x h' =>x=X∧h' =h)∧Q X
   |_=>False
  |_=>pv U ρ h o.op Q
 |_=>pv U ρ h o.op Q
theorem FZ{ρ:Env}{h:Heap}{o:Oper}{Q:AV→Prop}(hU:∀t,aN P U t)(hk:ju P U ρ h o Q):∃X,Q X∧DOK P o (lk ρ) h X:=by
 have hev:∀x∈o.op.operands,ev (restrict ρ (fc o.op)) x=ev ρ x:=fun x hx=>CH fun t ht=>by
  exact ahs
 have henv:∀ {c:Cx} {a:Act},a.defers= []→(∀t∈fc o.op,∀x,lk ρ t=some x→Rep c x (a.tmps.getD t undef))→cq c a.tmps.size (restrict ρ (fc o.op)) a:=fun hd hr=>
  ⟨rfl,hd,fun t x hx=>by
   rw[kW]at hx;split at hx
   ·rename_i hc
    exact hr t ab8 x hx
   ·cases hx⟩
 have pure:pv U ρ h o.op Q→∃X,Q X∧DOK P o (lk ρ) h X:=fun hp=>by
  rw[←DE hev]at hp;obtain⟨X,hQ,hX⟩:=yD hU hp;refine⟨X,hQ,fun c a hs g hd hr=>?_⟩
  obtain⟨u,c',h1,h2,h3,h4,h5⟩:=hX c a _ hs g (henv hd hr);rw[h1];exact⟨c',rfl,h2,h3,ab8,h5⟩
 unfold ju at hk;split at hk
 ·rename_i cl ho
  obtain⟨callee,args,ts⟩:=cl;simp only at hk;split at hk
  ·rename_i q
   obtain⟨y,hy,hk⟩:=aI hk;split at hk
   ·rename_i f cap
    obtain⟨ys,hys,X,hf,hQ⟩:=fl hk;refine⟨X,hQ,fun c a hs g hd hr=>?_⟩
    have he:=henv hd hr;have hvc:aZ P U (restrict ρ (fc o.op)) h o (fun x h' =>x=X∧h' =h):=by
     have e1:ev (restrict ρ (fc o.op)) q=some (.fn f cap):=by grind [Op.operands,Call.operands]
     have e2:evs (restrict ρ (fc o.op)) args.toList=some ys:=by
      grind [lW,Op.operands,Call.operands]
     simp only[aZ,ho];simp only[ho]at e1 e2;simp only[withv,e1,withvs,e2];exact hf
    have hu:=mK hU hvc hs g he;generalize (execOp a.eval o).run P c.w=r at hu;have conv:∀u w',eT c (fun x h' =>x=X∧h' =h) u w'→∃c',c'.w=w'∧Good c'∧Ext c c'∧Sub h c'.h∧Rep c' X u:=by
     rintro u w' ⟨c',x,h',h1,h2,h3,h4,h5,rfl,rfl⟩
     grind
    cases r with
    |ok nx w' =>
     cases nx<;>simp only[lN]at hu<;>simp only[DUpon]
     case value u=>exact conv _ _ hu
     case skip=>exact conv _ _ hu
     case enter f args=>exact⟨hu.1,hu.2.mono fun e w'' ⟨u,he,hc⟩=>⟨u,he,conv _ _ hc⟩⟩
    |halt x w' =>exact hu.elim
   ·exact acz
  ·exact pure hk
 ·exact pure hk
end
section
variable {P : Program} {U : TypeId → TI} {ops : Array Oper} {md : Region.Mode} {h : Heap}
def gK(F:EF):Option Tmp→AV→EF
 |some d,x=>upd F d (some x)
 |none,_=>F
theorem rX(ρ:Env)(d:Option Tmp)(x:AV):lk (put ρ d x)=gK (lk ρ) d x:=by
 cases d with
 |none=>rfl
 |some d=>
  funext t
  simp only[put,lk,gK,upd]
  grind
def cE(ops:Array Oper)(F:EF)(o:Oper):Option Bool:=
 match o.guard with
 |none=>some true
 |some (g,want)=>match (ops[g]?).bind (·.dst)with
  |some d=>match F d with
   |some (.v (.bool t))=>some (t==want)
   |some (.v (.tuple _))=>some false
   |_=>none
  |none=>none
def vl(P:Program)(ops:Array Oper)(h:Heap)(o:Oper)(K:EF→Prop)(F:EF):Prop:=
 (cE ops F o=some true∧∃X,DOK P o F h X∧K (gK F o.dst X))∨(cE ops F o=some false∧K (gK F o.dst (.v undef)))
def dOp(P:Program)(ops:Array Oper)(h:Heap)(i:Nat)(K:EF→Prop)(F:EF):Prop:=
 match ops[i]? with
 |none=>K F
 |some o=>vl P ops h o K F
def dList(P:Program)(ops:Array Oper)(h:Heap)(Q:EF→Prop):List Oper→EF→Prop
 | [],F=>Q F
 |o::r,F=>vl P ops h o (dList P ops h Q r) F
theorem EI{o:Oper}{F:EF}{K K' :EF→Prop}(hk:∀F,K F→K' F)(hs:vl P ops h o K F):vl P ops h o K' F:=by
 rcases hs with⟨h1,X,h2,h3⟩|⟨h1,h2⟩
 ·exact .inl ⟨h1,X,h2,hk _ h3⟩
 ·exact .inr ⟨h1,hk _ h2⟩
theorem Cv{i:Nat}{F:EF}{K K' :EF→Prop}(hk:∀F,K F→K' F)(hs:dOp P ops h i K F):dOp P ops h i K' F:=by
 grind [dOp,EI]
def YD(P:Program)(ops:Array Oper)(h:Heap)(o:Oper)(X:AV)(F:EF):Prop:=
 (cE ops F o=some true∧DOK P o F h X)∨(cE ops F o=some false∧X= .v undef)
theorem Cw{o:Oper}{X:AV}{F:EF}{K:EF→Prop}(hy:YD P ops h o X F)(hk:K (gK F o.dst X)):vl P ops h o K F:=by
 rcases hy with⟨h1,h2⟩|⟨h1,rfl⟩
 ·exact .inl ⟨h1,X,h2,hk⟩
 ·exact .inr ⟨h1,hk⟩
theorem Ca{o:Oper}{F:EF}{K:EF→Prop}(hs:vl P ops h o K F):∃X,YD P ops h o X F∧K (gK F o.dst X):=by
 rcases hs with⟨h1,X,h2,h3⟩|⟨h1,h2⟩
 ·exact⟨X,.inl ⟨h1,h2⟩,h3⟩
 ·exact⟨_,.inr ⟨h1,rfl⟩,h2⟩
theorem oY{F:EF}{d:Option Tmp}{x:AV}{t:Nat}(hd:∀e,d=some e→e≠t):gK F d x t=F t:=by
 cases d with
 |none=>rfl
 |some e=>exact ag _ _ ab8
theorem mc(F:EF){x y:Option Tmp}(v u:AV)(hd:∀d,x=some d→y≠some d):gK (gK F x v) y u=gK (gK F y u) x v:=by
 cases x with
 |none=>rfl
 |some d=>cases y with
  |none=>rfl
  |some e=>
   funext t
   simp only[gK,upd]
   grind
theorem zN{o:Oper}{F F' :EF}{X:AV}(hf:∀t∈fc o.op,F t=F' t)(hd:DOK P o F h X):DOK P o F' h X:=
 fun c a hs g hdf hr=>hd c a hs g hdf fun t ht x hx=>hr t ht x ab8
theorem lf{o:Oper}{t:Nat}(ht:t∈fc o.op):t∈o.looksAt ops:=by
 simp only[Oper.looksAt,List.mem_append];exact .inl ht
theorem dX{o:Oper}{F F' :EF}(hf:∀t∈o.looksAt ops,F t=F' t):cE ops F o=cE ops F' o:=by
 grind [cE,Oper.looksAt]
theorem B9{o:Oper}{F F' :EF}{X:AV}(hf:∀t∈o.looksAt ops,F t=F' t)(hy:YD P ops h o X F):YD P ops h o X F' :=by
 rcases hy with⟨h1,h2⟩|⟨h1,h2⟩
 ·exact .inl ⟨afp,zN (by grind [lf]) h2⟩
 ·exact .inr ⟨afp,h2⟩
theorem Na{j:Nat}{oi oj:Oper}{X:AV}(hj:ops[j]? =some oj)(hap:oi.apart ops oj=true){K:EF→Prop}{F:EF}
  (hy:YD P ops h oi X F) (hs:dOp P ops h j K (gK F oi.dst X)):dOp P ops h j (fun F' =>YD P ops h oi X F'∧K (gK F' oi.dst X)) F:=by
 obtain⟨h1,h2,h3⟩:=Oper.apart_spec hap;unfold dOp at*;simp only[hj]at*;have hlook:∀t∈oj.looksAt ops,gK F oi.dst X t=F t:=fun t ht=>oY fun e he hte=>h1 e he (hte▸ht)
 have hlook2:∀u,∀t∈oi.looksAt ops,F t=gK F oj.dst u t:=fun u t ht=>(oY fun e he hte=>h3 e he (hte▸ht)).symm
 rcases hs with⟨w1,Y,w2,w3⟩|⟨w1,w2⟩
 ·refine .inl ⟨afp,Y,zN (by grind [lf]) w2,B9 (hlook2 Y) hy,?_⟩
  rw[←mc F X Y h2];exact w3
 ·refine .inr ⟨afp,B9 (hlook2 _) hy,?_⟩
  rw[←mc F X _ h2];exact w2
theorem HV{i:Nat}{oi:Oper}{X:AV}{F:EF}{K:EF→Prop}(hi:ops[i]? =some oi)(hy:YD P ops h oi X F)(hk:K (gK F oi.dst X)):dOp P ops h i K F:=by
 grind [dOp,Cw]
structure Sys (ops:Array Oper) (S:Nat→(EF→Heap→Prop)→EF→Heap→Prop) (Y:Nat→AV→EF→Prop):Prop where
 mono:∀ {i:Nat} {F:EF} {h:Heap} {K K' :EF→Heap→Prop},(∀F h,K F h→K' F h)→S i K F h→S i K' F h
 of:∀ {i:Nat} {oi:Oper} {X:AV} {F:EF} {h:Heap} {K:EF→Heap→Prop},ops[i]? =some oi→Y i X F→K (gK F oi.dst X) h→S i K F h
 put:∀ {i j:Nat} {oi oj:Oper} {X:AV} {F:EF} {h:Heap} {K:EF→Heap→Prop},ops[i]? =some oi→ops[j]? =some oj→oi.apart ops oj=true→Y i X F→S j K (gK F oi.dst X) h→S j (fun F' h' =>Y i X F'∧K (gK F' oi.dst X) h') F h
def rD(md:Region.Mode)(ops:Array Oper)(S:Nat→(EF→Heap→Prop)→EF→Heap→Prop)(E:Array Bool→Prop)(Q:EF→Heap→Prop):Nat→Array Bool→EF→Heap→Prop
 |0,listed,F,h=>E listed∧Q F h
 |fuel+1,listed,F,h=>Region.ready md ops listed≠ []∧∀i∈Region.ready md ops listed,S i (rD md ops S E Q fuel (listed.setIfInBounds i true)) F h
def Closed(md:Region.Mode)(ops:Array Oper)(listed:Array Bool):Prop:=∀j oj,ops[j]? =some oj→listed.getD j false=true→∀e∈oj.after,Region.binds md e=true→listed.getD e.on false=true
def GZ(md:Region.Mode)(ops:Array Oper)(k:Nat):List Nat:=match ops[k]? with
 |some o=>(o.after.toList.filter (Region.binds md)).map (·.on)
 |none=>[]
def jI(md:Region.Mode)(ops:Array Oper)(s:List Nat):List Nat:=(List.range ops.size).filter fun k=>s.contains k||s.any fun j=>(GZ md ops j).contains k
def Eh(md:Region.Mode)(ops:Array Oper)(z:Nat):Bool:=(List.range ops.size).all fun k=>(jI md ops (jI md ops (jI md ops [z]))).contains k
theorem eV{z:Nat}{listed:Array Bool}(hc:Closed md ops listed)(hz:z∈Region.ready md ops listed){s:List Nat}(hs:∀k∈s,k≠z→listed.getD k false=true):∀k∈jI md ops s,k≠z→listed.getD k false=true:=by
 intro k hk hkz;simp only[jI,List.mem_filter,Bool.or_eq_true,List.contains_iff_mem,List.any_eq_true]at hk;obtain⟨_,h1|⟨j,hj,hp⟩⟩:=hk
 ·grind
 ·unfold GZ at hp
  cases ho:ops[j]? with
  |none=>grind
  |some o=>
   rw[ho]at hp;simp only[List.mem_map,List.mem_filter]at hp;obtain⟨e,⟨he,hb⟩,rfl⟩:=hp
   by_cases hjz:j=z
   ·grind [mem_ready]
   ·exact hc j o ho (hs j hj hjz) e ab8 hb
theorem JP{z:Nat}(hz:Eh md ops z=true){listed:Array Bool}(hc:Closed md ops listed){i:Nat}(h1:z∈Region.ready md ops listed)(h2:i∈Region.ready md ops listed):i=z:=by
 obtain⟨hun,oi,hoi,_⟩:=mem_ready.1 h2;unfold Eh at hz;rw[List.all_eq_true]at hz;have hm:=hz i ab8;rw[List.contains_iff_mem]at hm;have s0:∀k∈ [z],k≠z→listed.getD k false=true:=fun k hk hn=>absurd (by simpa using hk) hn
 have s3:=eV hc h1 (eV hc h1 (eV hc h1 s0))
 by_cases e:i=z
 ·exact e
 ·have:=s3 i hm e
  exfalso
  grind
theorem Closed.set{listed:Array Bool}(hc:Closed md ops listed){j:Nat}(hj:j∈Region.ready md ops listed):Closed md ops (listed.setIfInBounds j true):=by
 have up:∀k,listed.getD k false=true→(listed.setIfInBounds j true).getD k false=true:=fun k hk=>by
  by_cases e:j=k
  ·subst e
   rcases Nat.lt_or_ge j listed.size with h' |h'
   ·simp[h']
   grind
  simp_all
 intro k ok hk hl e he hb
 by_cases hkj:j=k
 ·grind [mem_ready]
 ·rw[getD_set_ne false hkj]at hl
  exact up _ (hc k ok hk hl e he hb)
theorem Closed.none(md:Region.Mode)(ops:Array Oper)(m:Nat):Closed md ops (Array.replicate m false):=fun j oj _ hl=>by
 rcases Nat.lt_or_ge j m with h' |h'
 ·simp_all
 grind
def Ends(md:Region.Mode)(ops:Array Oper)(E:Array Bool→Prop)(i:Nat):Prop:=∀listed,Closed md ops listed→i∈Region.ready md ops listed→E (listed.setIfInBounds i true)→∀j∈Region.ready md ops listed,j=i
def EN(md:Region.Mode)(ops:Array Oper):Option Nat→Array Bool→Bool
 |none,l=>(Region.ready md ops l).isEmpty
 |some z,l=>Region.ready md ops l== [z] && (Region.ready md ops (l.setIfInBounds z true)).isEmpty
def wQ(md:Region.Mode)(ops:Array Oper)(z:Option Nat)(l:Array Bool):Prop:=EN md ops z l=true
theorem xy{z:Option Nat}(hz:∀k,z=some k→Eh md ops k=true)(i:Nat):Ends md ops (wQ md ops z) i:=fun listed hcl hr he j hj=>by
 by_cases e:j=i
 ·exact e
 have hm:=ready_mono hj e;cases z with
 |none=>simp only[wQ,EN,List.isEmpty_iff]at he;rw[he]at hm;cases hm
 |some z=>
  simp only[wQ,EN,Bool.and_eq_true,beq_iff_eq]at he;rw[he.1]at hm;obtain rfl:=List.mem_singleton.1 hm;exact(JP (hz _ rfl) hcl hj hr).symm
theorem Sys.first{S:Nat→(EF→Heap→Prop)→EF→Heap→Prop}{Y:Nat→AV→EF→Prop}(s:Sys ops S Y){E:Array Bool→Prop}{Q:EF→Heap→Prop}{i:Nat}{oi:Oper}{X:AV}(hi:ops[i]? =some oi)(hend:Ends md ops E i):
  ∀(fuel:Nat) (listed:Array Bool) (F:EF) (h:Heap),Closed md ops listed→Region.free md ops listed i=true→
   i∈Region.ready md ops listed→Y i X F→
   rD md ops S E Q fuel (listed.setIfInBounds i true) (gK F oi.dst X) h→rD md ops S E Q (fuel+1) listed F h:=by
 suffices go:∀(fuel:Nat) (listed:Array Bool) (F:EF) (h:Heap),Closed md ops listed→
   (∀j oj,ops[j]? =some oj→j≠i→listed.getD j true=false→(∀e∈oj.after,Region.binds md e=true→e.on≠i)→oi.apart ops oj=true)→
   i∈Region.ready md ops listed→Y i X F→
   rD md ops S E Q fuel (listed.setIfInBounds i true) (gK F oi.dst X) h→rD md ops S E Q (fuel+1) listed F h from
  fun fuel listed F h hcl hf=>go fuel listed F h hcl (Region.free_spec hi hf)
 intro fuel
 induction fuel with
 |zero=>
  intro listed F h hcl _ hr hy H;refine⟨fun e=>(by rw[e]at hr;cases hr),fun j hj=>?_⟩
  obtain rfl:=hend listed hcl hr H.1 j hj;exact s.of hi hy H
 |succ fuel ih=>
  intro listed F h hcl hfree hr hy H;refine⟨fun e=>(by rw[e]at hr;cases hr),fun j hj=>?_⟩
  by_cases hji:j=i
  ·subst hji;exact s.of hi hy H
  ·have h1:=H.2 j (ready_mono hj hji)
   obtain⟨hjun,oj,hoj,hall⟩:=mem_ready.1 hj;have hnot:∀e∈oj.after,Region.binds md e=true→e.on≠i:=fun e he hb heq=>by
    grind [mem_ready,Nat.lt_or_ge,Array.getElem?_eq_none]
   refine s.mono (fun F' h' h3=>ih (listed.setIfInBounds j true) F' h' (hcl.set hj) (fun k ok hk hki hun hno=>hfree k ok hk hki ?_ hno) (ready_mono hr (Ne.symm hji)) h3.1 ?_) (s.put hi hoj (hfree j oj hoj hji hjun hnot) hy h1)
   ·by_cases hjk:j=k
    ·grind
    simp_all
   ·rw[Array.setIfInBounds_comm _ _ hji]
    exact h3.2
def dS(P:Program)(ops:Array Oper)(h:Heap)(i:Nat)(K:EF→Heap→Prop)(F:EF)(g:Heap):Prop:=dOp P ops h i (fun F=>K F g) F
theorem Wp:Sys ops (dS P ops h) fun i X F=>∃oi,ops[i]? =some oi∧YD P ops h oi X F where
 mono hk hs:=Cv (fun F=>hk F _) hs
 of hi:=fun⟨o,ho,hy⟩ hk=>by rw[hi]at ho;cases ho;exact HV hi hy hk
 put hi hj ha:=fun⟨o,ho,hy⟩ hs=>by
  rw[hi]at ho;cases ho
  exact Cv (fun F' ⟨a,b⟩=>⟨⟨_,hi,a⟩,b⟩) (Na hj ha hy hs)
def Ld(md:Region.Mode)(ops:Array Oper)(z:Option Nat):Nat→Nat→Array Bool→Bool
 |0,_,listed=>EN md ops z listed
 |fuel+1,k,listed=>(Region.ready md ops listed).contains k && Region.free md ops listed k && Ld md ops z fuel (k+1) (listed.setIfInBounds k true)
theorem xo{Q:EF→Prop}{z:Option Nat}(hz:∀k,z=some k→Eh md ops k=true):∀(l:List Oper) (k:Nat) (listed:Array Bool) (F:EF) (g:Heap),Closed md ops listed→(∀j,j<l.length→l[j]? =ops[k+j]?)→
  Ld md ops z l.length k listed=true→dList P ops h Q l F→rD md ops (dS P ops h) (wQ md ops z) (fun F _=>Q F) l.length listed F g
 | [],_,_,_,_,_,_,hB,hd=>⟨hB,hd⟩
 |o::l,k,listed,F,g,hcl,hl,hB,hd=>by
  have h0:ops[k]? =some o:=by simpa using(hl 0 aci).symm
  simp only[List.length_cons,Ld,Bool.and_eq_true]at hB;obtain⟨⟨hr,hf⟩,hB'⟩:=hB;obtain⟨X,hy,hK⟩:=Ca hd;have hin:k∈Region.ready md ops listed:=ab8;exact Wp.first h0 (xy hz k) l.length listed F g hcl hf hin ⟨o,h0,hy⟩
   (xo hz l (k+1) _ _ g (hcl.set hin) (fun j hj=>by have:=hl (j+1) ab8;simpa[Nat.add_assoc,Nat.add_comm 1 j]using this) hB' hK)
def mg(c:Cx)(n:Nat)(F:EF)(a:Act):Prop:=a.tmps.size=n∧a.defers= []∧∀t x,F t=some x→Rep c x (a.tmps.getD t undef)
theorem mg.put{c:Cx}{n:Nat}{F:EF}{a:Act}(he:mg c n F a){d:Option Tmp}(hd:eS n d=true){x:AV}{u:Value}(hx:Rep c x u):mg c n (gK F d x) (a.put d u):=by
 obtain⟨h1,h2,h3⟩:=he;cases d with
 |none=>exact⟨h1,h2,h3⟩
 |some d=>
  have hd' :d<a.tmps.size:=by rw[h1];exact abZ hd
  refine⟨by grind [Act.put],h2,fun t y hy=>?_⟩
  simp only[gK,upd]at hy;split at hy
  ·exact ahA
  ·rename_i e
   have:=h3 t y hy;have e' :¬d=t:=fun h=>e h.symm
   simpa[Act.put,Array.getElem?_setIfInBounds_ne e']using this
theorem mg.mono{c c' :Cx}{n:Nat}{F:EF}{a:Act}(he:Ext c c')(hf:mg c n F a):mg c' n F a:=⟨hf.1,hf.2.1,fun t x hx=>(hf.2.2 t x hx).mono he⟩
theorem jW{c:Cx}{n:Nat}{F:EF}{a:Act}{o:Oper}{b:Bool}(he:mg c n F a)(hw:cE ops F o=some b):Region.wanted o (yielded ops a.tmps)=b:=by
 unfold cE at hw;split at hw
 ·grind [Option.some.injEq,Region.wanted]
 ·rename_i g want hg
  split at hw
  ·rename_i d hd
   split at hw
   ·rename_i t ht
    simp only[Option.some.injEq]at hw;subst hw
    have h1:=(he.2.2 d _ ht).bT;have h2:a.tmps[d]? =some (.bool t):=by
     by_cases hlt:d<a.tmps.size
     ·simp_all
     grind [undef,Nat.le_of_not_lt]
    have h3:yielded ops a.tmps g=some t:=by grind [yielded]
    simp[Region.wanted,hg,h3]
   ·rename_i vs ht
    simp only[Option.some.injEq]at hw;subst hw
    have h1:=(he.2.2 d _ ht).bT;have h3:yielded ops a.tmps g=none:=by
     by_cases hlt:d<a.tmps.size
     ·simp_all [some,yielded]
     simp_all [none,Nat.le_of_not_lt,yielded]
    simp[Region.wanted,hg,h3]
   grind
  grind
theorem HW{n:Nat}{i:Nat}{K:EF→Prop}{K' :Act→World→Prop}{Q:Exit→Act→World→Prop}{c0:Cx}(hdst:∀o∈ops.toList,eS n o.dst=true)
  (hk:∀c F a,Ext c0 c→Sub h c.h→Good c→mg c n F a→K F→K' a c.w) {c:Cx} {F:EF} {a:Act} (hE:Ext c0 c) (hs:Sub h c.h) (g:Good c) (he:mg c n F a) (hd:dOp P ops h i K F):wpOp P ops Q i K' a c.w:=by
 unfold dOp at hd;unfold wpOp;split
 ·rename_i ho;simp only[ho]at hd;exact hk c F a hE hs g he hd
 ·rename_i o ho
  simp only[ho]at hd;have hdo:eS n o.dst=true:=ab8;rcases hd with⟨h1,X,h2,h3⟩|⟨h1,h2⟩
  ·rw[if_pos (jW he h1)]
   left
   have hu:=h2 c a hs g he.2.1 (fun t _ x hx=>he.2.2 t x hx)
   have next:∀u w',(∃c',c'.w=w'∧Good c'∧Ext c c'∧Sub h c'.h∧Rep c' X u)→K' (a.put o.dst u) w' :=by
    rintro u w' ⟨c',rfl,k1,k2,k3,k4⟩
    exact hk c' _ _ (hE.trans k2) k3 k1 ((he.mono k2).put hdo k4) h3
   unfold Oper.wp;generalize (execOp a.eval o).run P c.w=r at hu;cases r with
   |ok nx w' =>
    cases nx<;>simp only[DUpon]at hu<;>simp only[Oper.upon]
    case value u=>exact next u w' hu
    case skip=>exact next undef w' hu
    case enter f args=>
     obtain⟨rfl,hc⟩:=hu;exact hc.mono fun e w'' ⟨u,he,hcm⟩=>ab8
   |halt x w' =>exact hu.elim
  ·rw[if_neg (by grind [jW])]
   exact hk c _ _ hE hs g (he.put hdo (.v _)) h2
theorem oI{S:Nat→(EF→Heap→Prop)→EF→Heap→Prop}{E:Array Bool→Prop}{Q:EF→Heap→Prop}{Q' :Exit→Act→World→Prop}{T:Array Bool→Cx→EF→Heap→Act→Prop}{m:Nat}
  (hst:∀listed i K c F h a (K' :Act→World→Prop),T listed c F h a→i∈Region.ready md ops listed→S i K F h→(∀c F h a,T (listed.setIfInBounds i true) c F h a→K F h→K' a c.w)→wpOp P ops Q' i K' a c.w)
  (h0:∀listed c F h a,T listed c F h a→E listed→Q F h→wpAny P md ops Q' m listed a c.w):∀(fuel:Nat) (listed:Array Bool) (c:Cx) (F:EF) (h:Heap) (a:Act),T listed c F h a→rD md ops S E Q fuel listed F h→wpAny P md ops Q' (m+fuel) listed a c.w
 |0,listed,c,F,h,a,ht,hd=>h0 _ _ _ _ _ ht hd.1 hd.2
 |fuel+1,listed,c,F,h,a,ht,hd=>⟨fun e=>absurd e hd.1,fun i hi=>hst _ _ _ _ _ _ _ _ ht hi (hd.2 i hi) fun c F h a ht hk=>oI hst h0 fuel _ c F h a ht hk⟩
theorem xp{n m:Nat}{E:Array Bool→Prop}{Q:EF→Heap→Prop}{Q' :Exit→Act→World→Prop}{c0:Cx}(hdst:∀o∈ops.toList,eS n o.dst=true)
  (h0:∀listed c F g a,Ext c0 c→Sub h c.h→Good c→mg c n F a→E listed→Q F g→wpAny P md ops Q' m listed a c.w) (fuel:Nat) (listed:Array Bool) (c:Cx) (F:EF) (g:Heap) (a:Act) (h1:Ext c0 c) (h2:Sub h c.h) (h3:Good c) (h4:mg c n F a)
  (hd:rD md ops (dS P ops h) E Q fuel listed F g):wpAny P md ops Q' (m+fuel) listed a c.w:=
 oI (T:=fun _ c F _ a=>Ext c0 c∧Sub h c.h∧Good c∧mg c n F a) (fun _ _ _ _ _ _ _ _ ⟨h1,h2,h3,h4⟩ _ hd hk=>HW hdst (fun c F a k1 k2 k3 k4 hK=>hk c F _ a ⟨k1,k2,k3,k4⟩ hK) h1 h2 h3 h4 hd)
  (fun listed c F g a ⟨k1,k2,k3,k4⟩ he hq=>h0 listed c F g a k1 k2 k3 k4 he hq) fuel listed c F g a ⟨h1,h2,h3,h4⟩ hd
end
section
variable {P : Program} {U : TypeId → TI} {ops : Array Oper} {md : Region.Mode} {hm : Heap}
def dN:Op→Bool
 |.call c=>match c.callee with
  |.value _=>true
  |.builtin .append=>true
  |.builtin .copy=>true
  |_=>false
 |.alloc _=>true
 |.box _ _=>true
 |.store _ _ _=>true
 |.makeSlice _ _ _=>true
 |.makeMap _ _=>true
 |.mapUpdate _ _ _ _=>true
 |_=>false
def DPure(P:Program)(o:Oper)(F:EF)(hm:Heap)(X:AV):Prop:=
 ∀(c:Cx) (a:Act),Sub hm c.h→Good c→a.defers= []→(∀t∈fc o.op,∀x,F t=some x→Rep c x (a.tmps.getD t undef))→
  ∃u c',(execOp a.eval o).run P c.w= .ok (.value u) c'.w∧Good c'∧Ext c c'∧c'.h=c.h∧Rep c' X u
def EOK(P:Program)(o:Oper)(F:EF)(h:Heap)(Q:AV→Heap→Prop):Prop:=
 ∀(c:Cx) (a:Act),Sub h c.h→Good c→a.defers= []→(∀t∈fc o.op,∀x,F t=some x→Rep c x (a.tmps.getD t undef))→lN P c Q ((execOp a.eval o).run P c.w)
theorem sJ{c:Cx}{a:Act}{ρ:Env}{o:Oper}(hd:a.defers= [])(hr:∀t∈fc o.op,∀x,lk ρ t=some x→Rep c x (a.tmps.getD t undef)):cq c a.tmps.size (restrict ρ (fc o.op)) a:=
 ⟨rfl,hd,fun t x hx=>by
  rw[kW]at hx;split at hx
  ·rename_i hc
   exact hr t ab8 x hx
  ·cases hx⟩
theorem vp(ρ:Env)(o:Oper):∀x∈o.op.operands,ev (restrict ρ (fc o.op)) x=ev ρ x:=fun x hx=>CH fun t ht=>by
 exact ahs
theorem FB{ρ:Env}{o:Oper}{Q:AV→Prop}(hU:∀t,aN P U t)(hp:pv U ρ hm o.op Q):∃X,Q X∧DPure P o (lk ρ) hm X:=by
 rw[←DE (vp ρ o)]at hp;obtain⟨X,hQ,hX⟩:=yD hU hp;exact⟨X,hQ,fun c a hs g hd hr=>hX c a _ hs g (sJ hd hr)⟩
theorem Ed{ρ ρ' :Env}{h:Heap}{o:Oper}{Q:AV→Heap→Prop}(hb:dN o.op=true)(he:∀x∈o.op.operands,ev ρ x=ev ρ' x):aZ P U ρ h o Q=aZ P U ρ' h o Q:=by
 obtain⟨d,op,t,p,a,g⟩:=o;simp only at hb he;cases op with
 |alloc t=>rfl
 |box t x=>simp only[aZ,withv,he x adw]
 |store t a x=>simp only[aZ,withv,he a adw,he x adw]
 |makeSlice t l m=>simp only[aZ,withv,he l adw,he m adw]
 |makeMap t r=>
  cases r with
  |none=>rfl
  |some x=>simp only[aZ,Hl,withv,he x adw]
 |mapUpdate t x y z=>simp only[aZ,withv,he x adw,he y adw,he z adw]
 |call c=>
  obtain⟨cal,args,ts⟩:=c;have ha:∀x∈args.toList,ev ρ x=ev ρ' x:=fun x hx=>he x (by simp only[Op.operands,Call.operands,Array.mem_append];exact .inr (by simpa using hx))
  cases cal with
  |value q=>
   simp only[aZ,withv,withvs,he q (by simp[Op.operands,Call.operands]),lW ha]
  |builtin b=>
   cases b with
   |append=>
    exact ahh
   |copy=>
    exact ahh
   |_=>simp[dN]at hb
  |_=>simp[dN]at hb
 |_=>simp[dN]at hb
def vcE(P:Program)(U:TypeId→TI)(ρ:Env)(h:Heap)(o:Oper)(Q:AV→Heap→Prop):Prop:=aZ P U ρ h o Q
theorem A3{ρ:Env}{h:Heap}{o:Oper}{Q:AV→Heap→Prop}(hU:∀t,aN P U t)(hb:dN o.op=true)(hk:vcE P U ρ h o Q):EOK P o (lk ρ) h Q:=by
 intro c a hs g hd hr;unfold vcE at hk;rw[←Ed hb (vp ρ o)]at hk;exact mK hU hk hs g (sJ hd hr)
def DQ(P:Program)(o:Oper)(F:EF)(hm:Heap)(X:AV):Prop:=∀h,Sub hm h→EOK P o F h fun x h' =>x=X∧h' =h
theorem DPure.quiet{o:Oper}{F:EF}{X:AV}(hp:DPure P o F hm X):DQ P o F hm X:=by
 intro h hs c a hc g hd hr;obtain⟨u,c',e1,g',hE,e2,hr'⟩:=hp c a (fun i b hb=>hc i b (hs i b hb)) g hd hr
 rw[e1];exact⟨c',X,h,rfl,g',hE,hr',ab8,rfl,rfl⟩
def FnQ(P:Program)(f:FuncId)(args:List AV)(hm:Heap)(k:AV→Prop):Prop:=∃X,(∀h,Sub hm h→ai P f args h fun x h' =>x=X∧h' =h)∧k X
def vcQ(P:Program)(U:TypeId→TI)(ρ:Env)(hm:Heap)(o:Oper)(k:AV→Prop):Prop:=match o.op with
 |.call c=>match c.callee with
  |.value q=>withv ρ q fun y=>match y with
   |.fn f cap=>withvs ρ c.args.toList fun ys=>FnQ P f (ys++cap) hm k
   |_=>False
  |_=>False
 |_=>False
theorem JK{ρ:Env}{o:Oper}{k:AV→Prop}(hU:∀t,aN P U t)(hk:vcQ P U ρ hm o k):∃X,k X∧DQ P o (lk ρ) hm X:=by
 obtain⟨d,op,t,p,a,g⟩:=o;unfold vcQ at hk;simp only at hk;split at hk
 ·rename_i cl
  obtain⟨cal,args,ts⟩:=cl;simp only at hk;split at hk
  ·rename_i q
   obtain⟨y,hy,hk⟩:=aI hk;split at hk
   ·rename_i f cap
    obtain⟨ys,hys,X,hf,hQ⟩:=fl hk;refine⟨X,hQ,fun h hs=>A3 hU rfl ?_⟩
    grind [vcE,aZ,withv,withvs]
   grind
  grind
 grind
def vB(P:Program)(ops:Array Oper)(hm:Heap)(o:Oper)(K:EF→Heap→Prop)(F:EF)(h:Heap):Prop:=
 (cE ops F o=some true∧(dN o.op=true∧(∃Q:AV→Heap→Prop,EOK P o F h Q∧∀X h',Q X h'→Sub hm h'∧K (gK F o.dst X) h')∨∃X,DQ P o F hm X∧K (gK F o.dst X) h))∨
 (cE ops F o=some false∧K (gK F o.dst (.v undef)) h)
def hOp(P:Program)(ops:Array Oper)(hm:Heap)(i:Nat)(K:EF→Heap→Prop)(F:EF)(h:Heap):Prop:=
 match ops[i]? with
 |none=>K F h
 |some o=>vB P ops hm o K F h
theorem E2{o:Oper}{F:EF}{h:Heap}{K K' :EF→Heap→Prop}(hk:∀F h,K F h→K' F h)(hs:vB P ops hm o K F h):vB P ops hm o K' F h:=by
 rcases hs with⟨h1,⟨h2,Q,h3,h4⟩|⟨X,h3,h4⟩⟩|⟨h1,h2⟩
 ·exact .inl ⟨h1,.inl ⟨h2,Q,h3,fun X h' hq=>⟨(h4 X h' hq).1,hk _ _ (h4 X h' hq).2⟩⟩⟩
 ·exact .inl ⟨h1,.inr ⟨X,h3,hk _ _ h4⟩⟩
 ·exact .inr ⟨h1,hk _ _ h2⟩
theorem kT{i:Nat}{F:EF}{h:Heap}{K K' :EF→Heap→Prop}(hk:∀F h,K F h→K' F h)(hs:hOp P ops hm i K F h):hOp P ops hm i K' F h:=by
 grind [hOp,E2]
def YP(P:Program)(ops:Array Oper)(hm:Heap)(o:Oper)(X:AV)(F:EF):Prop:=
 (cE ops F o=some true∧DQ P o F hm X)∨(cE ops F o=some false∧X= .v undef)
theorem CW{o:Oper}{X:AV}{F:EF}{h:Heap}{K:EF→Heap→Prop}(hy:YP P ops hm o X F)(hk:K (gK F o.dst X) h):vB P ops hm o K F h:=by
 rcases hy with⟨h1,h3⟩|⟨h1,rfl⟩
 ·exact .inl ⟨h1,.inr ⟨X,h3,hk⟩⟩
 ·exact .inr ⟨h1,hk⟩
theorem Cb{o:Oper}{F:EF}{h:Heap}{K:EF→Heap→Prop}(he:dN o.op=false)(hs:vB P ops hm o K F h):∃X,YP P ops hm o X F∧K (gK F o.dst X) h:=by
 rcases hs with⟨h1,⟨h2,_⟩|⟨X,h3,h4⟩⟩|⟨h1,h2⟩
 ·grind
 ·exact⟨X,.inl ⟨h1,h3⟩,h4⟩
 ·exact⟨_,.inr ⟨h1,rfl⟩,h2⟩
theorem OD{o:Oper}{F F' :EF}{X:AV}(hf:∀t∈fc o.op,F t=F' t)(hd:DPure P o F hm X):DPure P o F' hm X:=
 fun c a hs g hdf hr=>hd c a hs g hdf fun t ht x hx=>hr t ht x ab8
theorem zO{o:Oper}{F F' :EF}{h:Heap}{Q:AV→Heap→Prop}(hf:∀t∈fc o.op,F t=F' t)(hd:EOK P o F h Q):EOK P o F' h Q:=
 fun c a hs g hdf hr=>hd c a hs g hdf fun t ht x hx=>hr t ht x ab8
theorem B4{o:Oper}{F F' :EF}{X:AV}(hf:∀t∈fc o.op,F t=F' t)(hd:DQ P o F hm X):DQ P o F' hm X:=fun h hs=>zO hf (hd h hs)
theorem wU{o:Oper}{F F' :EF}{X:AV}(hf:∀t∈o.looksAt ops,F t=F' t)(hy:YP P ops hm o X F):YP P ops hm o X F' :=by
 rcases hy with⟨h1,h2⟩|⟨h1,h2⟩
 ·exact .inl ⟨afp,B4 (by grind [lf]) h2⟩
 ·exact .inr ⟨afp,h2⟩
theorem Nr{hm hm' :Heap}{j:Nat}{oi oj:Oper}{X:AV}(hj:ops[j]? =some oj)(hap:oi.apart ops oj=true){K:EF→Heap→Prop}{F:EF}{h:Heap}
  (hy:YP P ops hm' oi X F) (hs:hOp P ops hm j K (gK F oi.dst X) h):hOp P ops hm j (fun F' h' =>YP P ops hm' oi X F'∧K (gK F' oi.dst X) h') F h:=by
 obtain⟨h1,h2,h3⟩:=Oper.apart_spec hap;unfold hOp at*;simp only[hj]at*;have hlook:∀t∈oj.looksAt ops,gK F oi.dst X t=F t:=fun t ht=>oY fun e he hte=>h1 e he (hte▸ht)
 have hlook2:∀u,∀t∈oi.looksAt ops,F t=gK F oj.dst u t:=fun u t ht=>(oY fun e he hte=>h3 e he (hte▸ht)).symm
 rcases hs with⟨w1,⟨w0,Q,w2,w3⟩|⟨Y,w2,w3⟩⟩|⟨w1,w2⟩
 ·refine .inl ⟨afp,.inl ⟨w0,Q,zO (by grind [lf]) w2,fun Y h' hq=>⟨(w3 Y h' hq).1,wU (hlook2 Y) hy,?_⟩⟩⟩
  rw[←mc F X Y h2];exact(w3 Y h' hq).2
 ·refine .inl ⟨afp,.inr ⟨Y,B4 (by grind [lf]) w2,wU (hlook2 Y) hy,?_⟩⟩
  rw[←mc F X Y h2];exact w3
 ·refine .inr ⟨afp,wU (hlook2 _) hy,?_⟩
  rw[←mc F X _ h2];exact w2
theorem IF{i:Nat}{oi:Oper}{X:AV}{F:EF}{h:Heap}{K:EF→Heap→Prop}(hi:ops[i]? =some oi)(hy:YP P ops hm oi X F)(hk:K (gK F oi.dst X) h):hOp P ops hm i K F h:=by
 grind [hOp,CW]
def hS(P:Program)(ops:Array Oper)(H:Nat→Heap)(i:Nat)(K:EF→Heap→Prop)(F:EF)(h:Heap):Prop:=hOp P ops (H i) i K F h
theorem TR{H:Nat→Heap}:Sys ops (hS P ops H) fun i X F=>∃oi,ops[i]? =some oi∧YP P ops (H i) oi X F where
 mono hk hs:=kT hk hs
 of hi:=fun⟨o,ho,hy⟩ hk=>by rw[hi]at ho;cases ho;exact IF hi hy hk
 put hi hj ha:=fun⟨o,ho,hy⟩ hs=>by
  rw[hi]at ho;cases ho
  exact kT (fun F' h' ⟨a,b⟩=>⟨⟨_,hi,a⟩,b⟩) (Nr hj ha hy hs)
def nK(md:Region.Mode)(ops:Array Oper):List Nat→Array Bool→Bool
 | [],_=>true
 |k::ks,listed=>(match ops[k]? with
  |some o=>if dN o.op then Region.ready md ops listed== [k]else(Region.ready md ops listed).contains k && Region.free md ops listed k
  |none=>false) && nK md ops ks (listed.setIfInBounds k true)
def fI:List Nat→Array Bool→Array Bool
 | [],l=>l
 |k::ks,l=>fI ks (l.setIfInBounds k true)
def mA(P:Program)(ops:Array Oper)(H:Nat→Heap)(Q:EF→Heap→Prop):List Nat→EF→Heap→Prop
 | [],F,h=>Q F h
 |i::r,F,h=>hOp P ops (H i) i (mA P ops H Q r) F h
theorem jz{H:Nat→Heap}{E:Array Bool→Prop}{Q:EF→Heap→Prop}(m:Nat):∀(l:List Nat) (listed:Array Bool) (F:EF) (h:Heap),(∀i∈l,Ends md ops E i)→Closed md ops listed→
  nK md ops l listed=true→mA P ops H (fun F h=>rD md ops (hS P ops H) E Q m (fI l listed) F h) l F h→rD md ops (hS P ops H) E Q (m+l.length) listed F h
 | [],_,_,_,_,_,_,hd=>hd
 |k::l,listed,F,h,hE,hcl,hB,hd=>by
  simp only[nK,Bool.and_eq_true]at hB;obtain⟨hB,hB'⟩:=hB;have hE' :∀i∈l,Ends md ops E i:=fun i hi=>hE i (List.mem_cons_of_mem _ hi)
  cases h0:ops[k]? with
  |none=>grind
  |some o=>
   rw[h0]at hB;simp only at hB;cases he:dN o.op with
   |true=>
    refine⟨fun e=>ab8,fun j hj=>?_⟩
    obtain rfl:j=k:=ab8;exact kT (fun F' h' hh=>jz m l _ F' h' hE' (hcl.set ab8) hB' hh) hd
   |false=>
    rw[he,if_neg aci,Bool.and_eq_true]at hB;have hd:vB P ops (H k) o (mA P ops H (fun F h=>rD md ops (hS P ops H) E Q m (fI (k::l) listed) F h) l) F h:=by
     grind [hOp,mA]
    obtain⟨X,hy,hK⟩:=Cb he hd;have hin:k∈Region.ready md ops listed:=ab8;exact TR.first h0 (hE k (List.mem_cons_self ..)) (m+l.length) listed F h hcl hB.2 hin ⟨o,h0,hy⟩ (jz m l _ _ _ hE' (hcl.set hin) hB' hK)
theorem jl{H:Nat→Heap}{Q Q' :EF→Heap→Prop}(hk:∀F h,Q F h→Q' F h):∀(l:List Nat) (F:EF) (h:Heap),mA P ops H Q l F h→mA P ops H Q' l F h
 | [],F,h,hh=>hk F h hh
 |_::l,_,_,hh=>kT (fun F h hh=>jl hk l F h hh) hh
inductive Ord where
 |seq (l:List Nat)
 |fork (l:List Nat) (i:Nat) (a:Ord) (j:Nat) (b:Ord)
 |quiet (l:List Nat) (i:Nat) (t:Ord)
 |news (l:List Nat) (is:List Nat) (t:Ord)
def yy(md:Region.Mode)(ops:Array Oper):Nat→List Nat→Array Bool→Bool
 |0,l,_=>l.isEmpty
 |fuel+1,l,listed=>l.isEmpty||(!(Region.ready md ops listed).isEmpty && (Region.ready md ops listed).all fun i=>l.contains i && yy md ops fuel (l.erase i) (listed.setIfInBounds i true))
def O7(o:Oper):Bool:=o.guard.isNone && o.dst.isSome && match o.op with
 |.alloc _=>true
 |_=>false
def Lo(md:Region.Mode)(ops:Array Oper)(is:List Nat)(listed:Array Bool):Bool:=
 yy md ops is.length is listed && decide is.Nodup && decide (is.map fun i=>(ops[i]?).bind (·.dst)).Nodup && is.all fun i=>((ops[i]?).map O7).getD false
def Ord.len:Ord→Nat
 |.seq l=>l.length
 |.fork l _ a _ _=>a.len+1+l.length
 |.quiet l _ t=>t.len+1+l.length
 |.news l is t=>t.len+is.length+l.length
def jQ(md:Region.Mode)(ops:Array Oper)(z:Option Nat):Ord→Array Bool→Bool
 |.seq l,listed=>nK md ops l listed && EN md ops z (fI l listed)
 |.fork l i a j b,listed=>nK md ops l listed && (Region.ready md ops (fI l listed)== [i,j]) && (a.len==b.len) &&
  (jQ md ops z a ((fI l listed).setIfInBounds i true) && jQ md ops z b ((fI l listed).setIfInBounds j true))
 |.quiet l i t,listed=>nK md ops l listed && (((Region.ready md ops (fI l listed)).contains i && Region.free md ops (fI l listed) i) && jQ md ops z t ((fI l listed).setIfInBounds i true))
 |.news l is t,listed=>nK md ops l listed && (Lo md ops is (fI l listed) && jQ md ops z t (fI is (fI l listed)))
theorem iX:∀(l:List Nat) (listed:Array Bool),Closed md ops listed→nK md ops l listed=true→Closed md ops (fI l listed)
 | [],_,hc,_=>hc
 |k::l,listed,hc,hB=>by
  simp only[nK,Bool.and_eq_true]at hB;obtain⟨hB,hB'⟩:=hB;refine iX l _ (hc.set ?_) hB'
  grind
theorem uj{n:Nat}{i:Nat}{K:EF→Heap→Prop}{K' :Act→World→Prop}{Q:Exit→Act→World→Prop}{c0:Cx}(hdst:∀o∈ops.toList,eS n o.dst=true)
  (hk:∀c F h a,Ext c0 c→Sub h c.h→Sub hm c.h→Good c→mg c n F a→K F h→K' a c.w) {c:Cx} {F:EF} {h:Heap} {a:Act} (hE:Ext c0 c) (hs:Sub h c.h) (hs' :Sub hm c.h) (g:Good c) (he:mg c n F a) (hd:hOp P ops hm i K F h):wpOp P ops Q i K' a c.w:=by
 unfold hOp at hd;unfold wpOp;split
 ·rename_i ho;simp only[ho]at hd;exact hk c F h a hE hs hs' g he hd
 ·rename_i o ho
  simp only[ho]at hd;have hdo:eS n o.dst=true:=ab8;have main:∀ {h0:Heap} {R:AV→Heap→Prop},Sub h0 c.h→EOK P o F h0 R→(∀c' x h',Good c'→Ext c c'→Sub h' c'.h→R x h'→∀u,Rep c' x u→K' (a.put o.dst u) c'.w)→Oper.wp P o a c.w K' Q:=by
   intro h0 R hs h2 next';have hu:=h2 c a hs g he.2.1 (fun t _ x hx=>he.2.2 t x hx)
   have next:∀u w',eT c R u w'→K' (a.put o.dst u) w' :=by
    rintro u w' ⟨c',x,h',rfl,g',hE',hr,hs2,hR⟩
    exact next' c' x h' g' hE' hs2 hR u hr
   unfold Oper.wp;generalize (execOp a.eval o).run P c.w=r at hu;cases r with
   |ok nx w' =>
    exact ags
   |halt x w' =>exact hu.elim
  rcases hd with⟨h1,⟨h0,R,h2,h3⟩|⟨X,h2,h3⟩⟩|⟨h1,h2⟩
  ·rw[if_pos (jW he h1)]
   left
   refine main hs h2 fun c' x h' g' hE' hs2 hR u hr=>?_
   obtain⟨k1,k2⟩:=h3 x h' hR;exact hk c' _ h' _ (hE.trans hE') hs2 (fun j b hj=>hs2 _ _ (k1 _ _ hj)) g' ((he.mono hE').put hdo hr) k2
  ·rw[if_pos (jW he h1)]
   left
   refine main (fun _ _ e=>e) (h2 c.h hs') fun c' x h' g' hE' hs2 hR u hr=>?_
   obtain⟨rfl,rfl⟩:=hR;exact hk c' _ h _ (hE.trans hE') (fun j b hj=>hs2 _ _ (hs _ _ hj)) (fun j b hj=>hs2 _ _ (hs' _ _ hj)) g' ((he.mono hE').put hdo hr) h3
  ·rw[if_neg (by grind [jW])]
   exact hk c _ h _ hE hs hs' g (he.put hdo (.v _)) h2
theorem oL{n m:Nat}{E:Array Bool→Prop}{Q:EF→Heap→Prop}{Q' :Exit→Act→World→Prop}{c0:Cx}(hdst:∀o∈ops.toList,eS n o.dst=true)
  (h0:∀listed c F h a,Ext c0 c→Sub h c.h→Good c→mg c n F a→E listed→Q F h→wpAny P md ops Q' m listed a c.w) (fuel:Nat) (listed:Array Bool) (c:Cx) (F:EF) (h:Heap) (a:Act) (h1:Ext c0 c) (h2:Sub h c.h) (h2' :Sub hm c.h) (h3:Good c) (h4:mg c n F a)
  (hd:rD md ops (hS P ops fun _=>hm) E Q fuel listed F h):wpAny P md ops Q' (m+fuel) listed a c.w:=
 oI (T:=fun _ c F h a=>Ext c0 c∧Sub h c.h∧Sub hm c.h∧Good c∧mg c n F a) (fun _ _ _ _ _ _ _ _ ⟨h1,h2,h2',h3,h4⟩ _ hd hk=>uj hdst (fun c F h a k1 k2 k2' k3 k4 hK=>hk c F h a ⟨k1,k2,k2',k3,k4⟩ hK) h1 h2 h2' h3 h4 hd)
  (fun listed c F h a ⟨k1,k2,_,k3,k4⟩ he hq=>h0 listed c F h a k1 k2 k3 k4 he hq) fuel listed c F h a ⟨h1,h2,h2',h3,h4⟩ hd
def Ge(md:Region.Mode)(ops:Array Oper)(l:List Nat):Bool:=(List.range ops.size).all fun j=>l.contains j||l.all fun k=>(jI md ops (jI md ops (jI md ops [j]))).contains k
theorem Et{l:List Nat}(hb:Ge md ops l=true){listed:Array Bool}(hc:Closed md ops listed){j:Nat}(hj:j∈Region.ready md ops listed)(hl:j∉l):∀k∈l,listed.getD k false=true:=by
 intro k hk;obtain⟨hun,oj,hoj,_⟩:=mem_ready.1 hj;unfold Ge at hb;rw[List.all_eq_true]at hb;have hm:=hb j ab8;rw[Bool.or_eq_true,List.contains_iff_mem]at hm;rcases hm with hm|hm
 ·exact(hl hm).elim
 ·have s0:∀k∈ [j],k≠j→listed.getD k false=true:=fun k hk hn=>absurd (by simpa using hk) hn
  have s3:=eV hc hj (eV hc hj (eV hc hj s0));rw[List.all_eq_true]at hm;have:=hm k hk;rw[List.contains_iff_mem]at this;exact s3 k this fun e=>hl (e▸hk)
theorem KA{fin:Array Bool}{l:List Nat}(hb:Ge md ops l=true)(hfin:∀j∈l,fin.getD j false=true):∀i∈l,Ends md ops (· =fin) i:=fun i hil listed hcl hr he j hj=>by
 by_cases hji:j=i
 ·exact hji
 exfalso
 have hiu:=(mem_ready.1 hr).1;have hju:=(mem_ready.1 hj).1
 by_cases hjl:j∈l
 ·have h1:=hfin j hjl
  rw[←he,getD_set_ne false (Ne.symm hji)]at h1;rcases Nat.lt_or_ge j listed.size with h' |h'
  ·simp[h']at h1 hju;rw[hju]at h1;cases h1
  ·simp[Array.getElem?_eq_none h']at h1
 ·have h1:=Et hb hcl hj hjl i hil
  rcases Nat.lt_or_ge i listed.size with h' |h'
  ·simp[h']at h1 hiu;rw[hiu]at h1;cases h1
  ·simp[Array.getElem?_eq_none h']at h1
def wM(md:Region.Mode)(ops:Array Oper)(l1 l2:List Nat):Bool:=
 nK md ops l1 (Array.replicate ops.size false) && Ge md ops l1 && (l1.all fun j=>(fI l1 (Array.replicate ops.size false)).getD j false) && jQ md ops none (.seq l2) (fI l1 (Array.replicate ops.size false)) && (l2.length+l1.length==ops.size)
def Ec(P:Program)(U:TypeId→TI)(hm:Heap)(o:Oper)(ρ:Env)(h:Heap)(K:AV→Heap→Prop):Prop:=
 if dN o.op then vcE P U ρ h o (fun X h' =>Sub hm h'∧K X h')else pv U ρ hm o.op (fun X=>K X h)
def dL(P:Program)(U:TypeId→TI)(n:Nat)(all:List Oper)(hm:Heap):List Nat→Env→Heap→(Env→Heap→Prop)→Prop
 | [],ρ,h,K=>K ρ h
 |i::is,ρ,h,K=>match all[i]? with
  |none=>False
  |some o=>jL all ρ o.guard (fun ρ=>Ec P U hm o ρ h fun X h' =>dL P U n all hm is (put ρ o.dst X) h' K) (fun ρ=>dL P U n all hm is (put ρ o.dst (.v undef)) h K)
theorem Aw{ρ:Env}{d:Nat}{x:AV}(hd:lk ρ d=some x):lk ((d,x)::ρ)=lk ρ:=by
 grind [lk]
theorem dM{n:Nat}(hU:∀t,aN P U t){all:List Oper}{K:Env→Heap→Prop}:∀(l:List Nat) (ρ:Env) (h:Heap),dL P U n all hm l ρ h K→mA P all.toArray (fun _=>hm) (fun F h=>∃ρ,lk ρ=F∧K ρ h) l (lk ρ) h
 | [],ρ,h,hk=>⟨ρ,rfl,hk⟩
 |i::is,ρ,h,hk=>by
  simp only[dL]at hk
  show hOp _ _ _ _ _ _ _
  unfold hOp;have e0:(all.toArray)[i]? =all[i]? :=aci;rw[e0];cases hi:all[i]? with
  |none=>rw[hi]at hk;exact hk.elim
  |some o=>
   rw[hi]at hk;simp only at hk⊢;have yes:∀ρ',cE all.toArray (lk ρ) o=some true→lk ρ' =lk ρ→Ec P U hm o ρ' h (fun X h' =>dL P U n all hm is (put ρ' o.dst X) h' K)→vB P all.toArray hm o (mA P all.toArray (fun _=>hm) (fun F h=>∃ρ,lk ρ=F∧K ρ h) is) (lk ρ) h:=by
    intro ρ' hw hl hv;unfold Ec at hv;cases he:dN o.op with
    |true=>
     rw[he,if_pos rfl]at hv;have:=A3 hU he hv;rw[hl]at this;refine .inl ⟨hw,.inl ⟨he,_,this,fun X h' hq=>⟨hq.1,?_⟩⟩⟩
     have:=dM hU is _ _ hq.2;rw[rX,hl]at this;exact acQ
    |false=>
     rw[he,if_neg aci]at hv;obtain⟨X,hQ,hX⟩:=FB hU hv;rw[hl]at hX;refine .inl ⟨hw,.inr ⟨X,hX.quiet,?_⟩⟩;have:=dM hU is _ _ hQ;rw[rX,hl]at this;exact acQ
   have no:∀ρ',cE all.toArray (lk ρ) o=some false→lk ρ' =lk ρ→dL P U n all hm is (put ρ' o.dst (.v undef)) h K→vB P all.toArray hm o (mA P all.toArray (fun _=>hm) (fun F h=>∃ρ,lk ρ=F∧K ρ h) is) (lk ρ) h:=by
    intro ρ' hw hl hv;have:=dM hU is _ _ hv;rw[rX,hl]at this;exact .inr ⟨hw,this⟩
   unfold jL at hk;split at hk
   ·rename_i hg
    exact yes ρ (by grind [cE]) rfl hk
   ·rename_i g want hg
    split at hk
    ·rename_i d hd'
     have hd2:((all.toArray)[g]?).bind (·.dst)=some d:=by grind [qj]
     split at hk
     ·rename_i t ht
      have hw:cE all.toArray (lk ρ) o=some (t==want):=by
       grind [cE]
      by_cases e:t=want
      ·exact yes _ ab8 (by grind [Aw]) (hk.1 e)
      ·have e' :t= !want:=by cases t<;>cases want<;>simp_all
       exact no _ ab8 (by grind [Aw]) (hk.2 e')
     ·rename_i vs ht
      refine no ρ ?_ rfl hk
      grind [cE]
     ·exact acz
    ·exact acz
def Fs(U:TypeId→TI):Op→Option Blk
 |.alloc t=>some (if isUnit (U t).k then .obj [] t else .obj (U t).zero.cells t)
 |_=>none
def yN(U:TypeId→TI):Op→Prop
 |.alloc t=>isUnit (U t).k=true∨(U t).sz≠0∧fit (U t).zero (U t).sz
 |_=>False
def lV(U:TypeId→TI)(all:List Oper):List Nat→Prop
 | []=>True
 |i::is=>(match all[i]? with
  |none=>False
  |some o=>yN U o.op)∧lV U all is
def rK(P:Program)(U:TypeId→TI)(all:List Oper):List Nat→Env→Heap→(Env→Heap→Prop)→Prop
 | [],ρ,h,K=>K ρ h
 |i::is,ρ,h,K=>match all[i]? with
  |none=>False
  |some o=>aZ P U ρ h o fun X h' =>rK P U all is (put ρ o.dst X) h' K
theorem Ee{ρ:Env}{h:Heap}{o:Oper}{Q:AV→Heap→Prop}{B:Blk}(hB:Fs U o.op=some B)(hs:yN U o.op):aZ P U ρ h o Q↔∀id,h id=none→Q (.ptr id 0) (upd h id (some B)):=by
 obtain⟨d,op,t,p,a,g⟩:=o;cases op with
 |alloc ty=>
  simp only[Fs,Option.some.injEq]at hB;simp only[yN]at hs;simp only[aZ]
  grind
 |_=>grind [Fs]
def jB(U:TypeId→TI)(ops:Array Oper)(ids:Nat→Nat)(s:EF×Heap)(i:Nat):EF×Heap:=match ops[i]? with
 |some o=>(gK s.1 o.dst (.ptr (ids i) 0),upd s.2 (ids i) (Fs U o.op))
 |none=>s
def Fresh(h:Heap)(is:List Nat)(ids:Nat→Nat):Prop:=(∀i∈is,h (ids i)=none)∧(is.map ids).Nodup
theorem vM{l l' :List Nat}(hp:l.Perm l')(listed:Array Bool):fI l listed=fI l' listed:=by
 have e:∀(l:List Nat) (x:Array Bool),fI l x=l.foldl (fun x k=>x.setIfInBounds k true) x:=fun l=>by
  induction l with
  |nil=>intro x;rfl
  |cons k l ih=>intro x;exact ih _
 rw[e,e];refine hp.foldl_eq' (fun x _ y _ z=>?_) listed
 grind
theorem Ft{ids:Nat→Nat}{is:List Nat}(hd:(is.map fun i=>(ops[i]?).bind (·.dst)).Nodup)(hs:∀i∈is,∃o d,ops[i]? =some o∧o.dst=some d)(hi:(is.map ids).Nodup):
  ∀x∈is,∀y∈is,∀z,jB U ops ids (jB U ops ids z x) y=jB U ops ids (jB U ops ids z y) x:=by
 have inj:∀ {α:Type} {f:Nat→α} {l:List Nat},(l.map f).Nodup→∀x∈l,∀y∈l,f x=f y→x=y:=by
  intro α f l
  induction l with
  |nil=>simp
  |cons k l ih=>
   grind
 intro x hx y hy z
 by_cases e:x=y
 ·grind
 obtain⟨ox,dx,hox,hdx⟩:=hs x hx;obtain⟨oy,dy,hoy,hdy⟩:=hs y hy;simp only[jB,hox,hoy];rw[mc z.1 _ _ ab8]
 congr 1
 grind [upd]
theorem IE{E:Array Bool→Prop}{Q:EF→Heap→Prop}{m:Nat}:∀(fuel:Nat) (is:List Nat) (listed:Array Bool) (F:EF) (h:Heap),Closed md ops listed→yy md ops fuel is listed=true→Sub hm h→is.Nodup→
  (is.map fun i=>(ops[i]?).bind (·.dst)).Nodup→
  (∀i∈is,∃o d B,ops[i]? =some o∧o.guard=none∧o.dst=some d∧dN o.op=true∧Fs U o.op=some B∧∀F h,EOK P o F h fun X h' =>∃id,h id=none∧X= .ptr id 0∧h' =upd h id (some B))→
  (Closed md ops (fI is listed)→∀ids,Fresh h is ids→rD md ops (hS P ops fun _=>hm) E Q m (fI is listed) (is.foldl (jB U ops ids) (F,h)).1 (is.foldl (jB U ops ids) (F,h)).2)→rD md ops (hS P ops fun _=>hm) E Q (m+is.length) listed F h:=by
 intro fuel
 induction fuel with
 |zero=>
  intro is listed F h hcl hp _ _ _ _ H;have:is= []:=by simpa[yy]using hp
  subst this;exact H hcl id ⟨aci,aci⟩
 |succ fuel ih=>
  intro is listed F h hcl hp hs hn hdn ho H;simp only[yy,Bool.or_eq_true,List.isEmpty_iff,Bool.and_eq_true,Bool.not_eq_true',List.all_eq_true]at hp;rcases hp with rfl|⟨hp1,hp2⟩
  ·exact H hcl id ⟨aci,aci⟩
  have hne:Region.ready md ops listed≠ []:=fun e=>by rw[e]at hp1;simp at hp1
  obtain⟨i0,hi0⟩:=List.exists_mem_of_ne_nil _ hne;have hl0:m+is.length=(m+(is.length - 1))+1:=by
   have:=List.length_pos_of_mem (show i0∈is by simpa using(hp2 i0 hi0).1)
   omega
  rw[hl0];refine⟨fun e=>absurd e hne,fun i hi=>?_⟩
  obtain⟨h1,h2⟩:=hp2 i hi;have h1:i∈is:=by simpa using h1
  obtain⟨o,d,B,e1,e2,e3,e4,e5,e6⟩:=ho i h1;have hpm:=List.perm_cons_erase h1;unfold hS hOp;simp only[e1];refine .inl ⟨by simp[cE,e2],.inl ⟨e4,_,e6 F h,?_⟩⟩
  rintro X h' ⟨id,hid,rfl,rfl⟩
  have hs' :Sub hm (upd h id (some B)):=fun j b hj=>by
   have:=hs j b hj;simp only[upd]
   by_cases e:j=id
   ·subst e;rw[hid]at this;cases this
   ·simp[e,this]
  refine⟨hs',?_⟩;have hle:(is.length - 1)=(is.erase i).length:=(List.length_erase_of_mem h1).symm;rw[hle];have hni:i∉is.erase i:=fun hm=>by
   have:=hpm.nodup_iff.1 hn;exact(List.nodup_cons.1 this).1 hm
  refine ih (is.erase i) _ _ _ (hcl.set hi) h2 hs' (hn.erase i) (((hpm.map _).nodup_iff.1 hdn).of_cons) (fun j hj=>ho j (List.mem_of_mem_erase hj)) fun hcl2 ids hf=>?_
  have hmem:∀j∈is.erase i,j≠i:=fun j hj e=>hni (e▸hj)
  let ids' :Nat→Nat:=fun j=>if j=i then id else ids j
  have hids:∀j∈is.erase i,ids' j=ids j:=fun j hj=>by simp[ids',hmem j hj]
  have hfr:∀j∈is.erase i,ids j≠id∧h (ids j)=none:=fun j hj=>by
   have:=hf.1 j hj;simp only[upd]at this;split at this
   ·cases this
   ·rename_i e;exact⟨e,this⟩
  have hfresh:Fresh h is ids' :=by
   refine⟨fun j hj=>?_,?_⟩
   ·by_cases e:j=i
    ·subst e;simp[ids',hid]
    ·have hj' :j∈is.erase i:=(List.mem_erase_of_ne e).2 hj
     rw[hids j hj'];exact(hfr j hj').2
   ·rw[(hpm.map ids').nodup_iff,List.map_cons,List.nodup_cons]
    have em:(is.erase i).map ids' =(is.erase i).map ids:=List.map_congr_left hids;rw[em];refine⟨fun hm=>?_,hf.2⟩
    obtain⟨j,hj,he⟩:=List.mem_map.1 hm;exact(hfr j hj).1 (by rw[he];simp[ids'])
  have hh:=H (by rw[vM hpm];exact hcl2) ids' hfresh
  have hfold:is.foldl (jB U ops ids') (F,h)=(is.erase i).foldl (jB U ops ids) (gK F o.dst (.ptr id 0),upd h id (some B)):=by
   rw[hpm.foldl_eq' (Ft hdn (fun j hj=>by obtain⟨o,d,B,a1,_,a3,_⟩:=ho j hj;exact⟨o,d,a1,a3⟩) hfresh.2),List.foldl_cons]
   have e0:jB U ops ids' (F,h) i=(gK F o.dst (.ptr id 0),upd h id (some B)):=by simp[jB,e1,ids',e5]
   rw[e0];have:∀(l:List Nat) (s:EF×Heap),(∀j∈l,ids' j=ids j)→l.foldl (jB U ops ids') s=l.foldl (jB U ops ids) s:=fun l=>by
    induction l with
    |nil=>intro s _;rfl
    |cons k l ih=>
     intro s hl;rw[List.foldl_cons,List.foldl_cons,ih _ fun j hj=>hl j (List.mem_cons_of_mem _ hj)]
     have:jB U ops ids' s k=jB U ops ids s k:=by simp only[jB,hl k (List.mem_cons_self ..)]
     rw[this]
   exact this _ _ hids
  rw[hfold,vM hpm]at hh;exact hh
theorem A4{all:List Oper}{K:Env→Heap→Prop}:∀(is:List Nat) (ρ:Env) (h:Heap),(∀i∈is,∃o B,all[i]? =some o∧Fs U o.op=some B∧yN U o.op)→rK P U all is ρ h K→∀ids,Fresh h is ids→
  ∃ρ',lk ρ' =(is.foldl (jB U all.toArray ids) (lk ρ,h)).1∧K ρ' (is.foldl (jB U all.toArray ids) (lk ρ,h)).2
 | [],ρ,h,_,hk,ids,_=>⟨ρ,rfl,hk⟩
 |i::is,ρ,h,ho,hk,ids,hf=>by
  obtain⟨o,B,e1,e2,e3⟩:=ho i (List.mem_cons_self ..);simp only[rK,e1]at hk;have hk:=(Ee e2 e3).1 hk (ids i) (hf.1 i (List.mem_cons_self ..));have hn:=hf.2;rw[List.map_cons,List.nodup_cons]at hn;have hf' :Fresh (upd h (ids i) (some B)) is ids:=⟨fun j hj=>by
   have:ids j≠ids i:=fun e=>hn.1 (e▸List.mem_map.2 ⟨j,hj,rfl⟩)
   simp only[upd,this,if_false];exact hf.1 j (List.mem_cons_of_mem _ hj),hn.2⟩
  obtain⟨ρ',h1,h2⟩:=A4 is _ _ ab8 hk ids hf';have e0:jB U all.toArray ids (lk ρ,h) i=(lk (put ρ o.dst (.ptr (ids i) 0)),upd h (ids i) (some B)):=by
   simp_all [some,jB,rX]
  refine⟨ρ',?_,?_⟩
  ·grind
  ·rw[List.foldl_cons,e0];exact h2
def lB(P:Program)(U:TypeId→TI)(n:Nat)(all:List Oper)(hm:Heap):Ord→Env→Heap→(Env→Heap→Prop)→Prop
 |.seq l,ρ,h,K=>dL P U n all hm l ρ h K
 |.fork l i a j b,ρ,h,K=>dL P U n all hm l ρ h fun ρ h=>
  dL P U n all hm [i] ρ h (fun ρ h=>lB P U n all hm a ρ h K)∧dL P U n all hm [j] ρ h (fun ρ h=>lB P U n all hm b ρ h K)
 |.quiet l i t,ρ,h,K=>dL P U n all hm l ρ h fun ρ h=>match all[i]? with
  |none=>False
  |some o=>o.guard=none∧vcQ P U ρ hm o fun X=>lB P U n all hm t (put ρ o.dst X) h K
 |.news l is t,ρ,h,K=>dL P U n all hm l ρ h fun ρ h=>Sub hm h∧lV U all is∧rK P U all is ρ h fun ρ h=>lB P U n all hm t ρ h K
theorem kC{n:Nat}(hU:∀t,aN P U t){md:Region.Mode}{all:List Oper}{K:Env→Heap→Prop}{z:Option Nat}(hz:∀i,Ends md all.toArray (wQ md all.toArray z) i):∀(t:Ord) (listed:Array Bool) (ρ:Env) (h:Heap),Closed md all.toArray listed→jQ md all.toArray z t listed=true→lB P U n all hm t ρ h K→
  rD md all.toArray (hS P all.toArray fun _=>hm) (wQ md all.toArray z) (fun F h=>∃ρ,lk ρ=F∧K ρ h) t.len listed (lk ρ) h
 |.seq l,listed,ρ,h,hc,hB,hk=>by
  simp only[jQ,Bool.and_eq_true]at hB;have:=jz (H:=fun _=>hm) 0 l listed _ h (fun i _=>hz i) hc hB.1 (jl (fun F h hh=>⟨hB.2,hh⟩) l _ h (dM hU l ρ h hk))
  rwa [Nat.zero_add]at this
 |.fork l i a j b,listed,ρ,h,hc,hB,hk=>by
  simp only[jQ,Bool.and_eq_true,beq_iff_eq]at hB;obtain⟨⟨⟨h1,h2⟩,h3⟩,h4,h5⟩:=hB;have hc' :=iX l listed hc h1;refine jz (a.len+1) l listed _ h (fun i _=>hz i) hc h1 (jl (fun F h hh=>?_) l _ h (dM hU l ρ h hk))
  obtain⟨ρ',rfl,g1,g2⟩:=hh;refine⟨fun e=>(by rw[h2]at e;cases e),fun k hk' =>?_⟩
  have hc2:=hc'.set hk';rw[h2]at hk';rcases List.mem_cons.1 hk' with rfl|hk'
  ·exact kT (fun F h hh=>by obtain⟨ρ2,rfl,hh⟩:=hh;exact kC hU hz a _ ρ2 h hc2 h4 hh) (dM hU [k] ρ' h g1)
  ·obtain rfl:k=j:=by grind
   exact kT (fun F h hh=>by obtain⟨ρ2,rfl,hh⟩:=hh;rw[h3];exact kC hU hz b _ ρ2 h hc2 h5 hh) (dM hU [k] ρ' h g2)
 |.quiet l i t,listed,ρ,h,hc,hB,hk=>by
  simp only[jQ,Bool.and_eq_true]at hB;obtain⟨h1,⟨h2,h3⟩,h4⟩:=hB;have hc' :=iX l listed hc h1;refine jz (t.len+1) l listed _ h (fun i _=>hz i) hc h1 (jl (fun F h hh=>?_) l _ h (dM hU l ρ h hk))
  obtain⟨ρ',rfl,g⟩:=hh;cases hi:all[i]? with
  |none=>grind
  |some o=>
   rw[hi]at g;simp only at g;obtain⟨X,hX,hq⟩:=JK hU g.2;have hi' :all.toArray[i]? =some o:=ab8;have hin:i∈Region.ready md all.toArray (fI l listed):=ab8;refine TR.first hi' (hz i) t.len _ _ h hc' h3 hin ⟨o,hi',.inl ⟨by grind [cE],hq⟩⟩ ?_
   rw[←rX];exact kC hU hz t _ _ h (hc'.set hin) h4 hX
 |.news l is t,listed,ρ,h,hc,hB,hk=>by
  simp only[jQ,Lo,Bool.and_eq_true,decide_eq_true_eq]at hB;obtain⟨h1,⟨⟨⟨h2,h3⟩,h4⟩,h5⟩,h6⟩:=hB;have hc' :=iX l listed hc h1;refine jz (t.len+is.length) l listed _ h (fun i _=>hz i) hc h1 (jl (fun F h hh=>?_) l _ h (dM hU l ρ h hk))
  obtain⟨ρ',rfl,g1,g2,g3⟩:=hh;have side:∀(is:List Nat),lV U all is→∀i∈is,∃o,all[i]? =some o∧yN U o.op:=fun is=>by
   induction is with
   |nil=>simp
   |cons k is ih=>
    intro hs i hi;simp only[lV]at hs
    grind
  have hall:∀i∈is,∃o d B,all.toArray[i]? =some o∧o.guard=none∧o.dst=some d∧dN o.op=true∧Fs U o.op=some B∧yN U o.op:=fun i hi=>by
   obtain⟨o,ha,hs⟩:=side is g2 i hi;have ha' :all.toArray[i]? =some o:=ab8;have hn:=List.all_eq_true.1 h5 i hi;rw[ha']at hn;simp only[Option.map_some,Option.getD_some,O7,Bool.and_eq_true,Option.isNone_iff_eq_none,Option.isSome_iff_exists]at hn;obtain⟨⟨n1,d,n2⟩,n3⟩:=hn;split at n3
   ·rename_i ty hop
    exact⟨o,d,_,ha',n1,n2,by rw[hop];rfl,by rw[hop];rfl,hs⟩
   ·cases n3
  refine IE (U:=U) is.length is _ _ h hc' h2 g1 h3 h4 (fun i hi=>?_) fun hc2 ids hf=>?_
  ·obtain⟨o,d,B,a1,a2,a3,a4,a5,a6⟩:=hall i hi
   refine⟨o,d,B,a1,a2,a3,a4,a5,fun F h=>?_⟩
   intro c a hs g hd hr;exact mK hU ((Ee (ρ:=[]) a5 a6).2 fun id hid=>⟨id,hid,rfl,rfl⟩) hs g ⟨rfl,hd,fun t x hx=>by cases hx⟩
  ·obtain⟨ρ2,b1,b2⟩:=A4 is ρ' h (fun i hi=>by
    grind) g3 ids hf
   rw[←b1];exact kC hU hz t _ ρ2 _ hc2 h6 b2
end
section
variable {P : Program} {U : TypeId → TI} {ops : Array Oper} {md : Region.Mode} {H : Nat → Heap}
def xX(hm:Heap)(l1:List Nat)(i:Nat):Heap:=if l1.contains i then hm else fun _=>none
def BH(md:Region.Mode)(ops:Array Oper)(l1:List Nat):Bool:=(List.range ops.size).all fun j=>match ops[j]? with
 |some o=>if dN o.op then !l1.contains j && l1.all fun k=>(jI md ops (jI md ops (jI md ops [j]))).contains k else true
 |none=>true
def GI(md:Region.Mode)(ops:Array Oper)(l1 l2:List Nat):Bool:=BH md ops l1 && jQ md ops none (.seq (l1++l2)) (Array.replicate ops.size false) && ((l1++l2).length==ops.size) && l2.all fun i=> !l1.contains i
theorem C7{l:List Nat}(hb:BH md ops l=true){listed:Array Bool}(hc:Closed md ops listed){j:Nat}{oj:Oper}(hoj:ops[j]? =some oj)(he:dN oj.op=true)(hj:j∈Region.ready md ops listed):j∉l∧∀k∈l,listed.getD k false=true:=by
 unfold BH at hb;rw[List.all_eq_true]at hb;have hm:=hb j ab8;rw[hoj]at hm;simp only[he,if_true,Bool.and_eq_true,Bool.not_eq_true']at hm;have hl:j∉l:=fun h=>by have:=hm.1;rw[List.contains_iff_mem.2 h]at this;cases this
 refine⟨hl,fun k hk=>?_⟩
 have s0:∀k∈ [j],k≠j→listed.getD k false=true:=fun k hk hn=>absurd (by simpa using hk) hn
 have s3:=eV hc hj (eV hc hj (eV hc hj s0));have h2:=hm.2;rw[List.all_eq_true]at h2;have:=h2 k hk;rw[List.contains_iff_mem]at this;exact s3 k this fun e=>hl (e▸hk)
theorem QD{hm hm' :Heap}{i:Nat}{o:Oper}{K:EF→Heap→Prop}{F:EF}{h:Heap}(ho:ops[i]? =some o)(he:dN o.op=false)(hs:Sub hm hm')(hd:hOp P ops hm i K F h):hOp P ops hm' i K F h:=by
 unfold hOp at*;simp only[ho]at*;rcases hd with⟨h1,⟨h2,_⟩|⟨X,h3,h4⟩⟩|h1
 ·rw[he]at h2;cases h2
 ·exact .inl ⟨h1,.inr ⟨X,fun g hg=>h3 g fun j k e=>hg _ _ (hs _ _ e),h4⟩⟩
 ·exact .inr h1
theorem Fi{n:Nat}{E:Array Bool→Prop}{Q:EF→Heap→Prop}{Q' :Exit→Act→World→Prop}{c0:Cx}{hm:Heap}{l1:List Nat}(hb:BH md ops l1=true)(hdst:∀o∈ops.toList,eS n o.dst=true)
  (h0:∀listed c F h a,Ext c0 c→Sub h c.h→Good c→mg c n F a→E listed→Q F h→wpAny P md ops Q' 0 listed a c.w) (fuel:Nat) (listed:Array Bool) (c:Cx) (F:EF) (h:Heap) (a:Act) (hc:Closed md ops listed) (h1:Ext c0 c) (h2:Sub h c.h) (hor:Sub hm c.h) (h3:Good c) (h4:mg c n F a)
  (hd:rD md ops (hS P ops (xX hm l1)) E Q fuel listed F h):wpAny P md ops Q' (0+fuel) listed a c.w:=by
 refine oI (T:=fun listed c F h a=>Closed md ops listed∧Ext c0 c∧Sub h c.h∧(Sub hm c.h∨∀k∈l1,listed.getD k false=true)∧Good c∧mg c n F a) (fun listed i K c F h a K' ⟨hc,h1,h2,hor,h3,h4⟩ hi hdi hk=>?_)
  (fun listed c F h a ⟨_,k1,k2,_,k3,k4⟩ he hq=>h0 listed c F h a k1 k2 k3 k4 he hq) fuel listed c F h a ⟨hc,h1,h2,.inl hor,h3,h4⟩ hd
 unfold hS at hdi;have hset:=hc.set hi;obtain⟨hun,oi,hoi,_⟩:=mem_ready.1 hi;have hun' :listed.getD i false=false:=by
  clear hdi
  grind
 have late:(∀k∈l1,listed.getD k false=true)→∀k∈l1,(listed.setIfInBounds i true).getD k false=true:=fun hh k hk=>by
  have:=hh k hk
  by_cases e:i=k
  ·subst e;rw[hun']at this;cases this
  ·rw[getD_set_ne false e];exact this
 have low:i∉l1→(∀k∈l1,listed.getD k false=true)→wpOp P ops Q' i K' a c.w:=fun hni hall=>by
  have eH:xX hm l1 i=fun _=>none:=by
   unfold xX;rw[if_neg (by rw[List.contains_iff_mem];exact hni)]
  rw[eH]at hdi;exact uj hdst (fun c F h a k1 k2 _ k3 k4 hK=>hk c F h a ⟨hset,k1,k2,.inr (late hall),k3,k4⟩ hK) h1 h2 (fun _ _ e=>acD) h3 h4 hdi
 cases he:dN oi.op with
 |true=>
  obtain⟨hni,hall⟩:=C7 hb hc hoi he hi;exact low hni hall
 |false=>
  rcases hor with hs|hall
  ·exact uj hdst (fun c F h a k1 k2 k2' k3 k4 hK=>hk c F h a ⟨hset,k1,k2,.inl k2',k3,k4⟩ hK) h1 h2 hs h3 h4 (QD hoi he (fun j k e=>by
    unfold xX at e;split at e
    ·exact e
    ·cases e) hdi)
  ·exact low (fun hh=>by
    rw[hall i hh]at hun';cases hun') hall
theorem xN{hm:Heap}{Q Q' :EF→Heap→Prop}(hq:∀F h,Q F h→Q' F h):∀(l:List Nat) (F:EF) (h:Heap),(∀i∈l,H i=hm)→mA P ops (fun _=>hm) Q l F h→mA P ops H Q' l F h
 | [],F,h,_,hd=>hq F h hd
 |i::l,F,h,hh,hd=>by
  show hOp P ops (H i) i _ F h
  rw[hh i aci];exact kT (fun F h hd=>xN hq l F h (fun i hi=>hh i (by simp[hi])) hd) hd
theorem Ak{Q:EF→Heap→Prop}:∀(l l' :List Nat) (F:EF) (h:Heap),mA P ops H (mA P ops H Q l') l F h→mA P ops H Q (l++l') F h
 | [],_,_,_,hd=>hd
 |i::l,l',F,h,hd=>kT (fun F h hd=>Ak l l' F h hd) hd
end
section
variable (P : Program) (U : TypeId → TI) (n : Nat)
def KSeq(next:Env→Heap→Prop)(K:Exit→Env→Heap→Prop)(e:Exit)(ρ:Env)(h:Heap):Prop:=
 match e with
 |.normal=>next ρ h
 |e=>K e ρ h
def KBlock(id:Nat)(K:Exit→Env→Heap→Prop)(e:Exit)(ρ:Env)(h:Heap):Prop:=
 match e with
 |.exit j=>if j=id then K .normal ρ h else K (.exit j) ρ h
 |e=>K e ρ h
def wf1:AV→Prop
 |.s l=>l.length<lim
 |.sl xs _=>xs.length<lim
 |_=>True
def wfA:AV→Prop
 |.agg cs=>∀x∈cs,wf1 x
 |.pe y _=>∀x∈y.cells,wf1 x
 |x=>wf1 x
def Wf(ρ:Env):Prop:=∀t x,lk ρ t=some x→wfA x
def JX(body:Env→Heap→(Exit→Env→Heap→Prop)→Prop)(ρ:Env)(h:Heap)(K:Exit→Env→Heap→Prop):Prop:=
 Wf ρ→∃(I:Nat→Env→Heap→Prop) (m:Nat),I m ρ h∧∀m ρ h,I m ρ h→body ρ h (KSeq (fun ρ' h' =>∃m',m' <m∧I m' ρ' h') K)
def lK(all:List Oper):List Oper→Env→Heap→(Env→Prop)→Prop
 | [],ρ,_,K=>K ρ
 |o::os,ρ,h,K=>eS n o.dst=true∧jL all ρ o.guard
   (fun ρ=>ju P U ρ h o fun X=>lK all os (put ρ o.dst X) h K)
   (fun ρ=>lK all os (put ρ o.dst (.v undef)) h K)
def yc(ops:Array Oper):Bool:=Ld .any ops none ops.size 0 (Array.replicate ops.size false)
def BF:Op→Bool
 |.store .. =>true
 |_=>false
def rH:List Oper→Bool
 | []=>false
 | [o]=>BF o.op && o.guard.isNone
 |_::b::r=>rH (b::r)
def Le(ops:Array Oper):Bool:=Eh .any ops (ops.size - 1) && Ld .any ops (some (ops.size - 1)) (ops.size - 1) 0 (Array.replicate ops.size false)
def pI(l:List Oper)(h:Heap)(K:Env→Heap→Prop)(ρ:Env):Prop:=match l.getLast? with
 |some o=>aZ P U ρ h o fun X h' =>K (put ρ o.dst X) h'
 |none=>False
def nM(l:List Oper):Bool:=l.all fun o=> !dN o.op
def Pr(P:Program)(U:TypeId→TI)(n:Nat)(ops:Array Oper)(ρ:Env)(h:Heap)(K:Env→Heap→Prop):Prop:=
 (ops.toList.all fun o=>eS n o.dst)=true∧
 (yc ops=true∧lK P U n ops.toList ops.toList ρ h (fun ρ=>K ρ h)∨
  (∃(hm:Heap) (t:Ord) (Post:Env→Heap→Prop),Sub hm h∧jQ .any ops none t (Array.replicate ops.size false)=true∧t.len=ops.size∧lB P U n ops.toList hm t ρ h Post∧∀ρ h,Post ρ h→K ρ h)∨
  (∃(hm:Heap) (l1 l2:List Nat),Sub hm h∧wM .any ops l1 l2=true∧dL P U n ops.toList hm l1 ρ h (fun ρ h=>∃hm2,Sub hm2 h∧dL P U n ops.toList hm2 l2 ρ h K))∨
  (∃(hm:Heap) (t:Ord),Sub hm h∧Eh .any ops t.len=true∧(ops.toList.getLast?.map fun o=>o.guard.isNone)=some true∧jQ .any ops (some t.len) t (Array.replicate ops.size false)=true∧t.len+1=ops.size∧lB P U n ops.toList hm t ρ h (fun ρ h=>pI P U ops.toList h K ρ))∨
  ∃(hm:Heap) (l1 l2:List Nat),Sub hm h∧GI .any ops l1 l2=true∧dL P U n ops.toList hm l1 ρ h (fun ρ h=>dL P U n ops.toList (fun _=>none) l2 ρ h K))
def WP(c:Code)(ρ:Env)(h:Heap)(K:Exit→Env→Heap→Prop):Prop:=
 ∀cx a,Sub h cx.h→Good cx→cq cx n ρ a→c.wp P (WPK n K cx) a cx.w
def KJump(l:Nat)(J:Env→Heap→Prop)(K:Exit→Env→Heap→Prop):Exit→Env→Heap→Prop
 |.goto l',ρ,h=>l' =l∧J ρ h
 |e,ρ,h=>K e ρ h
def bx:Code→Env→Heap→(Exit→Env→Heap→Prop)→Prop
 |.skip,ρ,h,K=>K .normal ρ h
 |.region _ ops draw,ρ,h,K=>if draw then(if rH ops.toList && nM ops.toList.dropLast then(Le ops && ops.toList.all fun o=>eS n o.dst)=true∧lK P U n ops.toList ops.toList.dropLast ρ h (pI P U ops.toList h (K .normal))else if nM ops.toList=false then Pr P U n ops ρ h (K .normal)else(yc ops && ops.toList.all fun o=>eS n o.dst)=true∧lK P U n ops.toList ops.toList ρ h (fun ρ=>K .normal ρ h))else j6 P U n ops.toList ops.toList ρ h (K .normal)
 |.seq a b,ρ,h,K=>bx a ρ h (KSeq (fun ρ h=>bx b ρ h K) K)
 |.cond c a b,ρ,h,K=>withv ρ c fun
  |.v (.bool t)=>(t=true→bx a ρ h K)∧(t=false→bx b ρ h K)
  |_=>False
 |.block id c,ρ,h,K=>bx c ρ h (KBlock id K)
 |.loop c,ρ,h,K=>JX (fun ρ h K=>bx c ρ h K) ρ h K
 |.exit id,ρ,h,K=>K (.exit id) ρ h
 |.ret,ρ,h,K=>K .ret ρ h
 |.label _,ρ,h,K=>K .normal ρ h
 |.goto l,ρ,h,K=>K (.goto l) ρ h
 |.scope c,ρ,h,K=>∃(l:Nat) (rest:Code) (J:Nat→Env→Heap→Prop),findLabel c l=some rest∧bx c ρ h (KJump l (fun ρ h=>∃m,J m ρ h) K)∧
  ∀m ρ h,J m ρ h→WP P n rest ρ h (KJump l (fun ρ' h' =>∃m',m' <m∧J m' ρ' h') K)
 |_,_,_,_=>False
end
section
variable {P : Program} {U : TypeId → TI} {n : Nat}
theorem WPK.mono{K K' :Exit→Env→Heap→Prop}{c0:Cx}(hk:∀e ρ h,K e ρ h→K' e ρ h){e:Exit}{a:Act}{w:World}(h:WPK n K c0 e a w):WPK n K' c0 e a w:=by
 obtain⟨c,ρ,hh,h1,h2,h3,h4,h5,h6⟩:=h;exact⟨c,ρ,hh,h1,h2,h3,h4,h5,hk _ _ _ h6⟩
theorem WP.weaken{c:Code}{ρ:Env}{h:Heap}{K K' :Exit→Env→Heap→Prop}(hw:WP P n c ρ h K)(hk:∀e ρ h,K e ρ h→K' e ρ h):WP P n c ρ h K' :=
 fun cx a h1 h2 h3=>wp_mono (hw cx a h1 h2 h3) fun _ _ _=>WPK.mono hk
theorem WP.seq{c d:Code}{ρ:Env}{h:Heap}{K:Exit→Env→Heap→Prop}(hc:WP P n c ρ h (KSeq (WP P n d · · K) K)):WP P n (.seq c d) ρ h K:=by
 intro cx a h1 h2 h3;refine wp_seq (wp_mono (hc cx a h1 h2 h3) fun e a w hq=>?_)
 obtain⟨c',ρ',h',rfl,g,hE,he,hs,hk⟩:=hq;cases e with
 |normal=>
  have:=hk c' a hs g he;exact wp_mono this fun _ _ _=>WPK.after hE
 |_=>exact⟨c',ρ',h',rfl,g,hE,he,hs,hk⟩
theorem WP.block{id:Nat}{c:Code}{ρ:Env}{h:Heap}{K:Exit→Env→Heap→Prop}(hc:WP P n c ρ h (KBlock id K)):WP P n (.block id c) ρ h K:=by
 intro cx a h1 h2 h3;refine wp_block (wp_mono (hc cx a h1 h2 h3) fun e a w hq=>?_)
 obtain⟨c',ρ',h',rfl,g,hE,he,hs,hk⟩:=hq;cases e with
 |exit j=>
  simp only[Exit.inBlock,KBlock]at hk⊢;split
  ·rename_i e;rw[if_pos e]at hk;exact⟨c',ρ',h',rfl,g,hE,he,hs,hk⟩
  ·rename_i e;rw[if_neg e]at hk;exact⟨c',ρ',h',rfl,g,hE,he,hs,hk⟩
 |_=>exact⟨c',ρ',h',rfl,g,hE,he,hs,hk⟩
theorem B3{c:Code}{Q:Exit→Act→World→Prop}(I:Nat→Act→World→Prop)(round:∀m a w,I m a w→c.wp P (Exit.then (fun a' w' =>∃m',m' <m∧I m' a' w') Q) a w):
  ∀m a w,I m a w→(Code.loop c).wp P Q a w:=by
 intro m a w h0 b k cs;have key:∀n a w,I n a w→∃e a' w',Q e a' w'∧Arrives P (lone (b.at a (.code c:: .inLoop c::k)) cs w) b k cs e a' w' :=by
  intro n
  induction n using Nat.strongRecOn with
  |_ n ih=>
   intro a w hI;obtain⟨e,a₁,w₁,hq,harr⟩:=round n a w hI b (.inLoop c::k) cs;cases e with
   |normal=>
    obtain⟨m',hlt,hI₁⟩:=hq;obtain⟨e₂,a₂,w₂,hq₂,harr₂⟩:=ih m' hlt a₁ w₁ hI₁;exact⟨e₂,a₂,w₂,hq₂,.of_steps (Steps.trans harr (.one step_inLoop)) harr₂⟩
   |exit id=>exact⟨_,a₁,w₁,hq,.pass (x:=.inLoop c) rfl aci harr⟩
   |goto l=>exact⟨_,a₁,w₁,hq,.pass (x:=.inLoop c) rfl aci harr⟩
   |ret=>exact⟨_,a₁,w₁,hq,.pass (x:=.inLoop c) rfl aci harr⟩
   |panic ch=>exact⟨_,a₁,w₁,hq,.pass (x:=.inLoop c) rfl aci harr⟩
   |outgrown=>exact⟨_,a₁,w₁,hq,.pass (x:=.inLoop c) rfl aci harr⟩
 obtain⟨e,a',w',hq,harr⟩:=key m a w h0;exact⟨e,a',w',hq,.of_steps (.one step_loop) harr⟩
def Exit.K1(l:Nat)(J:Act→World→Prop)(Q:Exit→Act→World→Prop):Exit→Act→World→Prop
 |.goto l',a,w=>l' =l∧J a w
 |e,a,w=>Q e a w
theorem zL{c rest:Code}{Q:Exit→Act→World→Prop}{a:Act}{w:World}(l:Nat)(J:Nat→Act→World→Prop)(hf:findLabel c l=some rest)
  (first:c.wp P (Exit.K1 l (fun a w=>∃m,J m a w) Q) a w)
  (pass:∀m a w,J m a w→rest.wp P (Exit.K1 l (fun a' w' =>∃m',m' <m∧J m' a' w') Q) a w):(Code.scope c).wp P Q a w:=by
 intro b k cs;have hg:gotoIn l (.inScope c::k)=some (.code rest:: .inScope c::k):=by grind [gotoIn]
 have key:∀m a w,J m a w→∃e a' w',Q e a' w'∧Arrives P (lone (b.at a (.code rest:: .inScope c::k)) cs w) b k cs e a' w' :=by
  intro m
  induction m using Nat.strongRecOn with
  |_ m ih=>
   intro a w hJ;obtain⟨e,a₁,w₁,hq,harr⟩:=pass m a w hJ b (.inScope c::k) cs;cases e with
   |normal=>exact⟨.normal,a₁,w₁,hq,Steps.trans harr (.one step_inScope)⟩
   |exit id=>exact⟨.exit id,a₁,w₁,hq,fun k' hk=>harr k' (by grind [exitTo])⟩
   |goto l' =>
    obtain⟨rfl,m',hlt,hJ'⟩:=hq;obtain⟨e₂,a₂,w₂,hq₂,harr₂⟩:=ih m' hlt a₁ w₁ hJ';exact⟨e₂,a₂,w₂,hq₂,.of_steps (harr _ hg) harr₂⟩
   |ret=>exact⟨_,a₁,w₁,hq,harr⟩
   |panic ch=>exact⟨_,a₁,w₁,hq,harr⟩
   |outgrown=>exact⟨_,a₁,w₁,hq,harr⟩
 obtain⟨e,a₁,w₁,hq,harr⟩:=first b (.inScope c::k) cs;cases e with
 |normal=>exact⟨.normal,a₁,w₁,hq,.head step_scope (Steps.trans harr (.one step_inScope))⟩
 |exit id=>exact⟨.exit id,a₁,w₁,hq,fun k' hk=> .head step_scope (harr k' (by grind [exitTo]))⟩
 |goto l' =>
  obtain⟨rfl,m,hJ⟩:=hq;obtain⟨e₂,a₂,w₂,hq₂,harr₂⟩:=key m a₁ w₁ hJ;exact⟨e₂,a₂,w₂,hq₂,.of_steps (.head step_scope (harr _ hg)) harr₂⟩
 |ret=>exact⟨_,a₁,w₁,hq,.of_steps (.one step_scope) harr⟩
 |panic ch=>exact⟨_,a₁,w₁,hq,.of_steps (.one step_scope) harr⟩
 |outgrown=>exact⟨_,a₁,w₁,hq,.of_steps (.one step_scope) harr⟩
theorem WP.scope{c rest:Code}{ρ:Env}{h:Heap}{K:Exit→Env→Heap→Prop}(l:Nat)(J:Nat→Env→Heap→Prop)(hf:findLabel c l=some rest)(first:WP P n c ρ h (KJump l (fun ρ h=>∃m,J m ρ h) K))
  (pass:∀m ρ h,J m ρ h→WP P n rest ρ h (KJump l (fun ρ' h' =>∃m',m' <m∧J m' ρ' h') K)):WP P n (.scope c) ρ h K:=by
 intro cx a h1 h2 h3;refine zL l (fun m a w=>∃c' ρ' h',c'.w=w∧Good c'∧Ext cx c'∧cq c' n ρ' a∧Sub h' c'.h∧J m ρ' h') hf (wp_mono (first cx a h1 h2 h3) fun e a w hq=>?_) ?_
 ·obtain⟨c2,ρ2,h2,rfl,g2,hE2,he2,hs2,hk⟩:=hq
  cases e with
  |goto l' =>obtain⟨e1,m,hI⟩:=hk;exact⟨e1,m,c2,ρ2,h2,rfl,g2,hE2,he2,hs2,hI⟩
  |_=>exact⟨c2,ρ2,h2,rfl,g2,hE2,he2,hs2,hk⟩
 ·rintro m a w ⟨c',ρ',h',rfl,g,hE,he,hs,hI⟩
  refine wp_mono (pass m ρ' h' hI c' a hs g he) fun e a w hq=>?_
  obtain⟨c2,ρ2,h2,rfl,g2,hE2,he2,hs2,hk⟩:=hq;cases e with
  |goto l' =>
   obtain⟨e1,m',hlt,hI'⟩:=hk;exact⟨e1,m',hlt,c2,ρ2,h2,rfl,g2,hE.trans hE2,he2,hs2,hI'⟩
  |_=>exact⟨c2,ρ2,h2,rfl,g2,hE.trans hE2,he2,hs2,hk⟩
theorem WP.loop{c:Code}{ρ:Env}{h:Heap}{K:Exit→Env→Heap→Prop}(I:Nat→Env→Heap→Prop)(m:Nat)(h0:I m ρ h)(round:∀m ρ h,I m ρ h→WP P n c ρ h (KSeq (fun ρ' h' =>∃m',m' <m∧I m' ρ' h') K)):
  WP P n (.loop c) ρ h K:=by
 intro cx a h1 h2 h3;refine B3 (fun m a w=>∃c' ρ' h',c'.w=w∧Good c'∧Ext cx c'∧cq c' n ρ' a∧Sub h' c'.h∧I m ρ' h') ?_ m a cx.w ⟨cx,ρ,h,rfl,h2,.refl _,h3,h1,h0⟩
 rintro m a w ⟨c',ρ',h',rfl,g,hE,he,hs,hI⟩
 refine wp_mono (round m ρ' h' hI c' a hs g he) fun e a w hq=>?_
 obtain⟨c2,ρ2,h2,rfl,g2,hE2,he2,hs2,hk⟩:=hq;cases e with
 |normal=>
  obtain⟨m',hlt,hI'⟩:=hk;exact⟨m',hlt,c2,ρ2,h2,rfl,g2,hE.trans hE2,he2,hs2,hI'⟩
 |_=>exact⟨c2,ρ2,h2,rfl,g2,hE.trans hE2,he2,hs2,hk⟩
theorem WP.ops(hU:∀t,aN P U t){id:Nat}{ops:Array Oper}{ρ:Env}{h:Heap}{K:Exit→Env→Heap→Prop}(hk:j6 P U n ops.toList ops.toList ρ h (K .normal)):WP P n (.region id ops false) ρ h K:=by
 intro cx a h1 h2 h3;refine wp_region_list ?_;have:=qR (K:=K) hU cx ops.toList ρ h hk cx a (.refl _) h1 h2 h3;simpa using this
theorem Rep.wf1{c:Cx}{x:AV}{u:Value}(h:Rep c x u):wf1 x:=by
 cases x with
 |s l=>exact h.nj.2
 |sl xs p=>obtain⟨a,cap,sz,val,_,hs⟩:=h.iq;have:=hs.hc;have:=hs.hm;simp only[Ab.wf1];omega
 |_=>trivial
theorem Rep.wf{c:Cx}{x:AV}{u:Value}(h:Rep c x u):wfA x:=by
 cases x with
 |agg cs=>
  obtain⟨vs,_,_,hr,_⟩:=h.oA;intro x hx;obtain⟨i,hi,rfl⟩:=List.mem_iff_getElem.1 hx
  grind [wf1]
 |pe y off=>
  obtain⟨b,o,val,_,_,_,hr,_⟩:=h.uC;intro x hx;obtain⟨i,hi,rfl⟩:=List.mem_iff_getElem.1 hx
  grind [wf1]
 |_=>exact h.wf1
theorem cq.wf{c:Cx}{ρ:Env}{a:Act}(h:cq c n ρ a):Wf ρ:=fun t x hx=>(h.rep t x hx).wf
theorem Db{ρ:Env}{d:Nat}{x:AV}(hd:lk ρ d=some x):lk ((d,x)::ρ)=lk ρ:=by
 grind [lk]
theorem pz(hU:∀t,aN P U t){all:List Oper}{h:Heap}{K:Env→Prop}:∀(l:List Oper) (ρ:Env),lK P U n all l ρ h K→dList P all.toArray h (fun F=>∃ρ,lk ρ=F∧K ρ) l (lk ρ)
 | [],ρ,hk=>⟨ρ,rfl,hk⟩
 |o::os,ρ,hk=>by
  obtain⟨hd,hk⟩:=hk;have yes:∀ρ',cE all.toArray (lk ρ) o=some true→lk ρ' =lk ρ→(ju P U ρ' h o fun X=>lK P U n all os (put ρ' o.dst X) h K)→vl P all.toArray h o (dList P all.toArray h (fun F=>∃ρ,lk ρ=F∧K ρ) os) (lk ρ):=by
   intro ρ' hw hl hv;obtain⟨X,hQ,hX⟩:=FZ hU hv;have:=pz hU os _ hQ;rw[rX,hl]at this;rw[hl]at hX;exact .inl ⟨hw,X,hX,this⟩
  have no:∀ρ',cE all.toArray (lk ρ) o=some false→lk ρ' =lk ρ→lK P U n all os (put ρ' o.dst (.v undef)) h K→vl P all.toArray h o (dList P all.toArray h (fun F=>∃ρ,lk ρ=F∧K ρ) os) (lk ρ):=by
   intro ρ' hw hl hv;have:=pz hU os _ hv;rw[rX,hl]at this;exact .inr ⟨hw,this⟩
  unfold jL at hk;split at hk
  ·rename_i hg
   exact yes ρ (by grind [cE]) rfl hk
  ·rename_i g want hg
   split at hk
   ·rename_i d hd'
    have hd2:((all.toArray)[g]?).bind (·.dst)=some d:=by grind [qj]
    split at hk
    ·rename_i t ht
     have hw:cE all.toArray (lk ρ) o=some (t==want):=by
      grind [cE]
     by_cases e:t=want
     ·exact yes _ ab8 (by grind [Db]) (hk.1 e)
     ·have e' :t= !want:=by cases t<;>cases want<;>simp_all
      exact no _ ab8 (by grind [Db]) (hk.2 e')
    ·rename_i vs ht
     refine no ρ ?_ rfl hk
     grind [cE]
    ·exact acz
   ·exact acz
theorem WP.any(hm:P.follows .mixedOrders=true){id:Nat}{ops:Array Oper}{ρ:Env}{h:Heap}{K:Exit→Env→Heap→Prop}(hk:∀c0 c a,Ext c0 c→Sub h c.h→Good c→mg c n (lk ρ) a→wpAny P .any ops (WPK n K c0) ops.size (Array.replicate ops.size false) a c.w):WP P n (.region id ops true) ρ h K:=by
 intro cx a h1 h2 h3;have hE:Ext cx {cx with w:={cx.w with drawn:=cx.w.drawn+1}}:=Ext.draw rfl rfl rfl rfl
 exact wp_region_any hm (hk cx {cx with w:={cx.w with drawn:=cx.w.drawn+1}} a hE h1 (h2.draw rfl rfl rfl rfl) ⟨h3.size,h3.defers,fun t x hx=>(h3.rep t x hx).mono hE⟩)
theorem wC{ops:Array Oper}{K:Exit→Env→Heap→Prop}{listed:Array Bool}{c0 c:Cx}{F:EF}{h:Heap}{a:Act}(hE:Ext c0 c)(hs:Sub h c.h)(g:Good c)(he:mg c n F a)(hz:wQ .any ops none listed)(hK:∃ρ,lk ρ=F∧K .normal ρ h):wpAny P .any ops (WPK n K c0) 0 listed a c.w:=by
 obtain⟨ρ',rfl,hK⟩:=hK;exact⟨by simpa[wQ,EN]using hz,c,ρ',h,rfl,g,hE,⟨he.1,he.2.1,he.2.2⟩,hs,hK⟩
theorem CD(hU:∀t,aN P U t){ops:Array Oper}{K:Exit→Env→Heap→Prop}{z:Nat}{oz:Oper}(hoz:ops.toList.getLast? =some oz)(hgz:oz.guard=none)(hzz:ops[z]? =some oz)(hdst:∀o∈ops.toList,eS n o.dst=true){listed:Array Bool}{c0 c:Cx}{F:EF}{h:Heap}{a:Act}(hE:Ext c0 c)(hs:Sub h c.h)(g:Good c)(he:mg c n F a)
  (hz:wQ .any ops (some z) listed) (hK:∃ρ,lk ρ=F∧pI P U ops.toList h (K .normal) ρ):wpAny P .any ops (WPK n K c0) 1 listed a c.w:=by
 obtain⟨ρ',rfl,hK⟩:=hK;simp only[wQ,EN,Bool.and_eq_true,beq_iff_eq,List.isEmpty_iff]at hz;refine⟨fun e=>(by rw[hz.1]at e;cases e),fun i hi=>?_⟩
 rw[hz.1]at hi;obtain rfl:i=z:=ab8;refine wpOp_mono (fun a w hh=>⟨hz.2,hh⟩) ?_
 unfold pI at hK;rw[hoz]at hK;have he' :cq c n ρ' a:=⟨he.1,he.2.1,he.2.2⟩;have hdz:eS n oz.dst=true:=ab8;have hu:=mK hU hK hs g he';unfold wpOp;rw[hzz];simp only;rw[if_pos (by grind [Region.wanted])]
 left
 have next:∀u w',eT c (fun X h' =>K .normal (put ρ' oz.dst X) h') u w'→WPK n K c0 .normal (a.put oz.dst u) w' :=by
  rintro u w' ⟨c',x,h',rfl,g',hE',hr,hs',hK⟩
  exact⟨c',_,h',rfl,g',hE.trans hE',(he'.mono hE').put hdz hr,hs',hK⟩
 unfold Oper.wp;generalize (execOp a.eval oz).run P c.w=r at hu;cases r with
 |ok nx w' =>
  exact ags
 |halt x w' =>exact hu.elim
theorem WP.draw(hU:∀t,aN P U t)(hm:P.follows .mixedOrders=true){id:Nat}{ops:Array Oper}{ρ:Env}{h:Heap}{K:Exit→Env→Heap→Prop}(hdst:∀o∈ops.toList,eS n o.dst=true)(hB:yc ops=true)
  (hk:lK P U n ops.toList ops.toList ρ h (fun ρ=>K .normal ρ h)):WP P n (.region id ops true) ρ h K:=
 WP.any hm fun c0 c a hE h1 h2 h3=>by
 have hd:=xo (md:=.any) (ops:=ops) (z:=none) (fun k e=>acD) ops.toList 0 (Array.replicate ops.size false) (lk ρ) h (.none _ _ _) aci (by grind [yc]) (by simpa using pz hU ops.toList ρ hk)
 simpa using xp (m:=0) hdst (fun listed c F g a k1 k2 k3 k4 he hq=>wC k1 k2 k3 k4 he hq) _ _ c _ h a hE h1 h2 h3 hd
theorem WP.Gj(hU:∀t,aN P U t)(hm:P.follows .mixedOrders=true){id:Nat}{ops:Array Oper}{ρ:Env}{h hl:Heap}{K:Exit→Env→Heap→Prop}{t:Ord}{Post:Env→Heap→Prop}(hdst:∀o∈ops.toList,eS n o.dst=true)(hsub:Sub hl h)
  (hB:jQ .any ops none t (Array.replicate ops.size false)=true) (hlen:t.len=ops.size)
  (hk:lB P U n ops.toList hl t ρ h Post) (hp:∀ρ h,Post ρ h→K .normal ρ h):WP P n (.region id ops true) ρ h K:=
 WP.any hm fun c0 c a hE h1 h2 h3=>by
 have hd:=kC (md:=.any) (all:=ops.toList) (z:=none) hU (xy fun k e=>acD) t (Array.replicate ops.size false) ρ h (.none _ _ _) hB hk
 have:=oL (m:=0) hdst (fun listed c F h a k1 k2 k3 k4 he ⟨ρ,e,hq⟩=>wC k1 k2 k3 k4 he ⟨ρ,e,hp _ _ hq⟩) _ _ c _ h a hE h1 (fun i k hi=>h1 _ _ (hsub _ _ hi)) h2 h3 hd
 rw[hlen,Nat.zero_add]at this;exact acQ
theorem WP.Tu(hU:∀t,aN P U t)(hm:P.follows .mixedOrders=true){id:Nat}{ops:Array Oper}{ρ:Env}{h hl:Heap}{K:Exit→Env→Heap→Prop}{l1 l2:List Nat}(hdst:∀o∈ops.toList,eS n o.dst=true)(hsub:Sub hl h)
  (hB:wM .any ops l1 l2=true) (hk:dL P U n ops.toList hl l1 ρ h (fun ρ h=>∃hm2,Sub hm2 h∧dL P U n ops.toList hm2 l2 ρ h (K .normal))):WP P n (.region id ops true) ρ h K:=
 WP.any hm fun c0 c a hE h1 h2 h3=>by
 simp only[wM,Bool.and_eq_true,List.all_eq_true,beq_iff_eq]at hB;obtain⟨⟨⟨⟨b1,b2⟩,b3⟩,b4⟩,b5⟩:=hB;have hcl:=Closed.none .any ops ops.size;have hd:=jz (md:=.any) 0 l1 (Array.replicate ops.size false) (lk ρ) h (KA b2 b3) hcl b1 (jl (fun F h hh=>⟨rfl,hh⟩) l1 _ h (dM hU l1 ρ h hk))
 rw[Nat.zero_add]at hd;have:=oL (m:=l2.length) hdst (fun listed c F h a k1 k2 k3 k4 he hR=>by
  subst he;obtain⟨ρ',rfl,hm2,hs2,hk2⟩:=hR;have ha:=kC (md:=.any) (all:=ops.toList) (z:=none) (hm:=hm2) hU (xy fun k e=>acD) (.seq l2) _ ρ' h (iX l1 _ hcl b1) b4 hk2
  have:=oL (m:=0) hdst (fun listed c F h a k1 k2 k3 k4 he hq=>wC k1 k2 k3 k4 he hq) _ _ c _ h a k1 k2 (fun i k hi=>k2 _ _ (hs2 _ _ hi)) k3 k4 ha
  rwa [Nat.zero_add]at this) _ _ c _ h a hE h1 (fun i k hi=>h1 _ _ (hsub _ _ hi)) h2 h3 hd
 rw[b5]at this;exact acQ
theorem WP.Tt(hU:∀t,aN P U t)(hm:P.follows .mixedOrders=true){id:Nat}{ops:Array Oper}{ρ:Env}{h hl:Heap}{K:Exit→Env→Heap→Prop}{l1 l2:List Nat}(hdst:∀o∈ops.toList,eS n o.dst=true)(hsub:Sub hl h)
  (hB:GI .any ops l1 l2=true) (hk:dL P U n ops.toList hl l1 ρ h (fun ρ h=>dL P U n ops.toList (fun _=>none) l2 ρ h (K .normal))):WP P n (.region id ops true) ρ h K:=
 WP.any hm fun c0 c a hE h1 h2 h3=>by
 simp only[GI,jQ,Bool.and_eq_true,beq_iff_eq,List.all_eq_true]at hB;obtain⟨⟨⟨b1,b2,b5⟩,b3⟩,b4⟩:=hB;have hcl:=Closed.none .any ops ops.size;have hd2:mA P ops (xX hl l1) (fun F h=>∃ρ,lk ρ=F∧K .normal ρ h) (l1++l2) (lk ρ) h:=
  Ak _ _ _ _ (xN (fun F h ⟨ρ',e,hk2⟩=>by
   subst e;exact xN (fun _ _ hh=>hh) l2 _ h (fun i hi=>by
    have:=b4 i hi;unfold xX;rw[if_neg (by simpa using this)]) (dM hU l2 ρ' h hk2)) l1 _ h (fun i hi=>by unfold xX;rw[if_pos (List.contains_iff_mem.2 hi)]) (dM hU l1 ρ h hk))
 have ha:=jz (md:=.any) (E:=wQ .any ops none) 0 _ _ _ _ (fun i _=>xy (fun k e=>acD) i) hcl b2 (jl (fun F h hh=>⟨b5,hh⟩) _ _ h hd2)
 rw[Nat.zero_add]at ha;have:=Fi b1 hdst (fun listed c F h a k1 k2 k3 k4 he hq=>wC k1 k2 k3 k4 he hq) _ _ c _ h a hcl hE h1 (fun i k hi=>h1 _ _ (hsub _ _ hi)) h2 h3 ha
 rw[b3,Nat.zero_add]at this;exact acQ
theorem xW:∀ {l:List Oper},rH l=true→∃o,l.getLast? =some o∧o.guard=none
 | [o],h=>⟨o,rfl,by simp_all [rH,Bool.and_eq_true]⟩
 |_::b::r,h=>by
  obtain⟨o,h1,h2⟩:=xW (l:=b::r) h
  grind
theorem WP.Tw(hU:∀t,aN P U t)(hm:P.follows .mixedOrders=true){id:Nat}{ops:Array Oper}{ρ:Env}{h hl:Heap}{K:Exit→Env→Heap→Prop}{l:Ord}(hdst:∀o∈ops.toList,eS n o.dst=true)(hsub:Sub hl h)
  (hz:Eh .any ops l.len=true) (hg:(ops.toList.getLast?.map fun o=>o.guard.isNone)=some true) (hB:jQ .any ops (some l.len) l (Array.replicate ops.size false)=true) (hlen:l.len+1=ops.size)
  (hk:lB P U n ops.toList hl l ρ h (fun ρ h=>pI P U ops.toList h (K .normal) ρ)):WP P n (.region id ops true) ρ h K:=
 WP.any hm fun c0 c a hE h1 h2 h3=>by
 obtain⟨oz,hoz,hgz⟩:=Option.map_eq_some_iff.1 hg;have hzz:ops[l.len]? =some oz:=by
  grind
 have hd:=kC (md:=.any) (all:=ops.toList) (z:=some l.len) hU (xy fun k e=>by cases e;exact hz) l (Array.replicate ops.size false) ρ h (.none _ _ _) hB hk
 have:=oL (m:=1) hdst (fun listed c F h a k1 k2 k3 k4 he hq=>CD hU hoz (by simpa using hgz) hzz hdst k1 k2 k3 k4 he hq) _ _ c _ h a hE h1 (fun i k hi=>h1 _ _ (hsub _ _ hi)) h2 h3 hd
 rw[Nat.add_comm,hlen]at this;exact acQ
theorem WP.Tv(hU:∀t,aN P U t)(hm:P.follows .mixedOrders=true){id:Nat}{ops:Array Oper}{ρ:Env}{h:Heap}{K:Exit→Env→Heap→Prop}(hdst:∀o∈ops.toList,eS n o.dst=true)(hl:rH ops.toList=true)(hB:Le ops=true)
  (hk:lK P U n ops.toList ops.toList.dropLast ρ h (pI P U ops.toList h (K .normal))):WP P n (.region id ops true) ρ h K:=
 WP.any hm fun c0 c a hE h1 h2 h3=>by
 obtain⟨oz,hoz,hgz⟩:=xW hl;unfold Le at hB;rw[Bool.and_eq_true]at hB;have hpos:0<ops.size:=by
  grind
 have hz:ops[ops.size - 1]? =some oz:=by
  grind
 have hlen:ops.toList.dropLast.length=ops.size - 1:=aci;have hd:=xo (md:=.any) (ops:=ops) (z:=some (ops.size - 1)) (fun k e=>by cases e;exact hB.1) ops.toList.dropLast 0 (Array.replicate ops.size false) (lk ρ) h (.none _ _ _) ab8 ab8 (by simpa using pz hU ops.toList.dropLast ρ hk)
 have:=xp (m:=1) hdst (fun listed c F g a k1 k2 k3 k4 he hq=>CD hU hoz hgz hz hdst k1 k2 k3 k4 he hq) _ _ c _ h a hE h1 h2 h3 hd
 rw[hlen,Nat.add_comm,Nat.sub_add_cancel hpos]at this;exact acQ
theorem dK(hU:∀t,aN P U t)(hm:P.follows .mixedOrders=true):∀(c:Code) (ρ:Env) (h:Heap) (K:Exit→Env→Heap→Prop),bx P U n c ρ h K→WP P n c ρ h K
 |.skip,ρ,h,K,hk=>fun cx a h1 h2 h3=>wp_skip ⟨cx,ρ,h,rfl,h2,.refl _,h3,h1,hk⟩
 |.region id ops draw,ρ,h,K,hk=>by
  simp only[bx]at hk;cases draw with
  |true=>
   simp only[if_true]at hk;split at hk
   ·rename_i hl
    obtain⟨hb,hk⟩:=hk;rw[Bool.and_eq_true,List.all_eq_true]at hb;rw[Bool.and_eq_true]at hl;exact WP.Tv hU hm hb.2 hl.1 hb.1 hk
   ·split at hk
    ·obtain⟨hb,hk⟩:=hk
     rw[List.all_eq_true]at hb;rcases hk with⟨h1,hk⟩|⟨hm',t,Post,h1,h2,h3,hk,hp⟩|⟨hm',l1,l2,h1,h2,hk⟩|⟨hm',l,h1,h2,h4,h5,h6,hk⟩|⟨hm',l1,l2,h1,h2,hk⟩
     ·exact WP.draw hU hm hb h1 hk
     ·exact WP.Gj hU hm hb h1 h2 h3 hk hp
     ·exact WP.Tu hU hm hb h1 h2 hk
     ·exact WP.Tw hU hm hb h1 h2 h4 h5 h6 hk
     ·exact WP.Tt hU hm hb h1 h2 hk
    ·obtain⟨hb,hk⟩:=hk
     rw[Bool.and_eq_true,List.all_eq_true]at hb;exact WP.draw hU hm hb.2 hb.1 hk
  |false=>exact WP.ops hU ab8
 |.seq a b,ρ,h,K,hk=>by
  simp only[bx]at hk;refine WP.seq ((dK hU hm a ρ h _ hk).weaken fun e ρ' h' hh=>?_)
  cases e with
  |normal=>exact dK hU hm b ρ' h' K hh
  |_=>exact hh
 |.cond c a b,ρ,h,K,hk=>by
  simp only[bx]at hk;obtain⟨y,hy,hk⟩:=aI hk;split at hk
  ·rename_i t
   intro cx ac h1 h2 h3;have hv:=(aF h3 hy).bT;exact wp_cond_split hv (fun e=>dK hU hm a ρ h K (hk.1 e) cx ac h1 h2 h3) (fun e=>dK hU hm b ρ h K (hk.2 e) cx ac h1 h2 h3)
  ·exact acz
 |.block id c,ρ,h,K,hk=>WP.block (dK hU hm c ρ h _ (by grind [bx]))
 |.loop c,ρ,h,K,hk=>by
  simp only[bx]at hk;intro cx a h1 h2 h3;obtain⟨I,m,h0,hr⟩:=hk h3.wf;exact WP.loop I m h0 (fun m ρ h hI=>dK hU hm c ρ h _ (hr m ρ h hI)) cx a h1 h2 h3
 |.exit id,ρ,h,K,hk=>fun cx a h1 h2 h3=>wp_exit ⟨cx,ρ,h,rfl,h2,.refl _,h3,h1,ae9⟩
 |.ret,ρ,h,K,hk=>fun cx a h1 h2 h3=>wp_ret ⟨cx,ρ,h,rfl,h2,.refl _,h3,h1,ae9⟩
 |.label l,ρ,h,K,hk=>fun cx a h1 h2 h3=>wp_label ⟨cx,ρ,h,rfl,h2,.refl _,h3,h1,ae9⟩
 |.goto l,ρ,h,K,hk=>fun cx a h1 h2 h3=>wp_goto ⟨cx,ρ,h,rfl,h2,.refl _,h3,h1,ae9⟩
 |.rangeFunc ..,_,_,_,hk=>by simp[bx]at hk
 |.scope c,ρ,h,K,hk=>by
  simp only[bx]at hk;obtain⟨l,rest,J,hf,h1,h2⟩:=hk;exact WP.scope l J hf (dK hU hm c ρ h _ h1) h2
 |.refuse _,_,_,_,hk=>by simp[bx]at hk
def sk(ρ:Env)(h:Heap)(U:TypeId→TI):List ResultVar→(List AV→Prop)→Prop
 | [],k=>k []
 |.tmp t::r,k=>match lk ρ t with
  |some x=>sk ρ h U r fun xs=>k (x::xs)
  |none=>False
 |.cell t ty::r,k=>match lk ρ t with
  |some (.ptr id off)=>match h id with
   |some (.obj cs _)=>(U ty).sz≠0∧(U ty).k≠ .other∧ij cs off (U ty) fun x=>sk ρ h U r fun xs=>k (x::xs)
   |_=>False
  |_=>False
def ax(xs:List AV):AV:=match xs with
 | [x]=>x
 |xs=> .tup xs
inductive Weak:AV→AV→Prop where
 |refl (x:AV):Weak x x
 |sl (xs:List AV) (p:Perm):Weak (.sl xs p) (.sl xs .no)
 |agg (xs ys:List AV) (hl:xs.length=ys.length) (h:∀i (h1:i<xs.length) (h2:i<ys.length),Weak xs[i] ys[i]):Weak (.agg xs) (.agg ys)
 |tup (xs ys:List AV) (hl:xs.length=ys.length) (h:∀i (h1:i<xs.length) (h2:i<ys.length),Weak xs[i] ys[i]):Weak (.tup xs) (.tup ys)
 |deep (xs ys:List AV) (p:Perm) (hl:xs.length=ys.length) (hc:∀i (h1:i<xs.length) (h2:i<ys.length),xs[i].cells.length=ys[i].cells.length)
   (h:∀i (h1:i<xs.length) (h2:i<ys.length) j (h3:j<xs[i].cells.length) (h4:j<ys[i].cells.length),Weak xs[i].cells[j] ys[i].cells[j]):Weak (.sl xs p) (.sl ys .no)
theorem Rep.weak{c:Cx}{x y:AV}(hw:Weak x y):∀ {u:Value},Rep c x u→Rep c y u:=by
 induction hw with
 |refl x=>simp
 |sl xs p=>
  intro u h;obtain⟨a,cap,sz,val,rfl,hs⟩:=h.iq;exact .sl xs .no a cap sz val hs.hc hs.hm hs.h0 hs.hs hs.hz hs.hf hs.hr hs.ho trivial
 |agg xs ys hl h ih=>
  intro u hu;obtain⟨vs,rfl,h1,h2,h3⟩:=hu.oA;exact .agg ys vs ab7 ab8 ab8
 |tup xs ys hl h ih=>
  intro u hu;obtain⟨vs,rfl,h1,h2⟩:=hu.BY;exact .tup ys vs ab7 ab8
 |deep xs ys p hl hc h ih=>
  intro u hu;obtain⟨a,cap,sz,val,rfl,hs⟩:=hu.iq;rw[hl];exact .sl ys .no a cap sz val (by rw[←hl];exact hs.hc) hs.hm hs.h0 hs.hs (fun i hi=>by rw[←hc i ab7 hi];exact hs.hz i ab7) (fun q hq i j hi hj=>hs.hf q hq i j ab7 hj)
   (fun i hi j hj=>ih i ab7 hi j ab8 hj (hs.hr i ab7 j ab8)) (fun i j hi hj=>hs.ho i j ab7 hj) trivial
theorem sn(hU:∀t,aN P U t){c:Cx}{ρ:Env}{h:Heap}{a:Act}(hs:Sub h c.h)(g:Good c)(he:cq c n ρ a):∀(rs:List ResultVar) (k:List AV→Prop),sk ρ h U rs k→
  ∃(xs:List AV) (vs:List Value),k xs∧vs.length=xs.length∧(∀i (h1:i<xs.length) (h2:i<vs.length),Rep c xs[i] vs[i])∧
   (rs.mapM fun(r:ResultVar)=>match r with|.tmp t=>(pure (a.tmps.getD t undef):Sem Value)|.cell q t=>do loadVar t (←asAddr (a.tmps.getD q undef))).run P c.w= .ok vs c.w
 | [],k,hk=>⟨[],[],hk,rfl,fun i h=>acZ,aci⟩
 |.tmp t::r,k,hk=>by
  simp only[sk]at hk;split at hk
  ·rename_i x hx
   obtain⟨xs,vs,h1,h2,h3,h4⟩:=sn hU hs g he r _ hk;refine⟨x::xs,a.tmps.getD t undef::vs,h1,ab8,fun i hi1 hi2=>?_,?_⟩
   ·cases i with
    |zero=>exact he.rep _ _ hx
    |succ i=>exact h3 i ab8 ab8
   simp_all
  grind
 |.cell t ty::r,k,hk=>by
  simp only[sk]at hk;split at hk
  ·rename_i id off hx
   split at hk
   ·rename_i cs t' hid
    obtain⟨hz,ht,hk⟩:=hk;obtain⟨x,hk,hX⟩:=se (P:=P) hU hz ht hk;obtain⟨xs,vs,h1,h2,h3,h4⟩:=sn hU hs g he r _ hk;obtain⟨hu,_⟩:=(he.rep _ _ hx).kL;obtain⟨us,u1,u2,u3⟩:=g.obj id cs t' (hs _ _ hid);obtain⟨v,v1,v2⟩:=hX c (c.φ id).block 0 (fun j=>us.getD j undef) (fun j hj=>by
     simp_all [World.cell?]) (fun j hj=>(u3 j hj).1) (fun j hj=>(u3 j hj).2)
    rw[Nat.zero_add]at v1;refine⟨x::xs,v::vs,h1,ab8,fun i hi1 hi2=>?_,?_⟩
    ·cases i with
     |zero=>exact v2
     |succ i=>exact h3 i ab8 ab8
    simp_all [asAddr,undef,none]
   grind
  grind
def xA(args:List AV):Env:=args.zipIdx.map fun p=>(p.2,p.1)
theorem yd:∀(args:List AV) (k t:Nat),lk ((args.zipIdx k).map fun p=>(p.2,p.1)) t=if k≤t then args[t - k]? else none
 | [],k,t=>by simp[lk]
 |x::r,k,t=>by
  have ih:=yd r (k+1) t;simp only[List.zipIdx_cons,List.map_cons,lk,ih]
  by_cases e:k=t
  ·subst e;simp
  ·rw[if_neg e]
   by_cases h:k≤t
   ·rw[if_pos ab7,if_pos h]
    rw[show t - k=(t - (k+1))+1 by omega]
    rfl
   ·rw[if_neg ab7,if_neg h]
def vf(U:TypeId→TI)(rs:List ResultVar)(Q:AV→Heap→Prop)(e:Exit)(ρ:Env)(h:Heap):Prop:=
 (match e with|.ret|.normal=>True|_=>False)∧sk ρ h U rs fun xs=>∃y h',Weak (ax xs) y∧Sub h' h∧Q y h'
theorem ai.Lv(hU:∀t,aN P U t){f:FuncId}{fn:Func}{c:Code}{args:List AV}{h:Heap}{Q:AV→Heap→Prop}(hf:P.funcs[f]? =some fn)(hb:fn.body=some c)
  (hn : (fn.name == "runtime.NumGoroutine") = false) (hl : args.length ≤ fn.ntmps)
  (hk:(∀x∈args,wfA x)→WP P fn.ntmps c (xA args) h (vf U fn.results.toList Q)):ai P f args h Q:=by
 intro cx vs hs g hv hr;refine .inl ⟨⟨fn,hf,hn,ab8⟩,calls_of_wp hf hb ?_⟩;have hwf:∀x∈args,wfA x:=fun x hx=>by
  obtain⟨i,hi,rfl⟩:=List.mem_iff_getElem.1 hx;exact(hr i hi).wf
 have hw:=hk hwf;have he:cq cx fn.ntmps (xA args) {tmps:=vs++Array.replicate (fn.ntmps - vs.size) undef,defers:=[]}:=by
  refine⟨ab8,rfl,fun t x hx=>?_⟩
  have:=yd args 0 t;simp only[Nat.zero_le,if_true,Nat.sub_zero]at this;have e:lk (xA args) t=args[t]? :=this;rw[e]at hx;obtain⟨hi,rfl⟩:=List.getElem?_eq_some_iff.1 hx;have h1:=hr t hi;have h2:t<vs.size:=ab7;have e2:(vs++Array.replicate (fn.ntmps - vs.size) undef).getD t undef=vs.getD t undef:=by
   rw[Array.getD,dif_pos ab8,Array.getD,dif_pos h2]
   simp_all
  simp only[e2];exact h1
 refine wp_mono (hw cx _ hs g he) fun e a w hq=>?_
 obtain⟨c',ρ',h',rfl,g',hE,he',hs',hk1,hk2⟩:=hq;obtain⟨xs,us,⟨y,h'',hwk,hsub,hQ⟩,hl',hr',hrun⟩:=sn hU hs' g' he' _ _ hk2;have hres:∃u,(results fn a.tmps).run P c'.w= .ok u c'.w∧Rep c' (ax xs) u:=by
  have hrun' :(fn.results.mapM fun(r:ResultVar)=>match r with|.tmp t=>(pure (a.tmps.getD t undef):Sem Value)|.cell q t=>do loadVar t (←asAddr (a.tmps.getD q undef))).run P c'.w= .ok us.toArray c'.w:=by
   simp_all [Array.mapM_eq_mapM_toList,Sem.run_map]
  have hres0:(results fn a.tmps).run P c'.w= .ok (if h:us.toArray.size=1 then us.toArray[0]else .tuple us.toArray) c'.w:=by
   have e0:results fn a.tmps=(fn.results.mapM fun(r:ResultVar)=>match r with|.tmp t=>(pure (a.tmps.getD t undef):Sem Value)|.cell q t=>do loadVar t (←asAddr (a.tmps.getD q undef)))>>=fun vs=>pure (if h:vs.size=1 then vs[0]else .tuple vs):=rfl
   rw[e0,Sem.run_bind,hrun'];rfl
  by_cases h1:us.length=1
  ·obtain⟨u,rfl⟩:=List.length_eq_one_iff.1 h1
   obtain⟨x,rfl⟩:=List.length_eq_one_iff.1 (hl'.symm.trans h1);refine⟨u,?_,hr' 0 aci aci⟩
   grind
  ·refine⟨.tuple us.toArray,?_,?_⟩
   ·grind
   ·have:ax xs= .tup xs:=by
     cases xs with
     |nil=>rfl
     |cons x r=>cases r with
      |nil=>grind
      |cons y q=>rfl
    rw[this];refine .tup xs _ ab7 fun i hi=>?_
    have:=hr' i hi ab7;simpa[show i<us.length by omega]using this
 obtain⟨u,hu1,hu2⟩:=hres;have fin:a.defers= []∧∃v,(results fn a.tmps).run P c'.w= .ok v c'.w∧∃u,Ending.returned v= .returned u∧eT cx Q u c'.w:=
  ⟨he'.defers,u,hu1,u,rfl,c',y,h'',rfl,g',hE,hu2.weak hwk,fun id k hk=>hs' _ _ (hsub _ _ hk),hQ⟩
 cases e with
 |normal=>exact fin
 |ret=>exact fin
 |_=>exact hk1.elim
theorem ai.Uh(hU:∀t,aN P U t)(hm:P.follows .mixedOrders=true){f:FuncId}{fn:Func}{c:Code}{args:List AV}{h:Heap}{Q:AV→Heap→Prop}(hf:P.funcs[f]? =some fn)(hb:fn.body=some c)
  (hn : (fn.name == "runtime.NumGoroutine") = false) (hl : args.length ≤ fn.ntmps)
  (hk:(∀x∈args,wfA x)→bx P U fn.ntmps c (xA args) h (vf U fn.results.toList Q)):ai P f args h Q:=
 ai.Lv hU hf hb hn hl fun hw=>dK hU hm c _ h _ (hk hw)
end
def zi:AV→Value→Bool
 |.v (.int k n),.int k' m=>decide (k=k') && decide (n=m)
 |.v (.bool a),.bool b=>a==b
 |.s [],.string b=>b.data.toList.isEmpty
 |.sl [] .full,.slice none 0 0=>true
 |.v (.pointer none),.pointer none=>true
 |.v .nilIface,.nilIface=>true
 |.v .nilFunc,.nilFunc=>true
 |.v (.map none),.map none=>true
 |.v (.complex k a b),.complex k' a' b' =>decide (k=k') && a==a' && b==b'
 |_,_=>false
theorem sv{x:AV}{v:Value}(h:zi x v=true)(c:Cx):Rep c x v∧v.oneCell' =true:=by
 unfold zi at h;split at h
 ·simp at h;obtain⟨rfl,rfl⟩:=h;exact⟨.v _,rfl⟩
 ·simp at h;subst h;exact⟨.v _,rfl⟩
 ·rename_i b
  have e:b=⟨([]:List UInt8).toArray⟩:=by
   apply ByteArray.ext
   grind
  subst e;exact⟨.s [] acd,rfl⟩
 ·exact⟨yK c (.slice none 0 0),rfl⟩
 ·exact af3
 ·exact af3
 ·exact af3
 ·exact af3
 ·simp at h;obtain⟨⟨rfl,rfl⟩,rfl⟩:=h;exact⟨.v _,rfl⟩
 grind
def u0:List AV→List Value→Bool
 | [],[]=>true
 |x::xs,v::vs=>zi x v && u0 xs vs
 |_,_=>false
theorem vU:∀ {xs:List AV} {vs:List Value},u0 xs vs=true→xs.length=vs.length∧∀i (h1:i<xs.length) (h2:i<vs.length),zi xs[i] vs[i]=true
 | [],[],_=>aci
 |x::xs,v::vs,h=>by
  simp only[u0,Bool.and_eq_true]at h;obtain⟨h1,h2⟩:=vU h.2
  grind
 | [],_::_,h=>by grind [u0]
 |_::_,[],h=>by grind [u0]
def MA:AV→Value→Bool
 |.agg xs,.agg vs=>u0 xs vs.toList
 |x,v=>zi x v
theorem JQ{x:AV}{v:Value}(h:MA x v=true)(c:Cx):Rep c x v:=by
 unfold MA at h;split at h
 ·rename_i xs vs
  obtain⟨h1,h2⟩:=vU h;have hl:vs.size=xs.length:=ab8;refine .agg xs vs hl (fun i hi=>?_) (fun i hi=>?_)
  ·have:=(sv (h2 i hi ab7) c).1
   simpa[show i<vs.size by omega]using this
  ·have:=(sv (h2 i hi ab7) c).2
   simpa[show i<vs.size by omega]using this
 ·exact(sv h c).1
def Ku(P:Program)(U:TypeId→TI)(t:TypeId):Bool:=
 match (U t).k,P.underlying t with
 |.int k,some (.int k')=>decide (k' =k)
 |.bool,some .bool=>true
 |.str,some .string=>true
 |.slice e,some (.slice e')=>decide (e' =e)
 |.strct fs,some (.struct fields)=>decide (fields.toList.map (fun f=>(f.offset,f.type))=fs) && fs.all fun p=>(U p.2).sz !=0
 |.ptr e,some (.pointer e')=>decide (e' =e)
 |.arr n e,some (.array n' e')=>decide (n' =n) && decide (e' =e)
 |.iface,some (.interface _)=>true
 |.cplx k,some (.complex k')=>decide (k' =k)
 |.map k e,some (.map k' e')=>decide (k' =k) && decide (e' =e)
 |.other,_=>true
 |_,_=>false
def KR(P:Program)(U:TypeId→TI)(t:TypeId):Bool:=
 (U t).sz==0||match P.info? t with
  |some i=>i.size==(U t).sz && i.bytes==(U t).bytes && match i.zero with
   |some z=>z.cells.size==(U t).sz && MA (U t).zero z
   |none=>false
  |none=>false
def Mp(P:Program)(U:TypeId→TI)(t:TypeId):Bool:=match (U t).k with
 |.strct []=>match P.info? t with
  |some i=>match i.zero with
   |some (.agg vs)=>vs.isEmpty && i.size==0
   |_=>false
  |none=>false
 |_=>true
def Rr:TK→TK→Bool
 |.int a,.int b=>decide (a=b)
 |.bool,.bool=>true
 |.str,.str=>true
 |.cplx a,.cplx b=>decide (a=b)
 |_,_=>false
theorem Ok{a b:TK}(h:Rr a b=true):a=b:=by
 unfold Rr at h
 grind
def tM:List TK→List TK→Bool
 | [],[]=>true
 |x::xs,y::ys=>Rr x y && tM xs ys
 |_,_=>false
theorem tN:∀ {a b:List TK},tM a b=true→a=b
 | [],[],_=>rfl
 | [],_::_,h=>acZ
 |_::_,[],h=>acZ
 |x::xs,y::ys,h=>by
  simp only[tM,Bool.and_eq_true]at h;rw[Ok h.1,tN h.2]
def yX(U:TypeId→TI)(r:Nat):List (Nat×TypeId)→Nat→List TK→Bool
 | [],_,l=>l.isEmpty
 |f::fs,o,l=>match (U f.2).eq with
  |some (r',l')=>f.1==o && decide (r' <r) && tM (l.take l'.length) l' && yX U r fs (o+l'.length) (l.drop l'.length)
  |none=>false
theorem vQ{U:TypeId→TI}{r:Nat}:∀ {fs:List (Nat×TypeId)} {o:Nat} {l:List TK},yX U r fs o l=true→D7 U r fs o l
 | [],o,l,h=>by grind [yX,D7]
 |f::fs,o,l,h=>by
  unfold yX at h;split at h
  ·rename_i r' l' he
   simp only[Bool.and_eq_true,beq_iff_eq,decide_eq_true_eq]at h;obtain⟨⟨⟨h1,h2⟩,h3⟩,h4⟩:=h;exact⟨h1,r',l',he,h2,tN h3,vQ h4⟩
  grind
def eqB(P:Program)(U:TypeId→TI)(t:TypeId):Bool:=match (U t).eq with
 |none=>true
 |some (r,l)=>l.length==(U t).sz && !l.isEmpty && decide (r<100) && match (U t).k with
  |.int k=>tM l [.int k]
  |.bool=>tM l [.bool]
  |.str=>tM l [.str]
  |.cplx k=>tM l [.cplx k]
  | .strct fs => !P.stoodInHeld t && !P.eqGuardType P.depth t && (P.fieldsOf t).toList.all (fun f => f.name != "_") && yX U r fs 0 l
  |.arr n e=> !P.eqGuardType P.depth t && match (U e).eq with
   |some (r',l')=>decide (r' <r) && tM l (List.replicate n l').flatten
   |none=>false
  |_=>false
theorem KC{P:Program}{U:TypeId→TI}{t:TypeId}(h:eqB P U t=true):∀r l,(U t).eq=some (r,l)→MI P U t r l:=by
 intro r l he;unfold eqB at h;rw[he]at h;simp only[Bool.and_eq_true,beq_iff_eq,decide_eq_true_eq,Bool.not_eq_true']at h;obtain⟨⟨⟨h1,h2⟩,h3⟩,h4⟩:=h;refine⟨h1,(by intro e;rw[e]at h2;cases h2),h3,?_⟩
 cases hk:(U t).k<;>rw[hk]at h4<;>simp only at h4⊢<;>first|exact tN h4|(cases h4)|skip
 ·simp only[Bool.and_eq_true,Bool.not_eq_true',List.all_eq_true]at h4
  obtain⟨⟨⟨g1,g2⟩,g3⟩,g4⟩:=h4;exact⟨g1,g2,fun f hf=>by simpa using g3 f (by simpa using hf),vQ g4⟩
 ·simp only[Bool.and_eq_true,Bool.not_eq_true']at h4
  obtain⟨g1,g2⟩:=h4;split at g2
  ·rename_i r' l' he'
   simp only[Bool.and_eq_true,decide_eq_true_eq]at g2;exact⟨g1,r',l',he',g2.1,tN g2.2⟩
  ·cases g2
theorem J4{P:Program}{U:TypeId→TI}{t:TypeId}(h1:Ku P U t=true)(h2:KR P U t=true)(h3:Mp P U t=true)(h4:eqB P U t=true):aN P U t:=by
 refine⟨?_,fun hz=>?_,fun hz=>?_,KC h4⟩
 ·unfold Ku at h1
  grind
 ·unfold KR at h2
  simp only[Bool.or_eq_true,beq_iff_eq,hz,false_or]at h2;split at h2
  ·rename_i i hi
   simp only[Bool.and_eq_true,beq_iff_eq]at h2;obtain⟨⟨h3,h4⟩,h5⟩:=h2;split at h5
   ·simp_all [Bool.and_eq_true,beq_iff_eq,JQ]
   grind
  grind
 ·unfold Mp at h3
  grind
theorem HF{P:Program}{U:TypeId→TI}(N:Nat)(h:(List.range N).all (fun t=>Ku P U t && KR P U t && Mp P U t && eqB P U t)=true)(h' :∀t,N≤t→U t=⟨.other,0,0,default,none⟩):∀t,aN P U t:=by
 intro t
 by_cases ht:t<N
 ·simp_all [List.all_eq_true,Bool.and_eq_true,J4]
 ·have:=h' t ab8
  exact⟨ab8,fun hz=>ab8,fun hz=>ab8,fun r l he=>ab8⟩
section
variable {P : Program} {U : TypeId → TI} {n : Nat} {ρ : Env} {h : Heap}
def aE{α:Type}(o:Option α)(k:α→Prop):Prop:=match o with
 |some y=>k y
 |none=>False
@[congr] theorem OO{α:Type}{o o' :Option α}{k:α→Prop}(e:o=o'):aE o k=aE o' k:=by rw[e]
@[go_sem] theorem dw{α:Type}(y:α)(k:α→Prop):aE (some y) k=k y:=rfl
def Br(t:Bool)(A B:Prop):Prop:=(t=true→A)∧(t=false→B)
@[congr] theorem SV{t t' :Bool}{A B:Prop}(e:t=t'):Br t A B=Br t' A B:=by rw[e]
@[go_sem] theorem UO(A B:Prop):Br true A B=A:=by simp[Br]
@[go_sem] theorem SW(A B:Prop):Br false A B=B:=by simp[Br]
def atH(Q:AV→Heap→Prop)(h:Heap)(r:AV):Prop:=Q r h
@[go_sem↓] theorem V3(Q:AV→Heap→Prop)(h:Heap)(r:AV):atH Q h r=Q r h:=rfl
def atK(t:TK)(k:TK→Prop):Prop:=k t
@[congr] theorem R9{t t' :TK}{k:TK→Prop}(e:t=t'):atK t k=atK t' k:=by rw[e]
@[go_sem] theorem U1(x:IntKind)(k:TK→Prop):atK (.int x) k=k (.int x):=rfl
@[go_sem] theorem U3(k:TK→Prop):atK .str k=k .str:=rfl
@[go_sem] theorem Sa(x:TypeId)(k:TK→Prop):atK (.slice x) k=k (.slice x):=rfl
@[go_sem] theorem Sb(x:List (Nat×TypeId))(k:TK→Prop):atK (.strct x) k=k (.strct x):=rfl
def fm(xs:List AV)(m:Int)(sz:Nat)(k:AV→Prop):Prop:=Idx xs m fun b=>b.cells.length=sz∧k (.pe b 0)
theorem fm.at{xs:List AV}{sz:Nat}{k:AV→Prop}(j:Nat)(hj:j<xs.length)(hz:xs[j].cells.length=sz)(hk:k (.pe xs[j] 0)):fm xs (j:Int) sz k:=⟨ab7,xs[j],aci,hz,hk⟩
def ML(l:List UInt8)(m:Int)(k:AV→Prop):Prop:=Idx l m fun b=>k (aK b)
theorem ML.at{l:List UInt8}{k:AV→Prop}(j:Nat)(hj:j<l.length)(hk:k (aK l[j])):ML l (j:Int) k:=⟨ab7,l[j],aci,hk⟩
@[congr] theorem PA{f f' :FuncId}{a a' :List AV}{h h' :Heap}{Q:AV→Heap→Prop}(h0:f=f')(h1:a=a')(h2:h=h'):ai P f a h Q=ai P f' a' h' Q:=by grind
@[go_sem↓] theorem VE(k:Nat)(x:AV)(r:Env)(t:Nat):lk ((k,x)::r) t=if k=t then some x else lk r t:=rfl
@[go_sem↓] theorem O3(d:Nat)(x:AV)(r:Env)(t:Nat):lk (put r (some d) x) t=if d=t then some x else lk r t:=rfl
@[go_sem↓] theorem O2(x:AV)(r:Env)(t:Nat):lk (put r none x) t=lk r t:=rfl
@[go_sem↓] theorem WB(args:List AV)(t:Nat):lk (xA args) t=args[t]? :=by
 have:=yd args 0 t;exact acQ
@[go_sem] theorem TO{α:Type}(x:α)(r:List α):(x::r)[0]? =some x:=rfl
@[go_sem] theorem TN{α:Type}(x:α)(r:List α)(i:Nat):(x::r)[i+1]? =r[i]? :=by simp
@[go_sem↓] theorem Wt(t:Nat):ev ρ (.tmp t)=lk ρ t:=rfl
@[go_sem↓] theorem Wr(k:IntKind)(m:Int):ev ρ (.const (.int k m))=some (.v (.int k m)):=rfl
@[go_sem↓] theorem Vi(b:Bool):ev ρ (.const (.bool b))=some (.b b):=rfl
@[go_sem↓] theorem Ws(a:Option Addr):ev ρ (.const (.pointer a))=some (.v (.pointer a)):=rfl
@[go_sem↓] theorem Vj(k:FloatKind)(a b:Nat):ev ρ (.const (.complex k a b))=some (.v (.complex k a b)):=rfl
@[go_sem↓] theorem TA(k:FloatKind)(a:Nat):ev ρ (.const (.float k a))=some (.v (.float k a)):=rfl
@[go_sem↓] theorem OZ:ev ρ (.const (.slice none 0 0))=some (.sl [] .full):=rfl
@[go_sem↓] theorem Vl:ev ρ (.const (.string ⟨#[]⟩))=some (.s []):=by rfl
@[go_sem↓] theorem Vm(a0:UInt8):ev ρ (.const (.string ⟨#[a0]⟩))=some (.s [a0]):=by rfl
@[go_sem↓] theorem Vn(a0 a1:UInt8):ev ρ (.const (.string ⟨#[a0,a1]⟩))=some (.s [a0,a1]):=by rfl
@[go_sem↓] theorem Vo(a0 a1 a2:UInt8):ev ρ (.const (.string ⟨#[a0,a1,a2]⟩))=some (.s [a0,a1,a2]):=by rfl
@[go_sem↓] theorem Vp(a0 a1 a2 a3:UInt8):ev ρ (.const (.string ⟨#[a0,a1,a2,a3]⟩))=some (.s [a0,a1,a2,a3]):=by rfl
@[go_sem↓] theorem Vq(a0 a1 a2 a3 a4:UInt8):ev ρ (.const (.string ⟨#[a0,a1,a2,a3,a4]⟩))=some (.s [a0,a1,a2,a3,a4]):=by rfl
@[go_sem↓] theorem Vr(a0 a1 a2 a3 a4 a5:UInt8):ev ρ (.const (.string ⟨#[a0,a1,a2,a3,a4,a5]⟩))=some (.s [a0,a1,a2,a3,a4,a5]):=by rfl
@[go_sem↓] theorem Vs(a0 a1 a2 a3 a4 a5 a6:UInt8):ev ρ (.const (.string ⟨#[a0,a1,a2,a3,a4,a5,a6]⟩))=some (.s [a0,a1,a2,a3,a4,a5,a6]):=by rfl
@[go_sem↓] theorem Vt(a0 a1 a2 a3 a4 a5 a6 a7:UInt8):ev ρ (.const (.string ⟨#[a0,a1,a2,a3,a4,a5,a6,a7]⟩))=some (.s [a0,a1,a2,a3,a4,a5,a6,a7]):=by rfl
@[go_sem↓] theorem TB(a0 a1 a2 a3 a4 a5 a6 a7 a8 a9:UInt8):ev ρ (.const (.string ⟨#[a0,a1,a2,a3,a4,a5,a6,a7,a8,a9]⟩))=some (.s [a0,a1,a2,a3,a4,a5,a6,a7,a8,a9]):=by rfl
@[go_sem↓] theorem TC(a0 a1 a2 a3 a4 a5 a6 a7 a8 a9 a10:UInt8):ev ρ (.const (.string ⟨#[a0,a1,a2,a3,a4,a5,a6,a7,a8,a9,a10]⟩))=some (.s [a0,a1,a2,a3,a4,a5,a6,a7,a8,a9,a10]):=by rfl
@[go_sem↓] theorem TD(a0 a1 a2 a3 a4 a5 a6 a7 a8 a9 a10 a11:UInt8):ev ρ (.const (.string ⟨#[a0,a1,a2,a3,a4,a5,a6,a7,a8,a9,a10,a11]⟩))=some (.s [a0,a1,a2,a3,a4,a5,a6,a7,a8,a9,a10,a11]):=by rfl
@[go_sem↓] theorem TE(a0 a1 a2 a3 a4 a5 a6 a7 a8 a9 a10 a11 a12:UInt8):ev ρ (.const (.string ⟨#[a0,a1,a2,a3,a4,a5,a6,a7,a8,a9,a10,a11,a12]⟩))=some (.s [a0,a1,a2,a3,a4,a5,a6,a7,a8,a9,a10,a11,a12]):=by rfl
@[go_sem↓] theorem TF(a0 a1 a2 a3 a4 a5 a6 a7 a8 a9 a10 a11 a12 a13 a14 a15:UInt8):ev ρ (.const (.string ⟨#[a0,a1,a2,a3,a4,a5,a6,a7,a8,a9,a10,a11,a12,a13,a14,a15]⟩))=some (.s [a0,a1,a2,a3,a4,a5,a6,a7,a8,a9,a10,a11,a12,a13,a14,a15]):=by rfl
@[go_sem↓] theorem TG(a0 a1 a2 a3 a4 a5 a6 a7 a8 a9 a10 a11 a12 a13 a14 a15 a16:UInt8):ev ρ (.const (.string ⟨#[a0,a1,a2,a3,a4,a5,a6,a7,a8,a9,a10,a11,a12,a13,a14,a15,a16]⟩))=some (.s [a0,a1,a2,a3,a4,a5,a6,a7,a8,a9,a10,a11,a12,a13,a14,a15,a16]):=by rfl
@[go_sem↓] theorem Vk(f:FuncId):ev ρ (.func f)=some (.fn f []):=rfl
def OR(x:Option AV)(r:Option (List AV)):Option (List AV):=match x,r with
 |some y,some ys=>some (y::ys)
 |_,_=>none
@[go_sem] theorem Qb(y:AV)(ys:List AV):OR (some y) (some ys)=some (y::ys):=rfl
@[go_sem↓] theorem Vu:evs ρ []=some []:=rfl
@[go_sem↓] theorem TH(x:Operand)(r:List Operand):evs ρ (x::r)=OR (ev ρ x) (evs ρ r):=rfl
@[go_sem↓] theorem bV(x:Operand)(k:AV→Prop):withv ρ x k=aE (ev ρ x) k:=by grind [withv,aE,ev]
@[go_sem↓] theorem gG(xs:List Operand)(k:List AV→Prop):withvs ρ xs k=aE (evs ρ xs) k:=by grind [withvs,aE,evs]
@[go_sem↓] theorem WW(K:Exit→Env→Heap→Prop):bx P U n .skip ρ h K=K .normal ρ h:=rfl
@[go_sem↓] theorem Uk(id:Nat)(l:List Oper)(K:Exit→Env→Heap→Prop):bx P U n (.region id l.toArray false) ρ h K=j6 P U n l l ρ h (K .normal):=rfl
def B6(P:Program)(U:TypeId→TI)(n:Nat)(b:Code)(K:Exit→Env→Heap→Prop):Exit→Env→Heap→Prop:=KSeq (fun ρ h=>bx P U n b ρ h K) K
@[go_sem↓] theorem ZZ(a b:Code)(K:Exit→Env→Heap→Prop):bx P U n (.seq a b) ρ h K=bx P U n a ρ h (B6 P U n b K):=rfl
@[go_sem↓] theorem MN(b:Code)(K:Exit→Env→Heap→Prop):B6 P U n b K .normal ρ h=bx P U n b ρ h K:=rfl
@[go_sem↓] theorem RX(b:Code)(K:Exit→Env→Heap→Prop):B6 P U n b K .ret ρ h=K .ret ρ h:=rfl
@[go_sem↓] theorem PK(b:Code)(K:Exit→Env→Heap→Prop)(i:Nat):B6 P U n b K (.exit i) ρ h=K (.exit i) ρ h:=rfl
@[go_sem↓] theorem PL(b:Code)(K:Exit→Env→Heap→Prop)(i:Nat):B6 P U n b K (.goto i) ρ h=K (.goto i) ρ h:=rfl
def nP(P:Program)(U:TypeId→TI)(n:Nat)(a b:Code)(ρ:Env)(h:Heap)(K:Exit→Env→Heap→Prop)(y:AV):Prop:=match y with
 |.v (.bool t)=>(t=true→bx P U n a ρ h K)∧(t=false→bx P U n b ρ h K)
 |_=>False
@[go_sem↓] theorem Py(a b:Code)(K:Exit→Env→Heap→Prop):nP P U n a b ρ h K (.b true)=bx P U n a ρ h K:=by simp[nP]
@[go_sem↓] theorem OC(a b:Code)(K:Exit→Env→Heap→Prop):nP P U n a b ρ h K (.b false)=bx P U n b ρ h K:=by simp[nP]
theorem nP.intro{a b:Code}{K:Exit→Env→Heap→Prop}{t:Bool}(h1:t=true→bx P U n a ρ h K)(h2:t=false→bx P U n b ρ h K):nP P U n a b ρ h K (.b t):=⟨h1,h2⟩
theorem nP.no{a b:Code}{K:Exit→Env→Heap→Prop}{t:Bool}(e:t=false)(h1:bx P U n b ρ h K):nP P U n a b ρ h K (.b t):=⟨fun h=>absurd (e.symm.trans h) aci,fun _=>h1⟩
@[go_sem↓] theorem WQ(c:Operand)(a b:Code)(K:Exit→Env→Heap→Prop):bx P U n (.cond c a b) ρ h K=aE (ev ρ c) (nP P U n a b ρ h K):=by
 simp only[bx,withv];cases ev ρ c with
 |none=>rfl
 |some y=>rfl
@[go_sem↓] theorem VQ(id:Nat)(c:Code)(K:Exit→Env→Heap→Prop):bx P U n (.block id c) ρ h K=bx P U n c ρ h (KBlock id K):=rfl
def u9(P:Program)(U:TypeId→TI)(n:Nat)(c:Code)(ρ:Env)(h:Heap)(K:Exit→Env→Heap→Prop):Prop:=JX (fun ρ h K=>bx P U n c ρ h K) ρ h K
def KRound(I:Nat→Env→Heap→Prop)(m:Nat)(K:Exit→Env→Heap→Prop):Exit→Env→Heap→Prop:=KSeq (fun ρ' h' =>∃m',m' <m∧I m' ρ' h') K
@[go_sem↓] theorem PJ{I:Nat→Env→Heap→Prop}{m:Nat}{K:Exit→Env→Heap→Prop}:KRound I m K .ret ρ h=K .ret ρ h:=rfl
@[go_sem↓] theorem OH{I:Nat→Env→Heap→Prop}{m:Nat}{K:Exit→Env→Heap→Prop}(i:Nat):KRound I m K (.exit i) ρ h=K (.exit i) ρ h:=rfl
theorem u9.intro{c:Code}{K:Exit→Env→Heap→Prop}(I:Nat→Env→Heap→Prop)(m:Nat)(h0:I m ρ h)(hr:∀m ρ h,I m ρ h→bx P U n c ρ h (KRound I m K)):u9 P U n c ρ h K:=fun _=>⟨I,m,h0,hr⟩
@[go_sem↓] theorem WV(c:Code)(K:Exit→Env→Heap→Prop):bx P U n (.loop c) ρ h K=u9 P U n c ρ h K:=rfl
@[go_sem↓] theorem RV(l:Nat)(J:Env→Heap→Prop)(K:Exit→Env→Heap→Prop):KJump l J K .ret ρ h=K .ret ρ h:=rfl
@[go_sem↓] theorem PG(l:Nat)(J:Env→Heap→Prop)(K:Exit→Env→Heap→Prop):KJump l J K (.goto l) ρ h=J ρ h:=by simp[KJump]
@[go_sem↓] theorem WT(id:Nat)(K:Exit→Env→Heap→Prop):bx P U n (.exit id) ρ h K=K (.exit id) ρ h:=rfl
@[go_sem↓] theorem ZY(K:Exit→Env→Heap→Prop):bx P U n .ret ρ h K=K .ret ρ h:=rfl
@[go_sem↓] theorem VS(l:Nat)(K:Exit→Env→Heap→Prop):bx P U n (.label l) ρ h K=K .normal ρ h:=rfl
@[go_sem↓] theorem WU(l:Nat)(K:Exit→Env→Heap→Prop):bx P U n (.goto l) ρ h K=K (.goto l) ρ h:=rfl
@[go_sem↓] theorem MC(id:Nat)(K:Exit→Env→Heap→Prop):KBlock id K .normal ρ h=K .normal ρ h:=rfl
@[go_sem↓] theorem PE(id:Nat)(K:Exit→Env→Heap→Prop):KBlock id K .ret ρ h=K .ret ρ h:=rfl
@[go_sem↓] theorem OG(id:Nat)(K:Exit→Env→Heap→Prop)(j:Nat):KBlock id K (.exit j) ρ h=if j=id then K .normal ρ h else K (.exit j) ρ h:=rfl
@[go_sem↓] theorem ZX(all:List Oper)(K:Env→Heap→Prop):j6 P U n all [] ρ h K=K ρ h:=rfl
def KOps(P:Program)(U:TypeId→TI)(n:Nat)(all os:List Oper)(K:Env→Heap→Prop)(ρ:Env)(d:Option Tmp)(x:AV)(h:Heap):Prop:=j6 P U n all os (put ρ d x) h K
@[go_sem↓] theorem UR(all os:List Oper)(K:Env→Heap→Prop)(d:Option Tmp)(x:AV):KOps P U n all os K ρ d x h=j6 P U n all os (put ρ d x) h K:=rfl
@[go_sem↓] theorem WR(all:List Oper)(d:Option Tmp)(op:Op)(t:TypeId)(p:String)(a:Array Edge)(os:List Oper)(K:Env→Heap→Prop):
  j6 P U n all (⟨d,op,t,p,a,none⟩::os) ρ h K=(eS n d=true∧aZ P U ρ h ⟨d,op,t,p,a,none⟩ (KOps P U n all os K ρ d)):=rfl
@[go_sem] theorem Qo(d:Nat):(eS n (some d)=true)=(d<n):=by simp[eS]
@[go_sem] theorem Qn:(eS n none=true)=True:=by simp[eS]
def gB(d:Nat)(w:Bool)(ρ:Env)(yes no:Env→Prop)(x:AV):Prop:=match x with
 |.v (.bool t)=>if w then Br t (yes ((d,.b true)::ρ)) (no ((d,.b false)::ρ))else Br t (no ((d,.b true)::ρ)) (yes ((d,.b false)::ρ))
 |.v (.tuple _)=>no ρ
 |_=>False
@[go_sem↓] theorem Qm(d:Option Tmp)(op:Op)(t:TypeId)(p:String)(a:Array Edge)(g:Option (Nat×Bool))(os:List Oper):qj (⟨d,op,t,p,a,g⟩::os) 0=d:=rfl
@[go_sem↓] theorem Ql(o:Oper)(os:List Oper)(i:Nat):qj (o::os) (i+1)=qj os i:=by rfl
theorem uh(all:List Oper)(g:Nat)(w:Bool)(yes no:Env→Prop):jL all ρ (some (g,w)) yes no=aE (qj all g) fun d=>aE (lk ρ d) fun x=>gB d w ρ yes no x:=by
 simp only[jL];cases qj all g with
 |none=>rfl
 |some d=>
  simp only[dw];cases lk ρ d with
  |none=>rfl
  |some x=>cases x with
   |v u=>cases u<;>first|rfl|(rename_i t;cases w<;>cases t<;>simp[aE,gB,Br])
   |_=>rfl
def jj(P:Program)(U:TypeId→TI)(n:Nat)(all os:List Oper)(ρ:Env)(h:Heap)(K:Env→Heap→Prop)(w:Bool)(d:Option Tmp)(op:Op)(t:TypeId)(p:String)(a:Array Edge)(s:Nat)(x:AV):Prop:=
 gB s w ρ (fun ρ=>aZ P U ρ h ⟨d,op,t,p,a,none⟩ (KOps P U n all os K ρ d)) (fun ρ=>j6 P U n all os (put ρ d (.v undef)) h K) x
section
variable {all os : List Oper} {K : Env → Heap → Prop} {d : Option Tmp} {op : Op} {t : TypeId} {p : String} {a : Array Edge} {s : Nat}
@[go_sem↓] theorem RN:jj P U n all os ρ h K true d op t p a s (.b true)=aZ P U ((s,.b true)::ρ) h ⟨d,op,t,p,a,none⟩ (KOps P U n all os K ((s,.b true)::ρ) d):=by simp[jj,gB,Br]
@[go_sem↓] theorem RM:jj P U n all os ρ h K true d op t p a s (.b false)=j6 P U n all os (put ((s,.b false)::ρ) d (.v undef)) h K:=by simp[jj,gB,Br]
@[go_sem↓] theorem RJ:jj P U n all os ρ h K false d op t p a s (.b true)=j6 P U n all os (put ((s,.b true)::ρ) d (.v undef)) h K:=by simp[jj,gB,Br]
@[go_sem↓] theorem RI:jj P U n all os ρ h K false d op t p a s (.b false)=aZ P U ((s,.b false)::ρ) h ⟨d,op,t,p,a,none⟩ (KOps P U n all os K ((s,.b false)::ρ) d):=by simp[jj,gB,Br]
@[go_sem↓] theorem MK(w:Bool):jj P U n all os ρ h K w d op t p a s (.v undef)=j6 P U n all os (put ρ d (.v undef)) h K:=rfl
theorem jj.intro{w b:Bool}(h1:b=true→jj P U n all os ρ h K w d op t p a s (.b true))(h2:b=false→jj P U n all os ρ h K w d op t p a s (.b false)):jj P U n all os ρ h K w d op t p a s (.b b):=by
 cases b
 ·grind
 grind
end
@[go_sem↓] theorem VR(all:List Oper)(d:Option Tmp)(op:Op)(t:TypeId)(p:String)(a:Array Edge)(g:Nat)(w:Bool)(os:List Oper)(K:Env→Heap→Prop):
  j6 P U n all (⟨d,op,t,p,a,some (g,w)⟩::os) ρ h K=(eS n d=true∧aE (qj all g) fun s=>aE (lk ρ s) (jj P U n all os ρ h K w d op t p a s)):=by
 have:=uh (ρ:=ρ) all g w (fun ρ=>aZ P U ρ h ⟨d,op,t,p,a,none⟩ (KOps P U n all os K ρ d)) (fun ρ=>j6 P U n all os (put ρ d (.v undef)) h K)
 rw[show(fun s=>aE (lk ρ s) (jj P U n all os ρ h K w d op t p a s))=fun d_1=>aE (lk ρ d_1) fun x=>gB d_1 w ρ (fun ρ=>aZ P U ρ h ⟨d,op,t,p,a,none⟩ (KOps P U n all os K ρ d)) (fun ρ=>j6 P U n all os (put ρ d (.v undef)) h K) x from rfl,←this]
 rfl
variable {d : Option Tmp} {t : TypeId} {p : String} {a : Array Edge} {g : Option (Nat × Bool)} {Q : AV → Heap → Prop}
@[go_sem↓] theorem WI(x:Operand):aZ P U ρ h ⟨d,.move x,t,p,a,g⟩ Q=aE (ev ρ x) (atH Q h):=(bV x _)
@[go_sem↓] theorem Uf(x:Operand):aZ P U ρ h ⟨d,.assign x,t,p,a,g⟩ Q=aE (ev ρ x) (atH Q h):=(bV x _)
def LG(ρ:Env)(x z:Operand)(k:AV→Prop)(y:AV):Prop:=match y with
 |.v (.bool true)=>aE (ev ρ x) k
 |.v (.bool false)=>aE (ev ρ z) k
 |_=>False
@[go_sem↓] theorem Q9(x z:Operand)(k:AV→Prop):LG ρ x z k (.b true)=aE (ev ρ x) k:=rfl
@[go_sem↓] theorem Pe(x z:Operand)(k:AV→Prop):LG ρ x z k (.b false)=aE (ev ρ z) k:=rfl
@[go_sem↓] theorem WJ(x y z:Operand):aZ P U ρ h ⟨d,.pick x y z,t,p,a,g⟩ Q=aE (ev ρ x) (LG ρ y z (atH Q h)):=by
 simp only[aZ,pv,bV]
 congr 1
def O9(k:AV→Prop)(y:AV):Prop:=match y with
 |.ptr .. |.pe .. |.fn .. =>k y
 |_=>False
@[go_sem↓] theorem SB(i o:Nat)(k:AV→Prop):O9 k (.ptr i o)=k (.ptr i o):=rfl
@[go_sem↓] theorem Q3(x:Operand):aZ P U ρ h ⟨d,.nilCheck x,t,p,a,g⟩ Q=aE (ev ρ x) (O9 (atH Q h)):=by
 simp only[aZ,pv,bV]
 congr 1
@[congr] theorem P7{op:BinOp}{ty:TypeId}{x x' y y' :AV}{K:AV→Prop}(e1:x=x')(e2:y=y'):cj U op ty x y K=cj U op ty x' y' K:=by grind
theorem uz(op:BinOp)(ty ty' :TypeId)(x y:Operand)(hy:Fu y=false):aZ P U ρ h ⟨d,.binOp op ty x y ty',t,p,a,g⟩ Q=aE (ev ρ x) fun u=>aE (ev ρ y) fun v=>cj U op ty u v (atH Q h):=by
 simp only[aZ,pv,bV,hy];rfl
@[go_sem↓] theorem VI(op:BinOp)(ty ty' :TypeId)(x:Operand)(y:Tmp):aZ P U ρ h ⟨d,.binOp op ty x (.tmp y) ty',t,p,a,g⟩ Q=aE (ev ρ x) fun u=>aE (ev ρ (.tmp y)) fun v=>cj U op ty u v (atH Q h):=uz _ _ _ _ _ rfl
@[go_sem↓] theorem SE(op:BinOp)(ty ty' :TypeId)(x:Operand)(ik:IntKind)(im:Int):aZ P U ρ h ⟨d,.binOp op ty x (.const (.int ik im)) ty',t,p,a,g⟩ Q=aE (ev ρ x) fun u=>cj U op ty u (.v (.int ik im)) (atH Q h):=uz _ _ _ _ _ rfl
@[go_sem↓] theorem SC(op:BinOp)(ty ty' :TypeId)(x:Operand)(ik:FloatKind)(im jm:Nat):aZ P U ρ h ⟨d,.binOp op ty x (.const (.complex ik im jm)) ty',t,p,a,g⟩ Q=aE (ev ρ x) fun u=>cj U op ty u (.v (.complex ik im jm)) (atH Q h):=uz _ _ _ _ _ rfl
@[go_sem↓] theorem SD(op:BinOp)(ty ty' :TypeId)(x:Operand)(ik:FloatKind)(im:Nat):aZ P U ρ h ⟨d,.binOp op ty x (.const (.float ik im)) ty',t,p,a,g⟩ Q=aE (ev ρ x) fun u=>cj U op ty u (.v (.float ik im)) (atH Q h):=uz _ _ _ _ _ rfl
@[go_sem↓] theorem SH(op:BinOp)(ty ty' :TypeId)(x:Operand)(b:ByteArray):aZ P U ρ h ⟨d,.binOp op ty x (.const (.string b)) ty',t,p,a,g⟩ Q=aE (ev ρ x) fun u=>aE (ev ρ (.const (.string b))) fun v=>cj U op ty u v (atH Q h):=uz _ _ _ _ _ rfl
@[go_sem↓] theorem SG(op:BinOp)(ty ty' :TypeId)(x:Operand)(b:Option Addr):aZ P U ρ h ⟨d,.binOp op ty x (.const (.pointer b)) ty',t,p,a,g⟩ Q=aE (ev ρ x) fun u=>cj U op ty u (.v (.pointer b)) (atH Q h):=uz _ _ _ _ _ rfl
def Q1(h:Heap)(op:BinOp)(x:AV)(Q:AV→Heap→Prop)(tk:TK):Prop:=match tk,op,x with
 |.slice _,.eql,.sl xs _=>∀b:Bool,(xs≠ []→b=false)→Q (.b b) h
 |.slice _,.neq,.sl xs _=>∀b:Bool,(xs≠ []→b=true)→Q (.b b) h
 |.slice _,.eql,.oa .. =>Q (.b false) h
 |.slice _,.neq,.oa .. =>Q (.b true) h
 |.slice _,.eql,.ob .. =>Q (.b false) h
 |.slice _,.neq,.ob .. =>Q (.b true) h
 |_,_,_=>False
@[go_sem↓] theorem SF(op:BinOp)(ty ty' :TypeId)(x:Operand)(l k:Nat):aZ P U ρ h ⟨d,.binOp op ty x (.const (.slice none l k)) ty',t,p,a,g⟩ Q=aE (ev ρ x) fun u=>atK (U ty).k (Q1 h op u Q):=by
 simp only[aZ,Fu,bV,atK,if_true];rfl
section
variable {ty : TypeId} {K : AV → Prop}
@[go_sem] theorem Zy(k:IntKind)(x y:Int):cj U .add ty (.v (.int k x)) (.v (.int k y)) K=K (.v (.int k (k.wrap (x+y)))):=by simp[cj,fP,pY]
@[go_sem] theorem ZI(k:IntKind)(x y:Int):cj U .sub ty (.v (.int k x)) (.v (.int k y)) K=K (.v (.int k (k.wrap (x - y)))):=by simp[cj,fP,pY]
@[go_sem] theorem ZE(k:IntKind)(x y:Int):cj U .mul ty (.v (.int k x)) (.v (.int k y)) K=K (.v (.int k (k.wrap (x*y)))):=by simp[cj,fP,pY]
@[go_sem] theorem ZG(k:IntKind)(x y:Int):cj U .quo ty (.v (.int k x)) (.v (.int k y)) K=(y≠0∧K (.v (.int k (k.wrap (x.tdiv y))))):=by simp[cj,fP,pY]
@[go_sem] theorem ZH(k:IntKind)(x y:Int):cj U .rem ty (.v (.int k x)) (.v (.int k y)) K=(y≠0∧K (.v (.int k (x.tmod y)))):=by simp[cj,fP,pY]
@[go_sem] theorem Kc(k:IntKind)(x y:Int):cj U .and ty (.v (.int k x)) (.v (.int k y)) K=K (.v (.int k (k.wrap (BitVec.ofInt k.bits x &&& BitVec.ofInt k.bits y).toNat))):=by simp[cj,fP,pY]
@[go_sem] theorem Tc(k:IntKind)(x y:Int):cj U .or ty (.v (.int k x)) (.v (.int k y)) K=K (.v (.int k (k.wrap (BitVec.ofInt k.bits x|||BitVec.ofInt k.bits y).toNat))):=by simp[cj,fP,pY]
@[go_sem] theorem ON(k:IntKind)(x y:Int):cj U .xor ty (.v (.int k x)) (.v (.int k y)) K=K (.v (.int k (k.wrap (BitVec.ofInt k.bits x ^^^ BitVec.ofInt k.bits y).toNat))):=by simp[cj,fP,pY]
@[go_sem] theorem Zz(k:IntKind)(x y:Int):cj U .eql ty (.v (.int k x)) (.v (.int k y)) K=K (.b (x==y)):=by simp[cj,fP,pY]
@[go_sem] theorem ZF(k:IntKind)(x y:Int):cj U .neq ty (.v (.int k x)) (.v (.int k y)) K=K (.b (x !=y)):=by simp[cj,fP,pY]
@[go_sem] theorem ZD(k:IntKind)(x y:Int):cj U .lss ty (.v (.int k x)) (.v (.int k y)) K=K (.b (decide (x<y))):=by simp[cj,fP,pY]
@[go_sem] theorem ZC(k:IntKind)(x y:Int):cj U .leq ty (.v (.int k x)) (.v (.int k y)) K=K (.b (decide (x≤y))):=by simp[cj,fP,pY]
@[go_sem] theorem ZB(k:IntKind)(x y:Int):cj U .gtr ty (.v (.int k x)) (.v (.int k y)) K=K (.b (decide (y<x))):=by simp[cj,fP,pY]
@[go_sem] theorem ZA(k:IntKind)(x y:Int):cj U .geq ty (.v (.int k x)) (.v (.int k y)) K=K (.b (decide (y≤x))):=by simp[cj,fP,pY]
@[go_sem] theorem OM(k k' :IntKind)(x y:Int):cj U .shl ty (.v (.int k x)) (.v (.int k' y)) K=(0≤y∧K (.v (.int k (k.wrap (x*2 ^ (min y.toNat k.bits)))))):=by rfl
@[go_sem] theorem Ke(k k' :IntKind)(x y:Int):cj U .shr ty (.v (.int k x)) (.v (.int k' y)) K=(0≤y∧K (.v (.int k (x.fdiv (2 ^ (min y.toNat k.bits)))))):=by rfl
@[go_sem] theorem Wb(x y:List UInt8):cj U .add ty (.s x) (.s y) K=(x.length+y.length<lim∧K (.s (x++y))):=rfl
@[go_sem] theorem Wc(x y:List UInt8):cj U .eql ty (.s x) (.s y) K=K (.b (x==y)):=rfl
@[go_sem] theorem Wg(x y:List UInt8):cj U .neq ty (.s x) (.s y) K=K (.b (!(x==y))):=rfl
@[go_sem] theorem U4(k k' :FloatKind)(x y:Nat)(op:BinOp):cj U op ty (.v (.float k x)) (.v (.float k' y)) K=gu op (.float k x) (.float k' y) K:=rfl
@[go_sem] theorem V8(k k' :FloatKind)(x y z w:Nat)(op:BinOp):cj U op ty (.v (.complex k x y)) (.v (.complex k' z w)) K=gu op (.complex k x y) (.complex k' z w) K:=rfl
theorem oe{op:BinOp}{x y r:Value}(h:∀(P:Program) (ty:TypeId) (w:World),(binOp op ty x y).run P w= .ok r w)(K:AV→Prop):gu op x y K=K (.v r):=propext ⟨fun⟨r',h',hk⟩=>by
 have e:=(h default 0 default).symm.trans (h' default 0 default);cases e;exact hk,fun hk=>⟨r,h,hk⟩⟩
@[go_sem] theorem We(x y:List UInt8):cj U .lss ty (.s x) (.s y) K=K (.b (Op.bytesLess x y)):=rfl
@[go_sem] theorem Wd(x y:List UInt8):cj U .geq ty (.s x) (.s y) K=K (.b (!(Op.bytesLess x y))):=rfl
def eqK(tk:TK)(e:Option (Nat×List TK))(xs ys:List AV)(k:Bool→Prop):Prop:=match e with
 |some (_,l)=>tk.agg=true∧cy l xs∧cy l ys∧k (eqL xs ys)
 |none=>False
@[congr] theorem Ss{tk tk' :TK}{e e' :Option (Nat×List TK)}{xs ys:List AV}{k:Bool→Prop}(h1:tk=tk')(h2:e=e'):eqK tk e xs ys k=eqK tk' e' xs ys k:=by grind
@[go_sem] theorem ZO(fs:List (Nat×TypeId))(r:Nat)(l:List TK)(xs ys:List AV)(k:Bool→Prop):eqK (.strct fs) (some (r,l)) xs ys k=(cy l xs∧cy l ys∧k (eqL xs ys)):=by simp[eqK,TK.agg]
@[go_sem] theorem V5(xs ys:List AV):cj U .eql ty (.agg xs) (.agg ys) K=eqK (U ty).k (U ty).eq xs ys fun b=>K (.b b):=by
 simp only[cj,Kg,eqK];grind
@[go_sem] theorem V6(xs ys:List AV):cj U .neq ty (.agg xs) (.agg ys) K=eqK (U ty).k (U ty).eq xs ys fun b=>K (.b (!b)):=by
 simp only[cj,Kg,eqK];grind
@[go_sem] theorem Rt(xs:List AV):cy [] xs=(xs= []):=rfl
@[go_sem] theorem Pq(t:TK)(ts:List TK)(x:AV)(xs:List AV):cy (t::ts) (x::xs)=(qe t x∧cy ts xs):=rfl
@[go_sem] theorem Th(k k' :IntKind)(n:Int):qe (.int k) (.v (.int k' n))=(k' =k):=rfl
@[go_sem] theorem Tf(b:Bool):qe .bool (.b b)=True:=rfl
@[go_sem] theorem Tg(k k' :FloatKind)(a b:Nat):qe (.cplx k) (.v (.complex k' a b))=(k' =k):=rfl
@[go_sem] theorem Ti(l:List UInt8):qe .str (.s l)=True:=rfl
@[go_sem] theorem Vh:eqL [] []=true:=rfl
@[go_sem] theorem Tz(x y:AV)(xs ys:List AV):eqL (x::xs) (y::ys)=(eqC x y && eqL xs ys):=rfl
@[go_sem] theorem ZM(k k' :IntKind)(n m:Int):eqC (.v (.int k n)) (.v (.int k' m))=(n==m):=rfl
@[go_sem] theorem ZL(b c:Bool):eqC (.b b) (.b c)=(b==c):=rfl
@[go_sem] theorem ZN(l m:List UInt8):eqC (.s l) (.s m)=(l==m):=rfl
def tkB(k:TK)(A:Prop):Prop:=k= .bool∧A
def tkP(k:TK)(A:Prop):Prop:=(∃e,k= .ptr e)∧A
@[congr] theorem SP{k k' :TK}{A:Prop}(e:k=k'):tkB k A=tkB k' A:=by rw[e]
@[congr] theorem SQ{k k' :TK}{A:Prop}(e:k=k'):tkP k A=tkP k' A:=by rw[e]
@[go_sem] theorem Ut(A:Prop):tkB .bool A=A:=by simp[tkB]
@[go_sem] theorem VW(e:TypeId)(A:Prop):tkP (.ptr e) A=A:=by simp[tkP]
@[go_sem] theorem V7(x y:Bool):cj U .neq ty (.b x) (.b y) K=tkB (U ty).k (K (.b (!(x==y)))):=by
 grind [cj,MY,tkB]
@[go_sem] theorem Wa(i o:Nat):cj U .eql ty (.ptr i o) (.v (.pointer none)) K=tkP (U ty).k (K (.b false)):=by
 simp only[cj,Kh,Lp,tkP];grind
@[go_sem] theorem V9:cj U .eql ty (.v (.pointer none)) (.v (.pointer none)) K=tkP (U ty).k (K (.b true)):=by
 simp only[cj,Kh,Lp,tkP];grind
end
def unA(op:UnOp)(y:AV)(k:AV→Prop):Prop:=match op,y with
 |.not,.v (.bool b)=>k (.b (!b))
 |.neg,.v (.int kk n)=>k (.v (.int kk (kk.wrap (0 - n))))
 |.xor,.v (.int kk n)=>k (.v (.int kk (kk.wrap (BitVec.ofInt kk.bits (if kk.signed then -1 else kk.max) ^^^ BitVec.ofInt kk.bits n).toNat)))
 |_,_=>False
@[congr] theorem SS{op:UnOp}{y y' :AV}{k:AV→Prop}(e:y=y'):unA op y k=unA op y' k:=by rw[e]
@[go_sem] theorem VZ(b:Bool)(k:AV→Prop):unA .not (.b b) k=k (.b (!b)):=rfl
@[go_sem] theorem B1(kk:IntKind)(m:Int)(k:AV→Prop):unA .xor (.v (.int kk m)) k=k (.v (.int kk (kk.wrap (BitVec.ofInt kk.bits (if kk.signed then -1 else kk.max) ^^^ BitVec.ofInt kk.bits m).toNat))):=rfl
@[go_sem↓] theorem WL(op:UnOp)(ty:TypeId)(x:Operand):aZ P U ρ h ⟨d,.unOp op ty x,t,p,a,g⟩ Q=aE (ev ρ x) fun y=>unA op y (atH Q h):=by
 simp only[aZ,pv,bV]
 congr 1
def cvA(U:TypeId→TI)(s d:TK)(y:AV)(k:AV→Prop):Prop:=match s,d,y with
 |.int _,.int kk,.v (.int _ n)=>k (.v (.int kk (kk.wrap n)))
 |.str,.str,.s l=>k (.s l)
 |.slice e,.str,.sl xs _=>(U e).k= .int .u8∧∃l:List UInt8,xs=l.map aK∧k (.s l)
 |.str,.slice e,.s l=>(U e).k= .int .u8∧k (.sl (l.map aK) .no)
 |.cplx _,.cplx kk,.v (.complex kf a b)=>kf=kk∧k (.v (.complex kk a b))
 |_,_,_=>False
@[congr] theorem Sj{s s' d d' :TK}{y y' :AV}{k:AV→Prop}(e1:s=s')(e2:d=d')(e:y=y'):cvA U s d y k=cvA U s' d' y' k:=by grind
@[go_sem] theorem Wn(k0 kk k1:IntKind)(m:Int)(k:AV→Prop):cvA U (.int k0) (.int kk) (.v (.int k1 m)) k=k (.v (.int kk (kk.wrap m))):=rfl
@[go_sem] theorem Tn(e:TypeId)(l:List UInt8)(pm:Perm)(k:AV→Prop):cvA U (.slice e) .str (.sl (l.map aK) pm) k=((U e).k= .int .u8∧k (.s l)):=by
 simp only[cvA]
 congr 1
 apply propext;constructor
 ·rintro⟨l',e1,hk⟩
  have:l=l' :=by
   have inj:∀(x y:List UInt8),x.map aK=y.map aK→x=y:=by
    intro x
    induction x with
    |nil=>simp
    |cons b r ih=>
     intro y e;cases y with
     |nil=>grind
     |cons b' r' =>
      simp only[List.map_cons,List.cons.injEq,aK,AV.v.injEq,Value.int.injEq,true_and,Int.natCast_inj]at e
      grind [UInt8.toNat_inj]
   exact inj _ _ e1
  rw[this];exact hk
 grind
theorem u8m(k:TK)(X:Prop):(match k with|.int .u8=>X|_=>False)=(k= .int .u8∧X):=by
 grind
@[go_sem↓] theorem SJ(s e:TypeId)(x:Operand):aZ P U ρ h ⟨d,.convert s e x,t,p,a,g⟩ Q=aE (ev ρ x) fun y=>cvA U (U s).k (U e).k y (atH Q h):=by
 simp only[aZ,pv,bV]
 congr 1
 funext y
 generalize (U s).k=ks;generalize (U e).k=ke;cases ks<;>cases ke<;>cases y<;>(first|rfl|(rename_i u;cases u<;>rfl)|skip)
 ·simp only[cvA]
  exact u8m _ _
 ·simp only[cvA]
  exact u8m _ _
end
attribute [go_sem] true_and and_true List.length_cons List.length_nil List.drop_succ_cons List.drop_zero List.drop_nil List.take_succ_cons List.take_zero List.take_nil List.append_nil List.cons_append List.nil_append List.map_cons List.map_nil ne_eq not_false_eq_true reduceCtorEq Nat.zero_add Nat.add_zero
section
variable {P : Program} {U : TypeId → TI} {n : Nat} {ρ : Env} {h : Heap}
variable {d : Option Tmp} {t : TypeId} {p : String} {a : Array Edge} {g : Option (Nat × Bool)} {Q : AV → Heap → Prop} {k : AV → Prop}
@[go_sem] theorem UU(x:IntKind):TK.agg (.int x)=false:=rfl
@[go_sem] theorem oC(x y:TypeId):TK.agg (.map x y)=false:=rfl
@[go_sem] theorem S7:TK.agg .bool=false:=rfl
@[go_sem] theorem UX:TK.agg .str=false:=rfl
@[go_sem] theorem R6(x:TypeId):TK.agg (.slice x)=false:=rfl
@[go_sem] theorem R7(x:List (Nat×TypeId)):TK.agg (.strct x)=true:=rfl
@[go_sem] theorem UW(x:TypeId):TK.agg (.ptr x)=false:=rfl
@[go_sem] theorem S8(x:FloatKind):TK.agg (.cplx x)=false:=rfl
@[go_sem] theorem Se(cs:List AV):AV.cells (.agg cs)=cs:=rfl
@[go_sem] theorem U7(x:Value):AV.cells (.v x)= [.v x]:=rfl
@[go_sem] theorem U6(x:List UInt8):AV.cells (.s x)= [.s x]:=rfl
@[go_sem] theorem Tk(x:List AV)(q:Perm):AV.cells (.sl x q)= [.sl x q]:=rfl
@[go_sem] theorem Sf(i o:Nat):AV.cells (.ptr i o)= [.ptr i o]:=rfl
@[go_sem] theorem Sx(cs:List AV):bA (.agg cs)=true:=rfl
@[go_sem] theorem VA(x:Value):bA (.v x)=false:=rfl
@[go_sem] theorem Vz(x:List UInt8):bA (.s x)=false:=rfl
@[go_sem] theorem TU(x:List AV)(q:Perm):bA (.sl x q)=false:=rfl
@[go_sem] theorem Vv(cs:List AV)(m:Nat):fit (.agg cs) m=(cs.length=m):=rfl
@[go_sem] theorem Vw(x:IntKind)(i:Int)(m:Nat):fit (.v (.int x i)) m=(m=1):=by simp[fit,Value.oneCell']
@[go_sem] theorem TJ(i:Bool)(m:Nat):fit (.b i) m=(m=1):=by simp[fit,Value.oneCell']
@[go_sem] theorem TL(x:FloatKind)(i j:Nat)(m:Nat):fit (.v (.complex x i j)) m=(m=1):=by simp[fit,Value.oneCell']
@[go_sem] theorem ZP(l:List UInt8)(m:Nat):fit (.s l) m=(m=1):=rfl
@[go_sem] theorem Wv(l:List AV)(q:Perm)(m:Nat):fit (.sl l q) m=(m=1):=rfl
@[go_sem] theorem Vx(i o:Nat)(m:Nat):fit (.ptr i o) m=(m=1):=rfl
@[go_sem] theorem TM(m:Nat):fits m []=True:=rfl
@[go_sem] theorem Su(m:Nat)(y:AV)(r:List AV):fits m (y::r)=(fit y m∧fits m r):=rfl
@[go_sem↓] theorem Dw(cs:List AV)(off:Nat)(i:TI):ij cs off i k=Br i.k.agg (off+i.sz≤cs.length∧k (.agg ((cs.drop off).take i.sz))) (aE cs[off]? k):=by
 unfold ij;cases i.k.agg with
 |true=>simp[Br]
 |false=>
  grind [Br,aE]
@[go_sem↓] theorem J9(y:AV)(off:Nat)(i:TI):atA y off i k=if off=0∧y.cells.length=i.sz∧bA y=i.k.agg then k y else ij y.cells off i k:=rfl
def ER(U:TypeId→TI)(f:Nat)(y:AV)(k:AV→Prop)(tk:TK):Prop:=match tk,y with
 |.strct fs,.agg cs=>aE fs[f]? fun q=>(U q.2).sz≠0∧(U q.2).k≠ .other∧ij cs q.1 (U q.2) k
 |_,_=>False
@[go_sem↓] theorem St(f:Nat)(cs:List AV)(fs:List (Nat×TypeId)):ER U f (.agg cs) k (.strct fs)=aE fs[f]? fun q=>(U q.2).sz≠0∧(U q.2).k≠ .other∧ij cs q.1 (U q.2) k:=rfl
@[go_sem↓] theorem VK(ty:TypeId)(x:Operand)(f:Nat):aZ P U ρ h ⟨d,.field ty x f,t,p,a,g⟩ Q=aE (ev ρ x) fun y=>atK (U ty).k (ER U f y (atH Q h)):=by
 simp only[aZ,pv,bV,atK]
 congr 1
 funext y
 cases (U ty).k<;>cases y<;>simp only[ER]
 rename_i fs cs
 cases fs[f]? <;>rfl
def Mk(y:AV)(i:Nat)(k:AV→Prop):Prop:=match y with
 |.tup vs=>aE vs[i]? k
 |_=>False
@[congr] theorem Rs{y y' :AV}{i:Nat}(e:y=y'):Mk y i k=Mk y' i k:=by rw[e]
@[go_sem↓] theorem VX(vs:List AV)(i:Nat):Mk (.tup vs) i k=aE vs[i]? k:=rfl
@[go_sem↓] theorem SK(x:Operand)(i:Nat):aZ P U ρ h ⟨d,.extract x i,t,p,a,g⟩ Q=aE (ev ρ x) fun y=>Mk y i (atH Q h):=by
 simp only[aZ,pv,bV]
 grind [Mk,aE,atH]
def Hu(tk:TK)(y z:AV)(k:AV→Prop):Prop:=match tk,y,z with
 |.str,.s l,.v (.int _ n)=>ML l n k
 |_,_,_=>False
@[congr] theorem Pn{tk tk' :TK}{y y' z z' :AV}(e0:tk=tk')(e1:y=y')(e2:z=z'):Hu tk y z k=Hu tk' y' z' k:=by grind
@[go_sem↓] theorem Us(l:List UInt8)(x:IntKind)(m:Int):Hu .str (.s l) (.v (.int x m)) k=ML l m k:=rfl
@[go_sem↓] theorem VL(ty:TypeId)(x i:Operand):aZ P U ρ h ⟨d,.index ty x i,t,p,a,g⟩ Q=aE (ev ρ x) fun y=>aE (ev ρ i) fun z=>Hu (U ty).k y z (atH Q h):=by
 simp only[aZ,pv,bV]
 congr 1
def xD(U:TypeId→TI)(f:Nat)(y:AV)(k:AV→Prop)(tk:TK):Prop:=match tk with
 |.strct fs=>aE fs[f]? fun q=>(U q.2).sz≠0∧match y with
  |.ptr id o=>k (.ptr id (o+q.1))
  |.pe z o=>k (.pe z (o+q.1))
  |_=>False
 |_=>False
@[go_sem↓] theorem EP(f id o:Nat)(fs:List (Nat×TypeId)):xD U f (.ptr id o) k (.strct fs)=aE fs[f]? fun q=>(U q.2).sz≠0∧k (.ptr id (o+q.1)):=rfl
@[go_sem↓] theorem Ie(f o:Nat)(z:AV)(fs:List (Nat×TypeId)):xD U f (.pe z o) k (.strct fs)=aE fs[f]? fun q=>(U q.2).sz≠0∧k (.pe z (o+q.1)):=rfl
@[go_sem↓] theorem Pa(ty:TypeId)(x:Operand)(f:Nat):aZ P U ρ h ⟨d,.fieldAddr ty x f,t,p,a,g⟩ Q=aE (ev ρ x) fun y=>atK (U ty).k (xD U f y (atH Q h)):=by
 simp only[aZ,pv,bV,atK]
 congr 1
 funext y
 cases (U ty).k<;>simp only[xD]
 rename_i fs
 cases fs[f]? with
 |none=>rfl
 |some q=>rfl
def oN(U:TypeId→TI)(y z:AV)(k:AV→Prop)(tk:TK):Prop:=match tk,y,z with
 |.slice e,.sl xs _,.v (.int _ n)=>(U e).sz≠0∧fm xs n (U e).sz k
 |.slice e,.oa id off len,.v (.int _ n)=>(U e).sz≠0∧0≤n∧n<len∧k (.ptr id (off+n.toNat*(U e).sz))
 |.arr len e,.ptr id off,.v (.int _ n)=>(U e).sz≠0∧0≤n∧n<len∧k (.ptr id (off+n.toNat*(U e).sz))
 |.slice e,.ob id off len _ sz,.v (.int _ n)=>(U e).sz≠0∧sz=(U e).sz∧0≤n∧n<len∧k (.ptr id (off+n.toNat*sz))
 |_,_,_=>False
@[go_sem↓] theorem An(id off len cap sz:Nat)(x:IntKind)(m:Int)(e:TypeId):oN U (.ob id off len cap sz) (.v (.int x m)) k (.slice e)=((U e).sz≠0∧sz=(U e).sz∧0≤m∧m<len∧k (.ptr id (off+m.toNat*sz))):=rfl
@[go_sem↓] theorem uk(xs:List AV)(q:Perm)(x:IntKind)(m:Int)(e:TypeId):oN U (.sl xs q) (.v (.int x m)) k (.slice e)=((U e).sz≠0∧fm xs m (U e).sz k):=rfl
@[go_sem↓] theorem Am(id off len:Nat)(x:IntKind)(m:Int)(e:TypeId):oN U (.oa id off len) (.v (.int x m)) k (.slice e)=((U e).sz≠0∧0≤m∧m<len∧k (.ptr id (off+m.toNat*(U e).sz))):=rfl
@[go_sem↓] theorem Pb(ty:TypeId)(x i:Operand):aZ P U ρ h ⟨d,.indexAddr ty x i,t,p,a,g⟩ Q=aE (ev ρ x) fun y=>aE (ev ρ i) fun z=>atK (U ty).k (oN U y z (atH Q h)):=by
 simp only[aZ,pv,bV,atK]
 congr 1
def pP(b:Blk)(f:List AV→TypeId→Prop):Prop:=match b with
 |.obj cs t=>f cs t
 |_=>False
@[congr] theorem Q4{b b' :Blk}{f:List AV→TypeId→Prop}(e:b=b'):pP b f=pP b' f:=by rw[e]
@[go_sem↓] theorem BM(cs:List AV)(t:TypeId)(f:List AV→TypeId→Prop):pP (.obj cs t) f=f cs t:=rfl
def mZ(U:TypeId→TI)(h:Heap)(ty:TypeId)(y:AV)(k:AV→Prop):Prop:=match y with
 |.ptr id off=>aE (h id) fun b=>pP b fun cs _=>ij cs off (U ty) k
 |.pe z off=>atA z off (U ty) k
 |_=>False
@[congr] theorem O4{ty:TypeId}{y y' :AV}(e:y=y'):mZ U h ty y k=mZ U h ty y' k:=by rw[e]
@[go_sem↓] theorem IW(ty:TypeId)(id off:Nat):mZ U h ty (.ptr id off) k=aE (h id) fun b=>pP b fun cs _=>ij cs off (U ty) k:=rfl
@[go_sem↓] theorem Lf(ty:TypeId)(z:AV)(off:Nat):mZ U h ty (.pe z off) k=atA z off (U ty) k:=rfl
@[go_sem↓] theorem WH(ty:TypeId)(x:Operand):aZ P U ρ h ⟨d,.load ty x,t,p,a,g⟩ Q=((U ty).sz≠0∧(U ty).k≠ .other∧aE (ev ρ x) fun y=>mZ U h ty y (atH Q h)):=by
 simp only[aZ,pv,bV]
 congr 1
 congr 1
 congr 1
 funext y
 cases y with
 |ptr id off=>
  simp only[mZ];exact agp
 |_=>rfl
def E9(y:AV)(f:Int→Prop):Prop:=match y with
 |.v (.int _ m)=>f m
 |_=>False
@[congr] theorem QH{y y' :AV}{f:Int→Prop}(e:y=y'):E9 y f=E9 y' f:=by rw[e]
@[go_sem↓] theorem mX(x:IntKind)(m:Int)(f:Int→Prop):E9 (.v (.int x m)) f=f m:=rfl
@[go_sem↓] theorem mb(m:Nat)(f:Int→Prop):ew ρ none m f=f m:=rfl
@[go_sem↓] theorem fL(x:Operand)(m:Nat)(f:Int→Prop):ew ρ (some x) m f=aE (ev ρ x) fun y=>E9 y f:=by
 simp only[ew,bV]
 congr 1
def gL(U:TypeId→TI)(ρ:Env)(y:AV)(lo hi mx:Option Operand)(k:AV→Prop)(tk:TK):Prop:=match y with
 |.s l=>tk= .str∧mx=none∧ew ρ lo 0 fun a=>ew ρ hi l.length fun b=>0≤a∧a≤b∧b≤l.length∧k (.s (oD l a b lo.isSome hi.isSome))
 |.sl xs p=>match tk with
  |.slice e=>(U e).sz≠0∧(lo.isSome=true→∀z∈xs,z.cells.length=(U e).sz)∧match mx with
   |none=>ew ρ lo 0 fun a=>ew ρ hi xs.length fun b=>0≤a∧a≤b∧b≤xs.length∧k (.sl (oD xs a b lo.isSome hi.isSome) (zm xs p lo.isSome hi.isSome))
   |some m=>hi.isSome=true∧ew ρ lo 0 fun a=>ew ρ hi xs.length fun b=>ew ρ (some m) 0 fun c=>0≤a∧a≤b∧b=c∧c≤xs.length∧k (.sl (oD xs a b lo.isSome true) .full)
  |_=>False
 |.oa id off len=>match tk with
  |.slice e=>(U e).sz≠0∧(lo.isSome=true→(U e).sz=1)∧mx=none∧ew ρ lo 0 fun a=>ew ρ hi len fun b=>0≤a∧a≤b∧b≤len∧k (.oa id (off+a.toNat*(U e).sz) (b.toNat - a.toNat))
  |_=>False
 |.ob id off len cap sz=>match tk with
  |.slice e=>(U e).sz≠0∧sz=(U e).sz∧match mx with
   |none=>ew ρ lo 0 fun a=>ew ρ hi len fun b=>0≤a∧a≤b∧b≤cap∧k (.ob id (off+a.toNat*sz) (b.toNat - a.toNat) (cap - a.toNat) sz)
   |some m=>hi.isSome=true∧ew ρ lo 0 fun a=>ew ρ hi len fun b=>ew ρ (some m) 0 fun c=>0≤a∧a≤b∧b≤c∧c≤cap∧k (.ob id (off+a.toNat*sz) (b.toNat - a.toNat) (c.toNat - a.toNat) sz)
  |_=>False
 |_=>False
@[go_sem↓] theorem AS(id off len cap sz:Nat)(lo hi:Option Operand)(e:TypeId):gL U ρ (.ob id off len cap sz) lo hi none k (.slice e)=((U e).sz≠0∧sz=(U e).sz∧ew ρ lo 0 fun a=>ew ρ hi len fun b=>0≤a∧a≤b∧b≤cap∧k (.ob id (off+a.toNat*sz) (b.toNat - a.toNat) (cap - a.toNat) sz)):=rfl
@[go_sem↓] theorem Ur(l:List UInt8)(lo hi:Option Operand):gL U ρ (.s l) lo hi none k .str=ew ρ lo 0 fun a=>ew ρ hi l.length fun b=>0≤a∧a≤b∧b≤l.length∧k (.s (oD l a b lo.isSome hi.isSome)):=by simp[gL]
@[go_sem↓] theorem qK(xs:List AV)(q:Perm)(hi:Option Operand)(e:TypeId):gL U ρ (.sl xs q) none hi none k (.slice e)=((U e).sz≠0∧ew ρ hi xs.length fun b=>0≤b∧b≤xs.length∧k (.sl (oD xs 0 b false hi.isSome) (zm xs q false hi.isSome))):=by
 simp[gL,ew]
@[go_sem↓] theorem qL(xs:List AV)(q:Perm)(lo:Operand)(hi:Option Operand)(e:TypeId):gL U ρ (.sl xs q) (some lo) hi none k (.slice e)=((U e).sz≠0∧Sized (U e).sz xs∧ew ρ (some lo) 0 fun a=>ew ρ hi xs.length fun b=>0≤a∧a≤b∧b≤xs.length∧k (.sl (oD xs a b true hi.isSome) (zm xs q true hi.isSome))):=by
 simp[gL,Sized]
@[go_sem↓] theorem ry(id off len:Nat)(lo hi:Option Operand)(e:TypeId):gL U ρ (.oa id off len) lo hi none k (.slice e)=((U e).sz≠0∧(lo.isSome=true→(U e).sz=1)∧ew ρ lo 0 fun a=>ew ρ hi len fun b=>0≤a∧a≤b∧b≤len∧k (.oa id (off+a.toNat*(U e).sz) (b.toNat - a.toNat))):=by
 simp[gL]
@[go_sem] theorem lR{α:Type}(xs:List α)(a b:Int):oD xs a b true false=xs.drop a.toNat:=rfl
@[go_sem] theorem wA{α:Type}(xs:List α)(a b:Int):oD xs a b false true=xs.take b.toNat:=rfl
@[go_sem] theorem M5{α:Type}(xs:List α)(a b:Int):oD xs a b true true=(xs.drop a.toNat).take (b.toNat - a.toNat):=rfl
@[go_sem] theorem Va(xs:List AV)(a b:Bool):zm xs .no a b= .no:=by cases xs<;>cases a<;>cases b<;>rfl
@[go_sem] theorem Si(xs:List AV):zm xs .full true false= .full:=by cases xs<;>rfl
@[go_sem↓] theorem VM(ty:TypeId)(x:Operand)(lo hi mx:Option Operand):aZ P U ρ h ⟨d,.slice ty x lo hi mx,t,p,a,g⟩ Q=aE (ev ρ x) fun y=>atK (U ty).k (gL U ρ y lo hi mx (atH Q h)):=by
 simp only[aZ,pv,bV,atK]
 congr 1
end
section
variable {P : Program} {U : TypeId → TI} {n : Nat} {ρ : Env} {h : Heap}
variable {d : Option Tmp} {t : TypeId} {p : String} {a : Array Edge} {g : Option (Nat × Bool)} {Q : AV → Heap → Prop} {k : AV → Prop}
def JY(h:Heap)(b:Blk)(Q:AV→Heap→Prop):Prop:=∀id,h id=none→Q (.ptr id 0) (upd h id (some b))
def V1(h:Heap)(xs:List AV)(b:Blk)(Q:AV→Heap→Prop):Prop:=∀id,h id=none→Q (.sl xs (.own id)) (upd h id (some b))
def nO(U:TypeId→TI)(h:Heap)(xs ys:List AV)(e:TypeId)(Q:AV→Heap→Prop):Prop:=
 (∀id,h id=none→Q (.sl (xs++ys) (.own id)) (upd h id (some (.spare (xs.length+ys.length) (U e).sz))))∨
  ((U e).sz=1∧fit (U e).zero 1∧bA (U e).zero=false∧(∀z∈xs++ys,bA z=false)∧∀id m,h id=none→Q (.oa id 0 (xs.length+ys.length)) (upd h id (some (.obj (xs++ys++List.replicate m (U e).zero) e))))∨
  (fit (U e).zero (U e).sz∧j0 h (aq xs++aq ys) (xs.length+ys.length) (U e).sz e Q)
@[congr] theorem OA{h h' :Heap}{xs xs' ys ys' :List AV}{e:TypeId}(e0:h=h')(e1:xs=xs')(e2:ys=ys'):nO U h xs ys e Q=nO U h' xs' ys' e Q:=by grind
theorem nO.own{xs ys:List AV}{e:TypeId}(hk:V1 h (xs++ys) (.spare (xs.length+ys.length) (U e).sz) Q):nO U h xs ys e Q:=.inl hk
theorem nO.oa{xs ys:List AV}{e:TypeId}(h1:(U e).sz=1)(h2:fit (U e).zero 1)(h3:bA (U e).zero=false)(h4:∀z∈xs++ys,bA z=false)
  (hk:∀id m,h id=none→Q (.oa id 0 (xs.length+ys.length)) (upd h id (some (.obj (xs++ys++List.replicate m (U e).zero) e)))):nO U h xs ys e Q:=.inr (.inl ⟨h1,h2,h3,h4,hk⟩)
theorem nO.ob{xs ys:List AV}{e:TypeId}(h1:fit (U e).zero (U e).sz)(hk:j0 h (aq xs++aq ys) (xs.length+ys.length) (U e).sz e Q):nO U h xs ys e Q:=.inr (.inr ⟨h1,hk⟩)
def rL(U:TypeId→TI)(h:Heap)(xs ys:List AV)(e:TypeId)(Q:AV→Heap→Prop):Prop:=(ys= []→Q (.sl xs .full) h)∧(ys≠ []→nO U h xs ys e Q)
@[congr] theorem MH{h h' :Heap}{xs xs' ys ys' :List AV}{e:TypeId}(e0:h=h')(e1:xs=xs')(e2:ys=ys'):rL U h xs ys e Q=rL U h' xs' ys' e Q:=by grind
@[go_sem↓] theorem Oz(xs:List AV)(y:AV)(r:List AV)(e:TypeId):rL U h xs (y::r) e Q=nO U h xs (y::r) e Q:=by simp[rL]
@[go_sem] theorem gb{α:Type}(f:Nat→α)(i:Nat)(x:α):upd f i x i=x:=ah f i x
@[go_sem] theorem ak{α:Type}(f:Nat→α)(i j:Nat)(x:α)(e:¬j=i):upd f i x j=f j:=ag f x e
@[go_sem] theorem nu{α:Type}(f:Nat→α)(i:Nat)(x y:α):upd (upd f i x) i y=upd f i y:=by
 grind [upd]
def qs:List (Nat×Operand)→Nat→Bool
 | [],_=>true
 |(i,_)::r,k=>i==k && qs r (k+1)
theorem Ao:∀(l:List (Nat×Operand)) (k:Nat),qs l k=true↔l.map (·.1)=List.range' k l.length
 | [],k=>by simp[qs]
 |(i,x)::r,k=>by simp[qs,Ao r (k+1),List.range'_succ]
@[go_sem] theorem Sw(k:Nat):qs [] k=true:=rfl
@[go_sem] theorem QF(i:Nat)(x:Operand)(r:List (Nat×Operand))(k:Nat):(qs ((i,x)::r) k=true)=(i=k∧qs r (k+1)=true):=by simp[qs]
theorem IM(l:List (Nat×Operand))(m:Nat):(l.map (·.1)=List.range m)=(qs l 0=true∧l.length=m):=by
 apply propext;rw[Ao,List.range_eq_range'];constructor
 ·intro e
  have:=congrArg List.length e;simp at this;exact⟨ab8,this⟩
 grind
def bsK(U:TypeId→TI)(ρ:Env)(len:Nat)(parts:List (Nat×Operand))(k:AV→Prop)(tk:TK):Prop:=match tk with
 |.slice e=>(U e).sz≠0∧len*(U e).sz≤16777216∧(qs parts 0=true∧parts.length=len)∧aE (evs ρ (parts.map (·.2))) fun xs=>fits (U e).sz xs∧k (.sl xs .full)
 |_=>False
@[go_sem↓] theorem Wj(len:Nat)(parts:List (Nat×Operand))(e:TypeId):bsK U ρ len parts k (.slice e)=((U e).sz≠0∧len*(U e).sz≤16777216∧(qs parts 0=true∧parts.length=len)∧aE (evs ρ (parts.map (·.2))) fun xs=>fits (U e).sz xs∧k (.sl xs .full)):=rfl
@[go_sem↓] theorem NT(ty:TypeId)(len:Nat)(parts:List (Nat×Operand)):aZ P U ρ h ⟨d,.buildSlice ty len parts.toArray,t,p,a,g⟩ Q=atK (U ty).k (bsK U ρ len parts (atH Q h)):=by
 simp only[aZ,pv,atK];cases (U ty).k<;>simp only[bsK,gG,IM]
 rfl
def PY(k:AV→Prop)(cs:List AV):Prop:=k (.agg cs)
@[go_sem↓] theorem UT(cs:List AV):PY k cs=k (.agg cs):=rfl
def F5(z:AV):Option (List AV):=match z with
 |.agg cs=>some cs
 |_=>none
@[go_sem] theorem R5(cs:List AV):F5 (.agg cs)=some cs:=rfl
def bK(U:TypeId→TI)(ρ:Env)(ty:TypeId)(parts:List (Nat×Operand))(k:AV→Prop)(tk:TK):Prop:=match tk with
 |.strct fs=>(U ty).sz≠0∧aE (F5 (U ty).zero) fun cs0=>withps U ρ fs parts cs0 (PY k)
 |_=>False
@[go_sem↓] theorem Zx(ty:TypeId)(parts:List (Nat×Operand))(fs:List (Nat×TypeId)):bK U ρ ty parts k (.strct fs)=((U ty).sz≠0∧aE (F5 (U ty).zero) fun cs0=>withps U ρ fs parts cs0 (PY k)):=rfl
def bU(U:TypeId→TI)(ρ:Env)(ty:TypeId)(parts:List (Nat×Operand))(k:AV→Prop)(b:Bool):Prop:=match b with
 |true=>parts= []∧k (.agg [])
 |false=>atK (U ty).k (bK U ρ ty parts k)
@[go_sem↓] theorem abU(ty:TypeId)(parts:List (Nat×Operand)):bU U ρ ty parts k true=(parts= []∧k (.agg [])):=rfl
@[go_sem↓] theorem abT(ty:TypeId)(parts:List (Nat×Operand)):bU U ρ ty parts k false=atK (U ty).k (bK U ρ ty parts k):=rfl
@[go_sem] theorem TZ:isUnit (.strct [])=true:=rfl
@[go_sem] theorem TY(f:Nat×TypeId)(fs:List (Nat×TypeId)):isUnit (.strct (f::fs))=false:=rfl
@[go_sem] theorem TX(x:IntKind):isUnit (.int x)=false:=rfl
@[go_sem] theorem TV:isUnit .bool=false:=rfl
@[go_sem] theorem QJ:isUnit .str=false:=rfl
@[go_sem] theorem Sy(e:TypeId):isUnit (.slice e)=false:=rfl
@[go_sem] theorem TW(x:FloatKind):isUnit (.cplx x)=false:=rfl
theorem Lu(ty:TypeId)(parts:List (Nat×Operand)):(match (U ty).k with
  |.strct fs=>(U ty).sz≠0∧∃cs0,(U ty).zero= .agg cs0∧withps U ρ fs parts cs0 fun cs=>(atH Q h) (.agg cs)
  |_=>False)=atK (U ty).k (bK U ρ ty parts (atH Q h)):=by
 congr 1
 cases hz:(U ty).zero<;>simp[F5,aE]
 rfl
@[go_sem↓] theorem VJ(ty:TypeId)(parts:List (Nat×Operand)):aZ P U ρ h ⟨d,.build ty parts.toArray,t,p,a,g⟩ Q=bU U ρ ty parts (atH Q h) (isUnit (U ty).k):=by
 simp only[aZ,pv];cases isUnit (U ty).k
 ·simp only[bU,Bool.false_eq_true,if_false]
  exact Lu ty parts
 rfl
@[congr] theorem MG{fs:List (Nat×TypeId)}{ps:List (Nat×Operand)}{cs cs' :List AV}{k:List AV→Prop}(e:cs=cs'):withps U ρ fs ps cs k=withps U ρ fs ps cs' k:=by rw[e]
@[go_sem] theorem RB(fs:List (Nat×TypeId))(cs:List AV)(k:List AV→Prop):withps U ρ fs [] cs k=k cs:=rfl
@[go_sem] theorem Pu(fs:List (Nat×TypeId))(i:Nat)(x:Operand)(r:List (Nat×Operand))(cs:List AV)(k:List AV→Prop):
  withps U ρ fs ((i,x)::r) cs k=aE fs[i]? fun q=>(U q.2).sz≠0∧aE (ev ρ x) fun y=>fit y (U q.2).sz∧q.1+(U q.2).sz≤cs.length∧withps U ρ fs r (over cs q.1 y.cells) k:=by
 simp only[withps,bV];cases fs[i]? <;>rfl
@[go_sem] theorem VO(cs:List AV)(o:Nat)(xs:List AV):over cs o xs=cs.take o++xs++cs.drop (o+xs.length):=rfl
section
variable {ty : TypeId} {y : AV}
end
def T8(f:FuncId)(k:AV→Prop)(ys:List AV):Prop:=k (.fn f ys)
@[go_sem↓] theorem VF(f:FuncId)(ys:List AV):T8 f k ys=k (.fn f ys):=rfl
@[go_sem↓] theorem Q2(f:FuncId)(cap:List Operand):aZ P U ρ h ⟨d,.makeFunc (.func f) #[] cap.toArray,t,p,a,g⟩ Q=aE (evs ρ cap) (T8 f (atH Q h)):=by
 simp only[aZ,pv,gG];rfl
def fnA(y:AV)(f:FuncId→List AV→Prop):Prop:=match y with
 |.fn g cap=>f g cap
 |_=>False
@[congr] theorem Sv{y y' :AV}{f:FuncId→List AV→Prop}(e:y=y'):fnA y f=fnA y' f:=by rw[e]
@[go_sem↓] theorem Ww(g:FuncId)(cap:List AV)(f:FuncId→List AV→Prop):fnA (.fn g cap) f=f g cap:=rfl
@[go_sem↓] theorem WD(q:Operand)(args:List Operand)(ts:Array TypeId):aZ P U ρ h ⟨d,.call ⟨.value q,args.toArray,ts⟩,t,p,a,g⟩ Q=aE (ev ρ q) fun y=>fnA y fun f cap=>aE (evs ρ args) fun ys=>ai P f (ys++cap) h Q:=by
 simp only[aZ,bV,gG]
 congr 1
def wg(y:AV)(k:AV→Prop)(tk:TK):Prop:=match tk,y with
 |.str,.s l=>k (.i l.length)
 |.slice _,.sl xs _=>k (.i xs.length)
 |.slice _,.oa _ _ len=>k (.i len)
 |.slice _,.ob _ _ len _ _=>k (.i len)
 |_,_=>False
def NF(k:AV→Prop)(b:Blk):Prop:=match b with
 |.mp m=>k (.i m.length)
 |_=>False
@[congr] theorem QO{b b' :Blk}(e:b=b'):NF k b=NF k b' :=by rw[e]
def QS(h:Heap)(y:AV)(k:AV→Prop)(tk:TK):Prop:=match tk,y with
 |.map _ _,.mp id=>aE (h id) (NF k)
 |tk,y=>wg y k tk
@[go_sem↓] theorem T4(y:AV):QS h y k .str=wg y k .str:=rfl
@[go_sem↓] theorem QT(y:AV)(e:TypeId):QS h y k (.slice e)=wg y k (.slice e):=rfl
@[go_sem↓] theorem VC(i o l c s:Nat)(e:TypeId):wg (.ob i o l c s) k (.slice e)=k (.i l):=rfl
@[go_sem↓] theorem WA(l:List UInt8):wg (.s l) k .str=k (.i l.length):=rfl
@[go_sem↓] theorem VD(xs:List AV)(q:Perm)(e:TypeId):wg (.sl xs q) k (.slice e)=k (.i xs.length):=rfl
@[go_sem↓] theorem ZU(x:Operand)(ty:TypeId):aZ P U ρ h ⟨d,.call ⟨.builtin .len, #[x], #[ty]⟩,t,p,a,g⟩ Q=aE (ev ρ x) fun y=>atK (U ty).k (QS h y (atH Q h)):=by
 simp only[aZ,pv,pvB,bV,atK]
 congr 1
 funext y
 cases (U ty).k with
 |map a b=>
  cases y with
  |mp id=>
   show(match h id with
    |some (.mp m)=>Q (.i m.length) h
    |_=>False)=aE (h id) (NF (atH Q h))
   exact agp
  |_=>rfl
 |_=>cases y<;>rfl
def Te(y:AV)(k:AV→Prop)(tk:TK):Prop:=match tk,y with
 |.slice _,.sl xs .full=>k (.i xs.length)
 |.slice _,.ob _ _ _ cap _=>k (.i cap)
 |_,_=>False
@[go_sem↓] theorem U5(i o l c s:Nat)(e:TypeId):Te (.ob i o l c s) k (.slice e)=k (.i c):=rfl
@[go_sem↓] theorem ZT(x:Operand)(ty:TypeId):aZ P U ρ h ⟨d,.call ⟨.builtin .cap, #[x], #[ty]⟩,t,p,a,g⟩ Q=aE (ev ρ x) fun y=>atK (U ty).k (Te y (atH Q h)):=by
 simp only[aZ,pv,pvB,bV,atK]
 congr 1
@[congr] theorem QY{ys ys' :List AV}(e:ys=ys'):Dg ys k=Dg ys' k:=by rw[e]
@[congr] theorem QV{ys ys' :List AV}(e:ys=ys'):zv ys k=zv ys' k:=by rw[e]
@[go_sem] theorem T7(x:IntKind)(i j:Int):Dg [.v (.int x i),.v (.int x j)] k=k (.v (.int x (if j<i then j else i))):=by simp[Dg]
@[go_sem] theorem T6(x:IntKind)(i j:Int):zv [.v (.int x i),.v (.int x j)] k=k (.v (.int x (if i<j then j else i))):=by simp[zv]
@[congr] theorem Pg{ys ys' :List AV}(e:ys=ys'):yI ys k=yI ys' k:=by rw[e]
@[congr] theorem O1{ys ys' :List AV}(e:ys=ys'):xQ ys k=xQ ys' k:=by rw[e]
@[congr] theorem OS{ys ys' :List AV}(e:ys=ys'):xm ys k=xm ys' k:=by rw[e]
@[go_sem↓] theorem Ul(x:FloatKind)(i j:Nat):yI [.v (.complex x i j)] k=k (.v (.float x i)):=rfl
@[go_sem↓] theorem TT(x:FloatKind)(i j:Nat):xQ [.v (.complex x i j)] k=k (.v (.float x j)):=rfl
@[go_sem] theorem Tm(x y:FloatKind)(i j:Nat):xm [.v (.float x i),.v (.float y j)] k=(x=y∧k (.v (.complex x i j))):=rfl
theorem Fj{x y:FloatKind}{i j:Nat}{r:Value}(h:∀(P:Program) (ts:Array TypeId) (ty:TypeId) (w:World),(Builtin.max_ ts ty #[.float x i,.float y j]).run P w= .ok r w)(k:AV→Prop):zv [.v (.float x i),.v (.float y j)] k=k (.v r):=propext ⟨fun⟨r',h',hk⟩=>by
 have e:=(h default #[] 0 default).symm.trans (h' default #[] 0 default);cases e;exact hk,fun hk=>⟨r,h,hk⟩⟩
@[go_sem↓] theorem WK(args:List Operand)(ts:Array TypeId):aZ P U ρ h ⟨d,.call ⟨.builtin .real,args.toArray,ts⟩,t,p,a,g⟩ Q=aE (evs ρ args) fun ys=>yI ys (atH Q h):=by
 simp only[aZ,pv,pvB,gG];rfl
@[go_sem↓] theorem WG(args:List Operand)(ts:Array TypeId):aZ P U ρ h ⟨d,.call ⟨.builtin .imag,args.toArray,ts⟩,t,p,a,g⟩ Q=aE (evs ρ args) fun ys=>xQ ys (atH Q h):=by
 simp only[aZ,pv,pvB,gG];rfl
@[go_sem↓] theorem SI(args:List Operand)(ts:Array TypeId):aZ P U ρ h ⟨d,.call ⟨.builtin .complex,args.toArray,ts⟩,t,p,a,g⟩ Q=aE (evs ρ args) fun ys=>xm ys (atH Q h):=by
 simp only[aZ,pv,pvB,gG];rfl
@[go_sem↓] theorem ZW(args:List Operand)(ts:Array TypeId):aZ P U ρ h ⟨d,.call ⟨.builtin .min,args.toArray,ts⟩,t,p,a,g⟩ Q=aE (evs ρ args) fun ys=>Dg ys (atH Q h):=by
 simp only[aZ,pv,pvB,gG];rfl
@[go_sem↓] theorem ZV(args:List Operand)(ts:Array TypeId):aZ P U ρ h ⟨d,.call ⟨.builtin .max,args.toArray,ts⟩,t,p,a,g⟩ Q=aE (evs ρ args) fun ys=>zv ys (atH Q h):=by
 simp only[aZ,pv,pvB,gG];rfl
@[congr] theorem Rj{e:TypeId}{y y' :AV}{f:List AV→Prop}(h1:y=y'):iu U e h y f=iu U e h y' f:=by rw[h1]
@[go_sem↓] theorem VT(e:TypeId)(ys:List AV)(q:Perm)(f:List AV→Prop):iu U e h (.sl ys q) f=f ys:=rfl
@[go_sem↓] theorem Rk(e:TypeId)(l:List UInt8)(f:List AV→Prop):iu U e h (.s l) f=((U e).k= .int .u8∧(U e).sz=1∧f (l.map aK)):=rfl
def apK(U:TypeId→TI)(h:Heap)(x y:AV)(Q:AV→Heap→Prop)(tk:TK):Prop:=match tk,x with
 |.slice e,.sl xs .full=>(U e).sz≠0∧(U e).bytes≠0∧iu U e h y fun ys=>Sized (U e).sz xs∧Sized (U e).sz ys∧(xs.length+ys.length)*(U e).bytes≤140737488355328∧
   rL U h xs ys e Q
 |.slice e,.sl xs (.own id)=>(U e).sz≠0∧(U e).bytes≠0∧iu U e h y fun ys=>Sized (U e).sz xs∧Sized (U e).sz ys∧(xs.length+ys.length)*(U e).bytes≤140737488355328∧
   h id=some (.spare xs.length (U e).sz)∧Q (.sl (xs++ys) (.own id)) (upd h id (some (.spare (xs.length+ys.length) (U e).sz)))
 |.slice e,.oa id off len=>(U e).sz≠0∧(U e).bytes≠0∧(U e).sz=1∧iu U e h y fun ys=>Sized 1 ys∧(∀z∈ys,bA z=false)∧(len+ys.length)*(U e).bytes≤140737488355328∧aE (h id) fun b=>pP b fun cs t=>
   off+len≤cs.length∧(∀z∈(cs.drop off).take len,bA z=false)∧fit (U e).zero 1∧bA (U e).zero=false∧
     (off+(len+ys.length)≤cs.length→Q (.oa id off (len+ys.length)) (upd h id (some (.obj (over cs (off+len) ys) t))))∧
     (∀id' m,h id' =none→Q (.oa id' 0 (len+ys.length)) (upd h id' (some (.obj ((cs.drop off).take len++ys++List.replicate m (U e).zero) e))))
 |.slice e,.ob id off len cap sz=>(U e).sz≠0∧(U e).bytes≠0∧sz=(U e).sz∧iu U e h y fun ys=>Sized (U e).sz ys∧(len+ys.length)*(U e).bytes≤140737488355328∧aE (h id) fun b=>pP b fun cs t=>
   off+len*(U e).sz≤cs.length∧fit (U e).zero (U e).sz∧
     (len+ys.length≤cap→Q (.ob id off (len+ys.length) cap (U e).sz) (upd h id (some (.obj (over cs (off+len*(U e).sz) (aq ys)) t))))∧
     (cap<len+ys.length→j0 h ((cs.drop off).take (len*(U e).sz)++aq ys) (len+ys.length) (U e).sz e Q)
 |_,_=>False
@[go_sem↓] theorem pV(xs:List AV)(y:AV)(e:TypeId):apK U h (.sl xs .full) y Q (.slice e)=((U e).sz≠0∧(U e).bytes≠0∧iu U e h y fun ys=>Sized (U e).sz xs∧Sized (U e).sz ys∧(xs.length+ys.length)*(U e).bytes≤140737488355328∧
   rL U h xs ys e Q):=rfl
@[go_sem↓] theorem Bm(xs:List AV)(y:AV)(id:Nat)(e:TypeId):apK U h (.sl xs (.own id)) y Q (.slice e)=((U e).sz≠0∧(U e).bytes≠0∧iu U e h y fun ys=>Sized (U e).sz xs∧Sized (U e).sz ys∧(xs.length+ys.length)*(U e).bytes≤140737488355328∧
   h id=some (.spare xs.length (U e).sz)∧Q (.sl (xs++ys) (.own id)) (upd h id (some (.spare (xs.length+ys.length) (U e).sz)))):=rfl
theorem Ea(ts:TypeId)(x y:AV):qQ U h ts x y Q=atK (U ts).k (apK U h x y Q):=by
 unfold qQ atK;cases (U ts).k with
 |slice e=>
  cases x with
  |sl xs q=>
   cases q with
   |no=>
    simp only[apK];apply propext;constructor
    ·rintro⟨_,_,hk⟩
     obtain⟨ys,hh,_⟩:∃ys:List AV,(Sized (U e).sz xs∧Sized (U e).sz ys∧(xs.length+ys.length)*(U e).bytes≤140737488355328∧False)∧True:=by
      unfold iu at hk
      grind
     grind
    simp
   |full=>
    rfl
   |own id=>rfl
  |oa id off len=>
   refine congrArg (fun q=>(U e).sz≠0∧(U e).bytes≠0∧(U e).sz=1∧q) (congrArg (fun f=>iu U e h y f) (funext fun ys=>?_))
   exact agp
  |ob id off len cap sz=>
   refine congrArg (fun q=>(U e).sz≠0∧(U e).bytes≠0∧sz=(U e).sz∧q) (congrArg (fun f=>iu U e h y f) (funext fun ys=>?_))
   exact agp
  |_=>simp[apK]
 |_=>rfl
@[go_sem↓] theorem R8(e:TypeId)(A B:Prop):apT A B (.slice e)=A:=rfl
@[go_sem↓] theorem UZ(A B:Prop):apT A B .str=A:=rfl
@[go_sem↓] theorem UY(x:IntKind)(A B:Prop):apT A B (.int x)=B:=rfl
def MV(U:TypeId→TI)(h:Heap)(x y:AV)(Q:AV→Heap→Prop)(tk:TK):Prop:=match tk,x,y with
 |.slice e,.ob id off len cap sz,.v (.int _ n)=>(U e).sz≠0∧(U e).bytes≠0∧sz=(U e).sz∧0<n∧(len+n.toNat)*(U e).bytes≤140737488355328∧fit (U e).zero (U e).sz∧cap<len+n.toNat∧aE (h id) fun b=>pP b fun cs _=>
   off+len*(U e).sz≤cs.length∧j0 h ((cs.drop off).take (len*(U e).sz)++cH (U e).zero n.toNat (U e).sz) (len+n.toNat) (U e).sz e Q
 |_,_,_=>False
@[go_sem↓] theorem U0(id off len cap sz:Nat)(x:IntKind)(n:Int)(e:TypeId):MV U h (.ob id off len cap sz) (.v (.int x n)) Q (.slice e)=((U e).sz≠0∧(U e).bytes≠0∧sz=(U e).sz∧0<n∧(len+n.toNat)*(U e).bytes≤140737488355328∧fit (U e).zero (U e).sz∧cap<len+n.toNat∧aE (h id) fun b=>pP b fun cs _=>
   off+len*(U e).sz≤cs.length∧j0 h ((cs.drop off).take (len*(U e).sz)++cH (U e).zero n.toNat (U e).sz) (len+n.toNat) (U e).sz e Q):=rfl
theorem Ms(ts:TypeId)(x y:AV):Eb U h ts x y Q=atK (U ts).k (MV U h x y Q):=by
 unfold Eb atK;cases (U ts).k with
 |slice e=>
  cases x with
  |ob id off len cap sz=>
   cases y with
   |v u=>
    cases u with
    |int k n=>
     simp only[MV];exact agp
    |_=>rfl
   |_=>rfl
  |_=>rfl
 |_=>rfl
@[go_sem↓] theorem Ue(x y:Operand)(t1 t2:TypeId):aZ P U ρ h ⟨d,.call ⟨.builtin .append, #[x,y], #[t1,t2]⟩,t,p,a,g⟩ Q=aE (ev ρ x) fun u=>aE (ev ρ y) fun v=>atK (U t2).k (apT (atK (U t1).k (apK U h u v Q)) (atK (U t1).k (MV U h u v Q))):=by
 simp[aZ,bV,Ea,Ms,atK]
def alU(U:TypeId→TI)(h:Heap)(ty:TypeId)(Q:AV→Heap→Prop)(b:Bool):Prop:=match b with
 |true=>JY h (.obj [] ty) Q
 |false=>(U ty).sz≠0∧fit (U ty).zero (U ty).sz∧JY h (.obj (U ty).zero.cells ty) Q
@[go_sem↓] theorem Zw(ty:TypeId):alU U h ty Q true=JY h (.obj [] ty) Q:=rfl
@[go_sem↓] theorem Zv(ty:TypeId):alU U h ty Q false=((U ty).sz≠0∧fit (U ty).zero (U ty).sz∧JY h (.obj (U ty).zero.cells ty) Q):=rfl
@[go_sem↓] theorem VH(ty:TypeId):aZ P U ρ h ⟨d,.alloc ty,t,p,a,g⟩ Q=alU U h ty Q (isUnit (U ty).k):=by
 simp only[aZ];cases isUnit (U ty).k<;>rfl
@[go_sem↓] theorem ZS(ty:TypeId)(x:Operand):aZ P U ρ h ⟨d,.box ty x,t,p,a,g⟩ Q=((U ty).sz≠0∧aE (ev ρ x) fun y=>fit y (U ty).sz∧JY h (.obj y.cells ty) Q):=by
 simp only[aZ,bV];rfl
def stA(U:TypeId→TI)(h:Heap)(ty:TypeId)(q y:AV)(Q:AV→Heap→Prop):Prop:=match q with
 |.ptr id off=>aE (h id) fun b=>pP b fun cs t' =>fit y (U ty).sz∧off+(U ty).sz≤cs.length∧Q (.v undef) (upd h id (some (.obj (over cs off y.cells) t')))
 |_=>False
@[congr] theorem SO{ty:TypeId}{q q' y y' :AV}(e1:q=q')(e2:y=y'):stA U h ty q y Q=stA U h ty q' y' Q:=by grind
@[go_sem↓] theorem VU(ty:TypeId)(id off:Nat)(y:AV):stA U h ty (.ptr id off) y Q=aE (h id) fun b=>pP b fun cs t' =>fit y (U ty).sz∧off+(U ty).sz≤cs.length∧Q (.v undef) (upd h id (some (.obj (over cs off y.cells) t'))):=rfl
def utA(h:Heap)(u y:AV)(Q:AV→Heap→Prop):Prop:=y= .agg []∧match u with
 |.ptr .. =>Q (.v undef) h
 |_=>False
@[congr] theorem SU{u u' y y' :AV}(e1:u=u')(e2:y=y'):utA h u y Q=utA h u' y' Q:=by grind
@[go_sem↓] theorem W6(i o:Nat):utA h (.ptr i o) (.agg []) Q=Q (.v undef) h:=by simp[utA]
def stU(U:TypeId→TI)(ρ:Env)(h:Heap)(ty:TypeId)(q x:Operand)(Q:AV→Heap→Prop)(b:Bool):Prop:=match b with
 |true=>aE (ev ρ q) fun u=>aE (ev ρ x) fun y=>utA h u y Q
 |false=>(U ty).sz≠0∧aE (ev ρ q) fun u=>aE (ev ρ x) fun y=>stA U h ty u y Q
@[go_sem↓] theorem Z3(ty:TypeId)(q x:Operand):stU U ρ h ty q x Q true=aE (ev ρ q) fun u=>aE (ev ρ x) fun y=>utA h u y Q:=rfl
@[go_sem↓] theorem Z0(ty:TypeId)(q x:Operand):stU U ρ h ty q x Q false=((U ty).sz≠0∧aE (ev ρ q) fun u=>aE (ev ρ x) fun y=>stA U h ty u y Q):=rfl
@[go_sem↓] theorem VN(ty:TypeId)(q x:Operand):aZ P U ρ h ⟨d,.store ty q x,t,p,a,g⟩ Q=stU U ρ h ty q x Q (isUnit (U ty).k):=by
 simp only[aZ,bV];cases isUnit (U ty).k
 case true=>rfl
 simp only[stU,Bool.false_eq_true,if_false]
 congr 1
 congr 1
 funext u
 congr 1
 funext y
 cases u<;>simp only[stA]
 rename_i id off
 exact agp
def mP(xs:List AV)(h:Heap)(Q:AV→Heap→Prop):Prop:=∃y h',Weak (ax xs) y∧Sub h' h∧Q y h'
@[congr] theorem OJ{xs xs' :List AV}{h h' :Heap}{Q:AV→Heap→Prop}(e1:xs=xs')(e2:h=h'):mP xs h Q=mP xs' h' Q:=by grind
@[go_sem↓] theorem Sc(rs:List ResultVar):vf U rs Q .ret ρ h=sk ρ h U rs fun xs=>mP xs h Q:=by simp[vf,mP]
@[go_sem↓] theorem MZ(rs:List ResultVar):vf U rs Q .normal ρ h=sk ρ h U rs fun xs=>mP xs h Q:=by simp[vf,mP]
@[go_sem↓] theorem Um(f:List AV→Prop):sk ρ h U [] f=f []:=rfl
@[go_sem↓] theorem Un(i:Tmp)(r:List ResultVar)(f:List AV→Prop):sk ρ h U (.tmp i::r) f=aE (lk ρ i) fun x=>sk ρ h U r fun xs=>f (x::xs):=by
 simp only[sk];cases lk ρ i<;>rfl
def Cn(U:TypeId→TI)(h:Heap)(ty:TypeId)(y:AV)(k:AV→Prop):Prop:=match y with
 |.ptr id off=>aE (h id) fun b=>pP b fun cs _=>(U ty).sz≠0∧(U ty).k≠ .other∧ij cs off (U ty) k
 |_=>False
@[congr] theorem OQ{ty:TypeId}{y y' :AV}(e:y=y'):Cn U h ty y k=Cn U h ty y' k:=by rw[e]
@[go_sem↓] theorem Sd(ty:TypeId)(id off:Nat):Cn U h ty (.ptr id off) k=aE (h id) fun b=>pP b fun cs _=>(U ty).sz≠0∧(U ty).k≠ .other∧ij cs off (U ty) k:=rfl
@[go_sem↓] theorem SM(i:Tmp)(ty:TypeId)(r:List ResultVar)(f:List AV→Prop):sk ρ h U (.cell i ty::r) f=aE (lk ρ i) fun y=>Cn U h ty y fun x=>sk ρ h U r fun xs=>f (x::xs):=by
 simp only[sk];cases lk ρ i with
 |none=>rfl
 |some y=>
  cases y<;>simp only[dw,Cn]
  rename_i id off
  exact agp
theorem mP.mk{xs:List AV}{h h' :Heap}{Q:AV→Heap→Prop}(y:AV)(hw:Weak (ax xs) y)(hs:Sub h' h)(hq:Q y h'):mP xs h Q:=⟨y,h',hw,hs,hq⟩
theorem mP.same{xs:List AV}{h h' :Heap}{Q:AV→Heap→Prop}(hs:Sub h' h)(hq:Q (ax xs) h'):mP xs h Q:=⟨_,h',.refl _,hs,hq⟩
theorem Sub.refl(h:Heap):Sub h h:=fun _ _ e=>e
theorem Sub.trans{a b c:Heap}(h1:Sub a b)(h2:Sub b c):Sub a c:=fun i k e=>h2 i k (h1 i k e)
theorem Sub.new{a b:Heap}(hs:Sub a b){id:Nat}(hid:b id=none)(k:Option Blk):Sub a (Ab.upd b id k):=fun j l e=>by
 by_cases ej:j=id
 ·subst ej;rw[hs _ _ e]at hid;grind
 ·rw[ag _ _ ej];exact hs _ _ e
theorem Sub.none{a b:Heap}(hs:Sub a b){id:Nat}(hid:b id=none):a id=none:=by
 cases hh:a id with
 |none=>rfl
 |some k=>rw[hs _ _ hh]at hid;omega
theorem ai.body(hU:∀t,aN P U t)(hm:P.follows .mixedOrders=true){f:FuncId}{fn:Func}{c:Code}{args:List AV}{h:Heap}{Q:AV→Heap→Prop}(hf:P.funcs[f]? =some fn)(hb:fn.body=some c)
  (hn : (fn.name == "runtime.NumGoroutine") = false) (m : Nat) (hm' : fn.ntmps = m) (rs : List ResultVar) (hr : fn.results.toList = rs) (hl : args.length ≤ m)
  (hk:(∀x∈args,wfA x)→bx P U m c (xA args) h (vf U rs Q)):ai P f args h Q:=by
 subst hm';subst hr
 exact ai.Uh hU hm hf hb hn hl hk
end
section
variable {P : Program} {U : TypeId → TI} {n : Nat} {ρ : Env} {h : Heap}
variable {d : Option Tmp} {t : TypeId} {p : String} {a : Array Edge} {g : Option (Nat × Bool)} {Q : AV → Heap → Prop} {k : AV → Prop}
def dsts(n:Nat):List Oper→Bool
 | []=>true
 |o::os=>eS n o.dst && dsts n os
theorem mV(l:List Oper):dsts n l=l.all fun o=>eS n o.dst:=by induction l with
 |nil=>rfl
 |cons o os ih=>grind [dsts]
@[go_sem] theorem Tx:(dsts n []=true)=True:=by simp[dsts]
@[go_sem] theorem Sl(o:Oper)(os:List Oper):(dsts n (o::os)=true)=(eS n o.dst=true∧dsts n os=true):=by simp[dsts]
def B7(ops:Array Oper):Prop:=yc ops=true
theorem B7.of{ops:Array Oper}(h:yc ops=true):B7 ops:=h
def ED(k:AV→Prop)(x:AV)(_:Heap):Prop:=k x
@[go_sem↓] theorem Sh(x:AV):ED k x h=k x:=rfl
def KDr(P:Program)(U:TypeId→TI)(n:Nat)(all os:List Oper)(h:Heap)(K:Env→Prop)(ρ:Env)(d:Option Tmp)(x:AV):Prop:=lK P U n all os (put ρ d x) h K
@[go_sem↓] theorem V0(all os:List Oper)(K:Env→Prop)(x:AV):KDr P U n all os h K ρ d x=lK P U n all os (put ρ d x) h K:=rfl
def atN(K:Exit→Env→Heap→Prop)(h:Heap)(ρ:Env):Prop:=K .normal ρ h
@[go_sem↓] theorem V4(K:Exit→Env→Heap→Prop):atN K h ρ=K .normal ρ h:=rfl
def JW(ops:Array Oper):Prop:=Le ops=true
theorem JW.of{ops:Array Oper}(h:Le ops=true):JW ops:=h
attribute [go_sem] Bool.not_false Bool.not_true BF Option.isNone_none Option.isNone_some Bool.and_true Bool.true_and Bool.and_false Bool.false_and List.dropLast_singleton
@[go_sem] theorem Fh(o o' :Oper)(r:List Oper):rH (o::o' ::r)=rH (o' ::r):=rfl
@[go_sem] theorem zn(o o' :Oper)(r:List Oper):(o::o' ::r).dropLast=o::(o' ::r).dropLast:=rfl
@[go_sem↓] theorem Sz(o:Oper)(K:Env→Heap→Prop):pI P U [o] h K ρ=aZ P U ρ h o (fun X h' =>K (put ρ o.dst X) h'):=rfl
@[go_sem↓] theorem QN(o o' :Oper)(r:List Oper)(K:Env→Heap→Prop):pI P U (o::o' ::r) h K ρ=pI P U (o' ::r) h K ρ:=rfl
def HB(l:List Oper)(k:List Oper→Prop):Prop:=k l
@[congr] theorem Pt{l l' :List Oper}{k:List Oper→Prop}(e:l=l'):HB l k=HB l' k:=by rw[e]
@[go_sem] theorem RA(o:Oper)(r:List Oper)(k:List Oper→Prop):HB (o::r) k=k (o::r):=rfl
section
variable (l : List Oper)
@[go_sem] theorem Ro:nM []=true:=rfl
@[go_sem] theorem D5(o:Oper):nM (o::l)=(!dN o.op && nM l):=rfl
end
section
variable (x y z : Operand) (ty ty' : TypeId)
@[go_sem] theorem Sp:dN (.move x)=false:=rfl
@[go_sem] theorem OX:dN (.assign x)=false:=rfl
@[go_sem] theorem Sq:dN (.pick x y z)=false:=rfl
@[go_sem] theorem MF:dN (.nilCheck x)=false:=rfl
@[go_sem] theorem Qq(op:BinOp):dN (.binOp op ty x y ty')=false:=rfl
@[go_sem] theorem Sr(op:UnOp):dN (.unOp op ty x)=false:=rfl
@[go_sem] theorem Ng:dN (.convert ty ty' x)=false:=rfl
@[go_sem] theorem Nh(f:Nat):dN (.extract x f)=false:=rfl
@[go_sem] theorem Qs:dN (.index ty x y)=false:=rfl
@[go_sem] theorem Ky(f:Nat):dN (.fieldAddr ty x f)=false:=rfl
@[go_sem] theorem Kz:dN (.indexAddr ty x y)=false:=rfl
@[go_sem] theorem So:dN (.load ty x)=false:=rfl
@[go_sem] theorem Qt(lo hi mx:Option Operand):dN (.slice ty x lo hi mx)=false:=rfl
@[go_sem] theorem JT(m:Nat)(ps:Array (Nat×Operand)):dN (.buildSlice ty m ps)=false:=rfl
@[go_sem] theorem Qr(ps:Array (Nat×Operand)):dN (.build ty ps)=false:=rfl
@[go_sem] theorem Ty(aa:Array Operand)(ts:Array TypeId):dN (.call ⟨.builtin .len,aa,ts⟩)=false:=rfl
@[go_sem] theorem Sm(aa:Array Operand)(ts:Array TypeId):dN (.call ⟨.value x,aa,ts⟩)=true:=rfl
@[go_sem] theorem OW(aa:Array Operand)(ts:Array TypeId):dN (.call ⟨.builtin .append,aa,ts⟩)=true:=rfl
@[go_sem] theorem Sn(aa:Array Operand)(ts:Array TypeId):dN (.call ⟨.builtin .copy,aa,ts⟩)=true:=rfl
@[go_sem] theorem Qp:dN (.alloc ty)=true:=rfl
@[go_sem] theorem Qu:dN (.store ty x y)=true:=rfl
end
def lM(P:Program)(U:TypeId→TI)(n:Nat)(l:List Oper)(ρ:Env)(h:Heap)(K:Exit→Env→Heap→Prop):Prop:=Pr P U n l.toArray ρ h (K .normal)
theorem lM.quiet{l:List Oper}{K:Exit→Env→Heap→Prop}(hB:yc l.toArray=true)(hk:dsts n l=true∧lK P U n l l ρ h (atN K h)):lM P U n l ρ h K:=
 ⟨af7,.inl ⟨hB,hk.2⟩⟩
theorem lM.calls{l:List Oper}{K:Exit→Env→Heap→Prop}(hm:Heap)(os:List Nat)(hs:Sub hm h)(hB:jQ .any l.toArray none (.seq os) (Array.replicate l.toArray.size false)=true)(hl:os.length=l.toArray.size)
  (hk:dsts n l=true∧dL P U n l hm os ρ h (K .normal)):lM P U n l ρ h K:=
 ⟨af7,.inr (.inl ⟨hm,.seq os,_,hs,hB,hl,hk.2,fun _ _ h=>h⟩)⟩
def PW(P:Program)(U:TypeId→TI)(n:Nat)(l:List Oper)(o2:List Nat)(K:Exit→Env→Heap→Prop)(ρ:Env)(h:Heap):Prop:=∃hm2,Sub hm2 h∧dL P U n l hm2 o2 ρ h (K .normal)
theorem lM.tree{l:List Oper}{K:Exit→Env→Heap→Prop}(hm:Heap)(t:Ord)(hs:Sub hm h)(hB:jQ .any l.toArray none t (Array.replicate l.toArray.size false)=true)(hl:t.len=l.toArray.size)
  (hk:dsts n l=true∧lB P U n l hm t ρ h (K .normal)):lM P U n l ρ h K:=
 ⟨af7,.inr ab8⟩
theorem lM.stage{l:List Oper}{K:Exit→Env→Heap→Prop}(hm:Heap)(o1 o2:List Nat)(hs:Sub hm h)(hB:wM .any l.toArray o1 o2=true)
  (hk:dsts n l=true∧dL P U n l hm o1 ρ h (PW P U n l o2 K)):lM P U n l ρ h K:=
 ⟨af7,.inr (.inr (.inl ⟨hm,o1,o2,hs,hB,hk.2⟩))⟩
theorem lM.late{l:List Oper}{K:Exit→Env→Heap→Prop}(hm:Heap)(o1 o2:List Nat)(hs:Sub hm h)(hB:GI .any l.toArray o1 o2=true)
  (hk:dsts n l=true∧dL P U n l hm o1 ρ h (fun ρ h=>dL P U n l (fun _=>none) o2 ρ h (K .normal))):lM P U n l ρ h K:=
 ⟨af7,.inr (.inr (.inr (.inr ⟨hm,o1,o2,hs,hB,hk.2⟩)))⟩
def F4(P:Program)(U:TypeId→TI)(l:List Oper)(K:Exit→Env→Heap→Prop)(ρ:Env)(h:Heap):Prop:=pI P U l h (K .normal) ρ
@[go_sem↓] theorem RY(o:Oper)(K:Exit→Env→Heap→Prop):F4 P U [o] K ρ h=aZ P U ρ h o (fun X h' =>K .normal (put ρ o.dst X) h'):=rfl
@[go_sem↓] theorem PM(o o' :Oper)(r:List Oper)(K:Exit→Env→Heap→Prop):F4 P U (o::o' ::r) K ρ h=F4 P U (o' ::r) K ρ h:=rfl
theorem lM.last{l:List Oper}{K:Exit→Env→Heap→Prop}(hm:Heap)(os:List Nat)(hs:Sub hm h)(hz:Eh .any l.toArray os.length=true)(hg:(l.getLast?.map fun o=>o.guard.isNone)=some true)(hB:jQ .any l.toArray (some os.length) (.seq os) (Array.replicate l.toArray.size false)=true)(hl:os.length+1=l.toArray.size)
  (hk:dsts n l=true∧dL P U n l hm os ρ h (F4 P U l K)):lM P U n l ρ h K:=
 ⟨af7,.inr (.inr (.inr (.inl ⟨hm,.seq os,hs,hz,hg,hB,hl,hk.2⟩)))⟩
def u7(P:Program)(U:TypeId→TI)(n:Nat)(l:List Oper)(ρ:Env)(h:Heap)(K:Exit→Env→Heap→Prop)(b:Bool)(e:Bool):Prop:=match b,e with
 |true,_=>JW l.toArray∧dsts n l=true∧lK P U n l l.dropLast ρ h (pI P U l h (K .normal))
 |false,true=>B7 l.toArray∧dsts n l=true∧lK P U n l l ρ h (atN K h)
 |false,false=>lM P U n l ρ h K
@[congr] theorem OE{l:List Oper}{K:Exit→Env→Heap→Prop}{b b' e e' :Bool}(h1:b=b')(h2:e=e'):u7 P U n l ρ h K b e=u7 P U n l ρ h K b' e' :=by grind
@[go_sem↓] theorem Pz(l:List Oper)(K:Exit→Env→Heap→Prop)(e:Bool):u7 P U n l ρ h K true e=(JW l.toArray∧dsts n l=true∧HB l.dropLast fun l' =>lK P U n l l' ρ h (pI P U l h (K .normal))):=by rfl
@[go_sem↓] theorem OF(l:List Oper)(K:Exit→Env→Heap→Prop):u7 P U n l ρ h K false true=(B7 l.toArray∧dsts n l=true∧lK P U n l l ρ h (atN K h)):=rfl
@[go_sem↓] theorem RF(l:List Oper)(K:Exit→Env→Heap→Prop):u7 P U n l ρ h K false false=lM P U n l ρ h K:=rfl
def sr(l:List Oper):Bool:=rH l && nM l.dropLast
@[go_sem] theorem Rn(o:Oper):sr [o]=(BF o.op && o.guard.isNone):=by simp[sr,rH,nM]
@[go_sem] theorem Pm(o o' :Oper)(r:List Oper):sr (o::o' ::r)=(!dN o.op && sr (o' ::r)):=by
 grind [sr,Fh,zn,D5,dN]
@[go_sem↓] theorem WS(id:Nat)(l:List Oper)(K:Exit→Env→Heap→Prop):bx P U n (.region id l.toArray true) ρ h K=u7 P U n l ρ h K (sr l) (nM l):=by
 simp only[bx,if_true,sr];cases hb:(rH l && nM l.dropLast)with
 |true=>
  simp[if_true,Bool.and_eq_true,u7,JW,mV,and_assoc]
 |false=>
  cases he:nM l with
  |true=>
   simp only[Bool.false_eq_true,if_false,Bool.and_eq_true,u7,B7,mV,and_assoc,Bool.true_eq_false];rfl
  |false=>
   rfl
def rM(P:Program)(U:TypeId→TI)(n:Nat)(all:List Oper)(hm:Heap)(is:List Nat)(K:Env→Heap→Prop)(ρ:Env)(d:Option Tmp)(X:AV)(h:Heap):Prop:=dL P U n all hm is (put ρ d X) h K
@[go_sem↓] theorem UP(all:List Oper)(hm:Heap)(is:List Nat)(K:Env→Heap→Prop)(d:Option Tmp)(X:AV):rM P U n all hm is K ρ d X h=dL P U n all hm is (put ρ d X) h K:=rfl
def PF(P:Program)(U:TypeId→TI)(n:Nat)(all:List Oper)(hm:Heap)(is:List Nat)(K:Env→Heap→Prop)(ρ:Env)(d:Option Tmp)(X:AV)(h:Heap):Prop:=Sub hm h∧dL P U n all hm is (put ρ d X) h K
@[go_sem↓] theorem UQ(all:List Oper)(hm:Heap)(is:List Nat)(K:Env→Heap→Prop)(d:Option Tmp)(X:AV):PF P U n all hm is K ρ d X h=(Sub hm h∧dL P U n all hm is (put ρ d X) h K):=rfl
@[go_sem] theorem S5:Sub (fun _=>none) h=True:=eq_true fun _ _ e=>by cases e
@[go_sem↓] theorem ZQ(all:List Oper)(hm:Heap)(K:Env→Heap→Prop):dL P U n all hm [] ρ h K=K ρ h:=rfl
def mL(P:Program)(U:TypeId→TI)(n:Nat)(all:List Oper)(hm:Heap)(is:List Nat)(K:Env→Heap→Prop)(ρ:Env)(h:Heap)(o:Oper)(e:Bool):Prop:=match e with
 |true=>aZ P U ρ h o (PF P U n all hm is K ρ o.dst)
 |false=>pv U ρ hm o.op fun X=>dL P U n all hm is (put ρ o.dst X) h K
@[congr] theorem PT{all:List Oper}{hm:Heap}{is:List Nat}{K:Env→Heap→Prop}{o:Oper}{e e' :Bool}(he:e=e'):mL P U n all hm is K ρ h o e=mL P U n all hm is K ρ h o e' :=by rw[he]
def iS(k:AV→Heap→Prop)(h:Heap)(x:AV)(_:Heap):Prop:=k x h
@[go_sem↓] theorem Sg(k:AV→Heap→Prop)(h h' :Heap)(x:AV):iS k h x h' =k x h:=rfl
@[go_sem↓] theorem R1(all:List Oper)(hm:Heap)(is:List Nat)(K:Env→Heap→Prop)(op:Op):mL P U n all hm is K ρ h ⟨d,op,t,p,a,g⟩ true=aZ P U ρ h ⟨d,op,t,p,a,g⟩ (PF P U n all hm is K ρ d):=rfl
def notNil:Op→Bool
 |.binOp _ _ _ y _=> !Fu y
 |_=>true
theorem NY{hm:Heap}{op:Op}{k:AV→Heap→Prop}(h1:dN op=false)(h2:notNil op=true):aZ P U ρ hm ⟨d,op,t,p,a,g⟩ (iS k h)=pv U ρ hm op fun X=>k X h:=by
 cases op with
 |call c=>
  obtain⟨cal,args,ts⟩:=c;cases cal with
  |value q=>grind [dN]
  |builtin b=>cases b<;>first|rfl|grind [dN]
  |_=>rfl
 |binOp op ty x y ty' =>
  simp only[notNil,Bool.not_eq_true']at h2;simp only[aZ,h2];rfl
 |alloc=>grind [dN]
 |box=>grind [dN]
 |store=>grind [dN]
 |makeSlice=>grind [dN]
 |makeMap=>grind [dN]
 |mapUpdate=>grind [dN]
 |_=>rfl
theorem dR{all:List Oper}{hm:Heap}{is:List Nat}{K:Env→Heap→Prop}{op:Op}(h1:dN op=false)(h2:notNil op=true):
  mL P U n all hm is K ρ h ⟨d,op,t,p,a,g⟩ false=aZ P U ρ hm ⟨d,op,t,p,a,g⟩ (iS (rM P U n all hm is K ρ d) h):=by
 rw[NY h1 h2];rfl
section
variable (all : List Oper) (hm : Heap) (is : List Nat) (K : Env → Heap → Prop) (x y z : Operand) (ty ty' : TypeId)
@[go_sem↓] theorem R0:mL P U n all hm is K ρ h ⟨d,.move x,t,p,a,g⟩ false=aZ P U ρ hm ⟨d,.move x,t,p,a,g⟩ (iS (rM P U n all hm is K ρ d) h):=dR rfl rfl
@[go_sem↓] theorem OI:mL P U n all hm is K ρ h ⟨d,.assign x,t,p,a,g⟩ false=aZ P U ρ hm ⟨d,.assign x,t,p,a,g⟩ (iS (rM P U n all hm is K ρ d) h):=dR rfl rfl
@[go_sem↓] theorem MD:mL P U n all hm is K ρ h ⟨d,.nilCheck x,t,p,a,g⟩ false=aZ P U ρ hm ⟨d,.nilCheck x,t,p,a,g⟩ (iS (rM P U n all hm is K ρ d) h):=dR rfl rfl
@[go_sem↓] theorem MP(f:Nat):mL P U n all hm is K ρ h ⟨d,.extract x f,t,p,a,g⟩ false=aZ P U ρ hm ⟨d,.extract x f,t,p,a,g⟩ (iS (rM P U n all hm is K ρ d) h):=dR rfl rfl
@[go_sem↓] theorem JZ(f:Nat):mL P U n all hm is K ρ h ⟨d,.fieldAddr ty x f,t,p,a,g⟩ false=aZ P U ρ hm ⟨d,.fieldAddr ty x f,t,p,a,g⟩ (iS (rM P U n all hm is K ρ d) h):=dR rfl rfl
@[go_sem↓] theorem J0:mL P U n all hm is K ρ h ⟨d,.indexAddr ty x y,t,p,a,g⟩ false=aZ P U ρ hm ⟨d,.indexAddr ty x y,t,p,a,g⟩ (iS (rM P U n all hm is K ρ d) h):=dR rfl rfl
@[go_sem↓] theorem RZ:mL P U n all hm is K ρ h ⟨d,.load ty x,t,p,a,g⟩ false=aZ P U ρ hm ⟨d,.load ty x,t,p,a,g⟩ (iS (rM P U n all hm is K ρ d) h):=dR rfl rfl
@[go_sem↓] theorem PU(lo hi mx:Option Operand):mL P U n all hm is K ρ h ⟨d,.slice ty x lo hi mx,t,p,a,g⟩ false=aZ P U ρ hm ⟨d,.slice ty x lo hi mx,t,p,a,g⟩ (iS (rM P U n all hm is K ρ d) h):=dR rfl rfl
@[go_sem↓] theorem JS(m:Nat)(ps:Array (Nat×Operand)):mL P U n all hm is K ρ h ⟨d,.buildSlice ty m ps,t,p,a,g⟩ false=aZ P U ρ hm ⟨d,.buildSlice ty m ps,t,p,a,g⟩ (iS (rM P U n all hm is K ρ d) h):=dR rfl rfl
@[go_sem↓] theorem PR(ps:Array (Nat×Operand)):mL P U n all hm is K ρ h ⟨d,.build ty ps,t,p,a,g⟩ false=aZ P U ρ hm ⟨d,.build ty ps,t,p,a,g⟩ (iS (rM P U n all hm is K ρ d) h):=dR rfl rfl
@[go_sem↓] theorem S3(aa:Array Operand)(ts:Array TypeId):mL P U n all hm is K ρ h ⟨d,.call ⟨.builtin .len,aa,ts⟩,t,p,a,g⟩ false=aZ P U ρ hm ⟨d,.call ⟨.builtin .len,aa,ts⟩,t,p,a,g⟩ (iS (rM P U n all hm is K ρ d) h):=dR rfl rfl
@[go_sem↓] theorem PN(op:BinOp)(w:Tmp):mL P U n all hm is K ρ h ⟨d,.binOp op ty x (.tmp w) ty',t,p,a,g⟩ false=aZ P U ρ hm ⟨d,.binOp op ty x (.tmp w) ty',t,p,a,g⟩ (iS (rM P U n all hm is K ρ d) h):=dR rfl rfl
@[go_sem↓] theorem MO(op:BinOp)(ik:IntKind)(im:Int):mL P U n all hm is K ρ h ⟨d,.binOp op ty x (.const (.int ik im)) ty',t,p,a,g⟩ false=aZ P U ρ hm ⟨d,.binOp op ty x (.const (.int ik im)) ty',t,p,a,g⟩ (iS (rM P U n all hm is K ρ d) h):=dR rfl rfl
end
def PD(P:Program)(U:TypeId→TI)(n:Nat)(all:List Oper)(hm:Heap)(is:List Nat)(ρ:Env)(h:Heap)(K:Env→Heap→Prop)(w:Bool)(o:Oper)(s:Nat)(x:AV):Prop:=
 gB s w ρ (fun ρ=>mL P U n all hm is K ρ h o (dN o.op)) (fun ρ=>dL P U n all hm is (put ρ o.dst (.v undef)) h K) x
section
variable {all : List Oper} {hm : Heap} {is : List Nat} {K : Env → Heap → Prop} {o : Oper} {s : Nat}
end
def L8(P:Program)(U:TypeId→TI)(n:Nat)(all:List Oper)(hm:Heap)(is:List Nat)(ρ:Env)(h:Heap)(K:Env→Heap→Prop)(o:Oper):Prop:=match o.guard with
 |none=>mL P U n all hm is K ρ h o (dN o.op)
 |some (gi,w)=>aE (qj all gi) fun s=>aE (lk ρ s) (PD P U n all hm is ρ h K w o s)
@[go_sem↓] theorem Rm(all:List Oper)(hm:Heap)(is:List Nat)(K:Env→Heap→Prop)(op:Op):L8 P U n all hm is ρ h K ⟨d,op,t,p,a,none⟩=mL P U n all hm is K ρ h ⟨d,op,t,p,a,none⟩ (dN op):=rfl
@[go_sem↓] theorem Wx(all:List Oper)(hm:Heap)(i:Nat)(is:List Nat)(K:Env→Heap→Prop):dL P U n all hm (i::is) ρ h K=aE all[i]? (L8 P U n all hm is ρ h K):=by
 simp only[dL];cases all[i]? with
 |none=>rfl
 |some o=>
  simp only[dw,L8];have e:∀ρ',Ec P U hm o ρ' h (fun X h' =>dL P U n all hm is (put ρ' o.dst X) h' K)=mL P U n all hm is K ρ' h o (dN o.op):=fun ρ' =>by
   unfold Ec mL vcE;cases dN o.op<;>rfl
  cases hg:o.guard with
  |none=>simp only[jL];exact e ρ
  |some gg=>
   rw[uh];simp only[e];rfl
@[congr] theorem RH{f f' :FuncId}{a a' :List AV}{hm:Heap}{k:AV→Prop}(h0:f=f')(h1:a=a'):FnQ P f a hm k=FnQ P f' a' hm k:=by grind
@[go_sem↓] theorem WO(hm:Heap)(q:Operand)(args:List Operand)(ts:Array TypeId)(k:AV→Prop):vcQ P U ρ hm ⟨d,.call ⟨.value q,args.toArray,ts⟩,t,p,a,g⟩ k=aE (ev ρ q) fun y=>fnA y fun f cap=>aE (evs ρ args) fun ys=>FnQ P f (ys++cap) hm k:=by
 simp only[vcQ,bV,gG]
 congr 1
def QStep(P:Program)(U:TypeId→TI)(n:Nat)(all:List Oper)(hm:Heap)(t:Ord)(ρ:Env)(h:Heap)(K:Env→Heap→Prop)(o:Oper):Prop:=o.guard=none∧vcQ P U ρ hm o fun X=>lB P U n all hm t (put ρ o.dst X) h K
@[go_sem↓] theorem S4(all:List Oper)(hm:Heap)(t' :Ord)(K:Env→Heap→Prop)(op:Op):QStep P U n all hm t' ρ h K ⟨d,op,t,p,a,none⟩=vcQ P U ρ hm ⟨d,op,t,p,a,none⟩ fun X=>lB P U n all hm t' (put ρ d X) h K:=by simp[QStep]
@[go_sem↓] theorem Z4(all:List Oper)(hm:Heap)(l:List Nat)(K:Env→Heap→Prop):lB P U n all hm (.seq l) ρ h K=dL P U n all hm l ρ h K:=rfl
@[go_sem↓] theorem VV(all:List Oper)(hm:Heap)(l:List Nat)(i:Nat)(t' :Ord)(K:Env→Heap→Prop):lB P U n all hm (.quiet l i t') ρ h K=dL P U n all hm l ρ h fun ρ h=>aE all[i]? (QStep P U n all hm t' ρ h K):=by
 simp only[lB]
 congr 1
 funext ρ h
 cases all[i]? <;>rfl
@[go_sem↓] theorem WZ(all:List Oper)(hm:Heap)(l is:List Nat)(t' :Ord)(K:Env→Heap→Prop):lB P U n all hm (.news l is t') ρ h K=dL P U n all hm l ρ h fun ρ h=>Sub hm h∧lV U all is∧rK P U all is ρ h fun ρ h=>lB P U n all hm t' ρ h K:=rfl
def Pj(U:TypeId→TI)(o:Oper):Prop:=yN U o.op
@[go_sem↓] theorem Uq(ty:TypeId):Pj U ⟨d,.alloc ty,t,p,a,g⟩=(isUnit (U ty).k=true∨(U ty).sz≠0∧fit (U ty).zero (U ty).sz):=rfl
@[go_sem↓] theorem SN(all:List Oper):lV U all []=True:=rfl
@[go_sem↓] theorem Rh(all:List Oper)(i:Nat)(is:List Nat):lV U all (i::is)=(aE all[i]? (Pj U)∧lV U all is):=by
 simp only[lV];cases all[i]? <;>rfl
def NStep(P:Program)(U:TypeId→TI)(all:List Oper)(is:List Nat)(ρ:Env)(h:Heap)(K:Env→Heap→Prop)(o:Oper):Prop:=aZ P U ρ h o fun X h' =>rK P U all is (put ρ o.dst X) h' K
@[go_sem↓] theorem S1(all:List Oper)(is:List Nat)(K:Env→Heap→Prop)(op:Op):NStep P U all is ρ h K ⟨d,op,t,p,a,g⟩=aZ P U ρ h ⟨d,op,t,p,a,g⟩ fun X h' =>rK P U all is (put ρ d X) h' K:=rfl
@[go_sem↓] theorem VG(all:List Oper)(K:Env→Heap→Prop):rK P U all [] ρ h K=K ρ h:=rfl
@[go_sem↓] theorem Ua(all:List Oper)(i:Nat)(is:List Nat)(K:Env→Heap→Prop):rK P U all (i::is) ρ h K=aE all[i]? (NStep P U all is ρ h K):=by
 simp only[rK];cases all[i]? <;>rfl
@[go_sem↓] theorem ZK(all:List Oper)(K:Env→Prop):lK P U n all [] ρ h K=K ρ:=rfl
@[go_sem↓] theorem Wq(all:List Oper)(op:Op)(os:List Oper)(K:Env→Prop):
  lK P U n all (⟨d,op,t,p,a,none⟩::os) ρ h K=(eS n d=true∧ju P U ρ h ⟨d,op,t,p,a,none⟩ (KDr P U n all os h K ρ d)):=rfl
def ny(P:Program)(U:TypeId→TI)(n:Nat)(all os:List Oper)(ρ:Env)(h:Heap)(K:Env→Prop)(w:Bool)(d:Option Tmp)(op:Op)(t:TypeId)(p:String)(a:Array Edge)(g:Option (Nat×Bool))(s:Nat)(x:AV):Prop:=
 gB s w ρ (fun ρ=>ju P U ρ h ⟨d,op,t,p,a,g⟩ (KDr P U n all os h K ρ d)) (fun ρ=>lK P U n all os (put ρ d (.v undef)) h K) x
section
variable {all os : List Oper} {K : Env → Prop} {op : Op} {s : Nat}
@[go_sem↓] theorem RU:ny P U n all os ρ h K true d op t p a g s (.b true)=ju P U ((s,.b true)::ρ) h ⟨d,op,t,p,a,g⟩ (KDr P U n all os h K ((s,.b true)::ρ) d):=by simp[ny,gB,Br]
@[go_sem↓] theorem RT:ny P U n all os ρ h K true d op t p a g s (.b false)=lK P U n all os (put ((s,.b false)::ρ) d (.v undef)) h K:=by simp[ny,gB,Br]
@[go_sem↓] theorem RQ:ny P U n all os ρ h K false d op t p a g s (.b true)=lK P U n all os (put ((s,.b true)::ρ) d (.v undef)) h K:=by simp[ny,gB,Br]
@[go_sem↓] theorem RP:ny P U n all os ρ h K false d op t p a g s (.b false)=ju P U ((s,.b false)::ρ) h ⟨d,op,t,p,a,g⟩ (KDr P U n all os h K ((s,.b false)::ρ) d):=by simp[ny,gB,Br]
end
@[go_sem↓] theorem Vg(all:List Oper)(op:Op)(gi:Nat)(w:Bool)(os:List Oper)(K:Env→Prop):
  lK P U n all (⟨d,op,t,p,a,some (gi,w)⟩::os) ρ h K=(eS n d=true∧aE (qj all gi) fun s=>aE (lk ρ s) (ny P U n all os ρ h K w d op t p a (some (gi,w)) s)):=by
 have:=uh (ρ:=ρ) all gi w (fun ρ=>ju P U ρ h ⟨d,op,t,p,a,some (gi,w)⟩ (KDr P U n all os h K ρ d)) (fun ρ=>lK P U n all os (put ρ d (.v undef)) h K)
 rw[show(fun s=>aE (lk ρ s) (ny P U n all os ρ h K w d op t p a (some (gi,w)) s))=fun d_1=>aE (lk ρ d_1) fun x=>gB d_1 w ρ (fun ρ=>ju P U ρ h ⟨d,op,t,p,a,some (gi,w)⟩ (KDr P U n all os h K ρ d)) (fun ρ=>lK P U n all os (put ρ d (.v undef)) h K) x from rfl,←this]
 rfl
def FnD(P:Program)(f:FuncId)(args:List AV)(h:Heap)(k:AV→Prop):Prop:=∃X,ai P f args h (fun x h' =>x=X∧h' =h)∧k X
@[congr] theorem RG{f f' :FuncId}{a a' :List AV}{h h' :Heap}(h0:f=f')(h1:a=a')(h2:h=h'):FnD P f a h k=FnD P f' a' h' k:=by grind
@[go_sem↓] theorem Vb(q:Operand)(args:List Operand)(ts:Array TypeId):ju P U ρ h ⟨d,.call ⟨.value q,args.toArray,ts⟩,t,p,a,g⟩ k=aE (ev ρ q) fun y=>fnA y fun f cap=>aE (evs ρ args) fun ys=>FnD P f (ys++cap) h k:=by
 simp only[ju,bV,gG]
 congr 1
def opD(P:Program)(U:TypeId→TI)(ρ:Env)(h:Heap)(d:Option Tmp)(op:Op)(t:TypeId)(p:String)(a:Array Edge)(g:Option (Nat×Bool))(k:AV→Prop):Prop:=aZ P U ρ h ⟨d,op,t,p,a,g⟩ (ED k)
@[go_sem↓] theorem WM(op:Op):opD P U ρ h d op t p a g k=aZ P U ρ h ⟨d,op,t,p,a,g⟩ (ED k):=rfl
section
@[go_sem↓] theorem Vd(x:Operand):ju P U ρ h ⟨d,.move x,t,p,a,g⟩ k=opD P U ρ h d (.move x) t p a g k:=rfl
@[go_sem↓] theorem Sk(x:Operand):ju P U ρ h ⟨d,.assign x,t,p,a,g⟩ k=opD P U ρ h d (.assign x) t p a g k:=rfl
@[go_sem↓] theorem Ve(x y z:Operand):ju P U ρ h ⟨d,.pick x y z,t,p,a,g⟩ k=opD P U ρ h d (.pick x y z) t p a g k:=rfl
@[go_sem↓] theorem OT(x:Operand):ju P U ρ h ⟨d,.nilCheck x,t,p,a,g⟩ k=opD P U ρ h d (.nilCheck x) t p a g k:=rfl
theorem Gg(op:BinOp)(ty ty' :TypeId)(x y:Operand)(hy:Fu y=false):ju P U ρ h ⟨d,.binOp op ty x y ty',t,p,a,g⟩ k=opD P U ρ h d (.binOp op ty x y ty') t p a g k:=by
 simp only[ju,opD,aZ,hy];rfl
@[go_sem↓] theorem To(op:BinOp)(ty ty' :TypeId)(x:Operand)(y:Tmp):ju P U ρ h ⟨d,.binOp op ty x (.tmp y) ty',t,p,a,g⟩ k=opD P U ρ h d (.binOp op ty x (.tmp y) ty') t p a g k:=Gg _ _ _ _ _ rfl
@[go_sem↓] theorem Qe(op:BinOp)(ty ty' :TypeId)(x:Operand)(ik:IntKind)(im:Int):ju P U ρ h ⟨d,.binOp op ty x (.const (.int ik im)) ty',t,p,a,g⟩ k=opD P U ρ h d (.binOp op ty x (.const (.int ik im)) ty') t p a g k:=Gg _ _ _ _ _ rfl
@[go_sem↓] theorem Vf(op:UnOp)(ty:TypeId)(x:Operand):ju P U ρ h ⟨d,.unOp op ty x,t,p,a,g⟩ k=opD P U ρ h d (.unOp op ty x) t p a g k:=rfl
@[go_sem↓] theorem Qf(s e:TypeId)(x:Operand):ju P U ρ h ⟨d,.convert s e x,t,p,a,g⟩ k=opD P U ρ h d (.convert s e x) t p a g k:=rfl
@[go_sem↓] theorem Qg(x:Operand)(i:Nat):ju P U ρ h ⟨d,.extract x i,t,p,a,g⟩ k=opD P U ρ h d (.extract x i) t p a g k:=rfl
@[go_sem↓] theorem Tq(ty:TypeId)(x i:Operand):ju P U ρ h ⟨d,.index ty x i,t,p,a,g⟩ k=opD P U ρ h d (.index ty x i) t p a g k:=rfl
@[go_sem↓] theorem M7(ty:TypeId)(x:Operand)(f:Nat):ju P U ρ h ⟨d,.fieldAddr ty x f,t,p,a,g⟩ k=opD P U ρ h d (.fieldAddr ty x f) t p a g k:=rfl
@[go_sem↓] theorem M8(ty:TypeId)(x i:Operand):ju P U ρ h ⟨d,.indexAddr ty x i,t,p,a,g⟩ k=opD P U ρ h d (.indexAddr ty x i) t p a g k:=rfl
@[go_sem↓] theorem Vc(ty:TypeId)(x:Operand):ju P U ρ h ⟨d,.load ty x,t,p,a,g⟩ k=opD P U ρ h d (.load ty x) t p a g k:=rfl
@[go_sem↓] theorem Tr(ty:TypeId)(x:Operand)(lo hi mx:Option Operand):ju P U ρ h ⟨d,.slice ty x lo hi mx,t,p,a,g⟩ k=opD P U ρ h d (.slice ty x lo hi mx) t p a g k:=rfl
@[go_sem↓] theorem ME(ty:TypeId)(len:Nat)(parts:Array (Nat×Operand)):ju P U ρ h ⟨d,.buildSlice ty len parts,t,p,a,g⟩ k=opD P U ρ h d (.buildSlice ty len parts) t p a g k:=rfl
@[go_sem↓] theorem Tp(ty:TypeId)(parts:Array (Nat×Operand)):ju P U ρ h ⟨d,.build ty parts,t,p,a,g⟩ k=opD P U ρ h d (.build ty parts) t p a g k:=rfl
@[go_sem↓] theorem Wo(x:Operand)(ty:TypeId):ju P U ρ h ⟨d,.call ⟨.builtin .len, #[x], #[ty]⟩,t,p,a,g⟩ k=opD P U ρ h d (.call ⟨.builtin .len, #[x], #[ty]⟩) t p a g k:=rfl
end
@[go_sem↓] theorem Oc(e:TypeId)(id off len:Nat)(f:List AV→Prop):iu U e h (.oa id off len) f=((U e).sz=1∧aE (h id) fun b=>pP b fun cs _=>off+len≤cs.length∧(∀x∈(cs.drop off).take len,x.cells.length=1)∧(∀x∈(cs.drop off).take len,bA x=false)∧f ((cs.drop off).take len)):=by
 simp only[iu]
 congr 1
 exact agp
@[go_sem↓] theorem Od(e:TypeId)(id off len cap sz:Nat)(f:List AV→Prop):iu U e h (.ob id off len cap sz) f=(sz=(U e).sz∧aE (h id) fun b=>pP b fun cs _=>∃ys:List AV,ys.length=len∧off+len*sz≤cs.length∧aq ys=(cs.drop off).take (len*sz)∧f ys):=by
 simp only[iu]
 congr 1
 exact agp
@[go_sem] theorem U9(xs:List AV)(q:Perm)(n:Nat):EE (.sl xs q) n= .sl xs q:=rfl
@[go_sem] theorem U8(i o l c s n:Nat):EE (.ob i o l c s) n= .ob i o (min l n) c s:=rfl
def cpK(U:TypeId→TI)(h:Heap)(x y:AV)(Q:AV→Heap→Prop)(tk:TK):Prop:=match tk,x with
 |.slice e,.oa id off len=>(U e).sz=1∧iu U e h y fun ys=>Sized 1 ys∧(∀z∈ys,bA z=false)∧aE (h id) fun b=>pP b fun cs t=>
   ys.length≤len∧off+len≤cs.length∧Q (.i ys.length) (upd h id (some (.obj (over cs off ys) t)))
 |.slice e,.ob id off len _ sz=>(U e).sz≠0∧sz=(U e).sz∧iu U e h (EE y len) fun ys=>Sized (U e).sz ys∧aE (h id) fun b=>pP b fun cs t=>
   ys.length≤len∧off+len*(U e).sz≤cs.length∧Q (.i ys.length) (upd h id (some (.obj (over cs off (aq ys)) t)))
 |_,_=>False
@[go_sem↓] theorem Wl(id off len cap sz:Nat)(y:AV)(e:TypeId):cpK U h (.ob id off len cap sz) y Q (.slice e)=((U e).sz≠0∧sz=(U e).sz∧iu U e h (EE y len) fun ys=>Sized (U e).sz ys∧aE (h id) fun b=>pP b fun cs t=>
   ys.length≤len∧off+len*(U e).sz≤cs.length∧Q (.i ys.length) (upd h id (some (.obj (over cs off (aq ys)) t)))):=rfl
@[go_sem↓] theorem WE(x y:Operand)(t1 t2:TypeId):aZ P U ρ h ⟨d,.call ⟨.builtin .copy, #[x,y], #[t1,t2]⟩,t,p,a,g⟩ Q=aE (ev ρ x) fun u=>aE (ev ρ y) fun v=>atK (U t1).k (cpK U h u v Q):=by
 simp only[aZ,bV,B2,atK]
 congr 1
 funext u
 congr 1
 funext v
 cases (U t1).k with
 |slice e=>
  cases u with
  |oa id off len=>
   refine congrArg (fun f=>(U e).sz=1∧iu U e h v f) (funext fun ys=>?_)
   exact agp
  |ob id off len cap sz=>
   refine congrArg (fun f=>(U e).sz≠0∧sz=(U e).sz∧iu U e h (EE v len) f) (funext fun ys=>?_)
   exact agp
  |_=>simp[cpK]
 |_=>simp[cpK]
end
section
variable {P : Program} {U : TypeId → TI} {n : Nat} {ρ : Env} {h h' : Heap} {tb : TypeId} {y : AV} {l : List UInt8}
@[go_sem] theorem Td(c:UInt8):aK c= .v (.int .u8 c.toNat):=rfl
@[go_sem] theorem jy(l:List UInt8):Sized 1 (l.map aK)=True:=by
 apply eq_true;intro z hz;obtain⟨c,_,rfl⟩:=List.mem_map.1 hz;rfl
@[go_sem] theorem R4(m:Nat):Sized m []=True:=by simp[Sized]
@[go_sem] theorem PV(m:Nat)(x:AV)(r:List AV):Sized m (x::r)=(x.cells.length=m∧Sized m r):=by simp[Sized]
theorem Dk(l:List UInt8):∀z∈l.map aK,bA z=false:=by
 intro z hz;obtain⟨c,_,rfl⟩:=List.mem_map.1 hz;rfl
@[go_sem] theorem NH(l:List UInt8):(l.map aK).length=l.length:=abX ..
theorem Sub.aj{id:Nat}{k:Option Blk}(hid:h id=Option.none):Sub h (Ab.upd h id k):=(Sub.refl h).new hid k
def Keep(id:Nat)(h h' :Heap):Prop:=∀j k,j≠id→h j=some k→h' j=some k
theorem Keep.refl(id:Nat)(h:Heap):Keep id h h:=fun _ _ _ e=>e
theorem Keep.trans{a b c:Heap}{id:Nat}(x:Keep id a b)(y:Keep id b c):Keep id a c:=fun j k e hj=>y j k e (x j k e hj)
theorem Sub.keep(hs:Sub h h')(id:Nat):Keep id h h' :=fun _ _ _ e=>hs _ _ e
theorem Keep.upd(id:Nat)(k:Option Blk):Keep id h (Ab.upd h id k):=fun _ _ e hj=>acM
def Bytes(tb:TypeId)(h:Heap)(y:AV)(l:List UInt8):Prop:=
 (∃q,y= .sl (l.map aK) q)∨∃id off cs,y= .oa id off l.length∧h id=some (.obj cs tb)∧off+l.length≤cs.length∧(cs.drop off).take l.length=l.map aK
theorem Bytes.sl(l:List UInt8)(q:Perm):Bytes tb h (.sl (l.map aK) q) l:=.inl ⟨q,rfl⟩
theorem Bytes.nil(q:Perm):Bytes tb h (.sl [] q) []:=.inl ⟨q,rfl⟩
theorem Bytes.oa{id off:Nat}{cs:List AV}(h1:h id=some (.obj cs tb))(h2:off+l.length≤cs.length)(h3:(cs.drop off).take l.length=l.map aK):Bytes tb h (.oa id off l.length) l:=.inr ⟨id,off,cs,rfl,h1,h2,h3⟩
theorem Bytes.sub(hb:Bytes tb h y l)(hs:Sub h h'):Bytes tb h' y l:=by
 rcases hb with hb|⟨id,off,cs,rfl,h1,h2,h3⟩
 ·exact afZ
 ·exact .oa (hs _ _ h1) h2 h3
theorem Bytes.keep(hb:Bytes tb h y l){id:Nat}(hs:Keep id h h'){cs:List AV}{t:TypeId}(hid:h id=some (.obj cs t))(ht:t≠tb):Bytes tb h' y l:=by
 rcases hb with hb|⟨i,off,cs',rfl,h1,h2,h3⟩
 ·exact afZ
 ·refine .oa (hs _ _ (fun e=>?_) h1) h2 h3
  grind
theorem Bytes.new(hb:Bytes tb h y l){id:Nat}{k:Option Blk}(hid:h id=none):Bytes tb (Ab.upd h id k) y l:=hb.sub (Sub.aj hid)
theorem Bytes.cells(hb:Bytes tb h y l):y.cells= [y]:=by
 exact ag1
theorem Bytes.fit(hb:Bytes tb h y l)(m:Nat):Ab.fit y m=(m=1):=by
 exact ag1
theorem Bytes.len(hb:Bytes tb h y l)(e:TypeId)(k:AV→Prop):wg y k (.slice e)=k (.i l.length):=by
 rcases hb with⟨q,rfl⟩|⟨id,off,cs,rfl,_⟩
 ·grind [wg,abX]
 ·rfl
theorem Bytes.src(hb:Bytes tb h y l){e:TypeId}(he:(U e).sz=1)(k:List AV→Prop):iu U e h y k=k (l.map aK):=by
 rcases hb with⟨q,rfl⟩|⟨id,off,cs,rfl,h1,h2,h3⟩
 ·rfl
 ·rw[Oc,h1,he]
  simp only[dw,BM,h3,h2,true_and];apply propext;constructor
  ·simp
  ·intro hk
   exact⟨fun x hx=>by obtain⟨c,_,rfl⟩:=List.mem_map.1 hx;rfl,Dk l,hk⟩
theorem Bytes.Ub(hb:Bytes tb h y l){e:TypeId}{w:Heap}{Q:AV→Heap→Prop}(hk:∀b:Bool,(l≠ []→b=false)→Q (.b b) w):Q1 w .eql y Q (.slice e):=by
 rcases hb with⟨q,rfl⟩|⟨id,off,cs,rfl,h1,h2,h3⟩
 ·intro b hb
  exact hk b fun hl=>hb agb
 ·exact hk false fun _=>rfl
def SX(U:TypeId→TI)(tb:TypeId)(h:Heap)(p:AV)(c:UInt8):Prop:=∀k:AV→Prop,mZ U h tb p k=k (aK c)
theorem Bytes.idx(hb:Bytes tb h y l){m:Int}{x:IntKind}{K:AV→Prop}(j:Nat)(hm:m=j)(hj:j<l.length)(hz:(U tb).sz=1)(ha:(U tb).k.agg=false)
  (hk:∀p,SX U tb h p l[j]→K p):oN U y (.v (.int x m)) K (.slice tb):=by
 subst hm;rcases hb with⟨q,rfl⟩|⟨id,off,cs,rfl,h1,h2,h3⟩
 ·refine(uk ..).mpr ⟨ab7,?_⟩
  refine fm.at j ab8 (by rw[abY,hz];rfl) ?_
  refine hk _ fun k=>?_
  simp_all [mZ,J9,aK,AV.cells,bA,List.length_cons,List.length_nil,Nat.zero_add,and_self,if_true]
 ·refine(Am ..).mpr ⟨ab7,ab7,ab7,?_⟩
  refine hk _ fun k=>?_
  have e1:cs[off+j]? =some (aK l[j]):=by
   have:=congrArg (fun q=>q[j]?) h3
   simp only[List.getElem?_take,hj,if_true,List.getElem?_drop,List.getElem?_map,List.getElem?_eq_getElem hj,Option.map_some]at this;exact acQ
  simp only[mZ,h1,dw,BM,hz,Nat.mul_one,Int.toNat_natCast,Dw,ha,Br,e1];simp
theorem Bytes.take(hb:Bytes tb h y l){hi:Operand}{m:Int}{x:IntKind}{K:AV→Prop}(j:Nat)(hm:ev ρ hi=some (.v (.int x m)))(hj:m=j)(hl:j≤l.length)(hz:(U tb).sz=1)(hk:∀z,Bytes tb h z (l.take j)→K z):
  gL U ρ y none (some hi) none K (.slice tb):=by
 subst hj;rcases hb with⟨q,rfl⟩|⟨id,off,cs,rfl,h1,h2,h3⟩
 ·grind [qK,fL,dw,mX,Option.isSome_some,wA,Int.toNat_natCast,List.map_take,sl]
 ·rw[ry]
  refine⟨ab7,fun _=>hz,?_⟩
  simp only[mb,fL,hm,dw,mX];refine⟨ab7,ab7,ab7,?_⟩;have e:(l.take j).length=j:=ab8;have:=hk (.oa id off (l.take j).length) (by grind [oa,List.map_take,Nat.min_eq_left])
  rw[e]at this;simpa using this
end
section
variable {P : Program} {U : TypeId → TI} {n : Nat} {ρ : Env} {h h' h2 : Heap} {e tb : TypeId} {y v : AV} {xs zs : List AV} {l : List UInt8} {Q : AV → Heap → Prop}
def fN(h h' :Heap):Prop:=∀j cs t,h j=some (.obj cs t)→h' j=some (.obj cs t)
theorem fN.refl(h:Heap):fN h h:=fun _ _ _ e=>e
theorem fN.trans{a b c:Heap}(x:fN a b)(y:fN b c):fN a c:=fun j cs t e=>y j cs t (x j cs t e)
theorem Sub.eW(hs:Sub h h'):fN h h' :=fun _ _ _ e=>hs _ _ e
theorem Bytes.eW(hb:Bytes tb h y l)(hs:fN h h'):Bytes tb h' y l:=by
 rcases hb with hb|⟨id,off,cs,rfl,h1,h2,h3⟩
 ·exact afZ
 ·exact .oa (hs _ _ _ h1) h2 h3
def Acc(U:TypeId→TI)(e:TypeId)(h h' :Heap)(y:AV)(xs:List AV):Prop:=
 Sub h h'∧(y= .sl xs .full∨∃id,h id=none∧y= .sl xs (.own id)∧h' id=some (.spare xs.length (U e).sz))
theorem Acc.full(hs:Sub h h'):Acc U e h h' (.sl xs .full) xs:=⟨hs,.inl rfl⟩
theorem Acc.sub(ha:Acc U e h h' y xs)(hs:Sub h' h2):Acc U e h h2 y xs:=by
 obtain⟨h1,rfl|⟨id,i1,rfl,i2⟩⟩:=ha
 ·exact⟨h1.trans hs,.inl rfl⟩
 ·exact⟨h1.trans hs,.inr ⟨id,i1,rfl,hs _ _ i2⟩⟩
theorem Acc.row(ha:Acc U e h h' y xs):∃q,y= .sl xs q:=by
 obtain⟨h1,rfl|⟨id,i1,rfl,i2⟩⟩:=ha<;>exact⟨_,rfl⟩
theorem Acc.weak(ha:Acc U e h h' y xs):Weak y (.sl xs .no):=by
 obtain⟨q,rfl⟩:=ha.row;exact .sl _ _
theorem Acc.len(ha:Acc U e h h' y xs)(t:TypeId)(k:AV→Prop):wg y k (.slice t)=k (.i xs.length):=by
 obtain⟨q,rfl⟩:=ha.row;rfl
theorem Acc.app(ha:Acc U e h h' y xs)(hz:(U e).sz≠0)(hb:(U e).bytes≠0)(hsrc:∀k:List AV→Prop,k zs→iu U e h' v k)(s1:Sized (U e).sz xs)(s2:Sized (U e).sz zs)
  (hlen:(xs.length+zs.length)*(U e).bytes≤140737488355328) (hk:∀y' h'',Acc U e h h'' y' (xs++zs)→fN h' h''→Q y' h''):apK U h' y v Q (.slice e):=by
 have keep:∀id,(h' id=none∨∃m,h' id=some (.spare m (U e).sz))→∀k,fN h' (upd h' id k):=fun id hid k j cs t hj=>by
  grind [ag]
 obtain⟨h1,rfl|⟨id,i1,rfl,i2⟩⟩:=ha
 ·refine(pV ..).mpr ⟨hz,hb,hsrc _ ⟨s1,s2,hlen,fun hn=>?_,fun hn=> .own fun id hid=>?_⟩⟩
  ·subst hn
   have:=hk (.sl xs .full) h' (by grind [full]) (.refl _)
   exact acQ
  ·exact hk _ _ ⟨h1.new hid _,.inr ⟨id,h1.none hid,rfl,by rw[ah,ab1]⟩⟩ ab8
 ·refine(Bm ..).mpr ⟨hz,hb,hsrc _ ⟨s1,s2,hlen,i2,?_⟩⟩
  have hs2:Sub h (upd h' id (some (.spare (xs.length+zs.length) (U e).sz))):=by
   intro j k hj;rw[ag _ _ fun e=>?_]
   ·exact h1 _ _ hj
   grind
  exact hk _ _ ⟨hs2,.inr ⟨id,i1,rfl,by rw[ah,ab1]⟩⟩ ab8
theorem Bytes.GP(hb:Bytes tb h y l):bA y=false:=by
 exact ag1
def Rows(tb:TypeId)(h:Heap)(ys:List AV)(ls:List (List UInt8)):Prop:=ys.length=ls.length∧∀i (h1:i<ys.length) (h2:i<ls.length),Bytes tb h ys[i] ls[i]
theorem Rows.sized{ys:List AV}{ls:List (List UInt8)}(hr:Rows tb h ys ls):Sized 1 ys:=fun z hz=>by
 obtain⟨i,hi,rfl⟩:=List.mem_iff_getElem.1 hz;rw[(hr.2 i hi (by rw[←hr.1];omega)).cells];rfl
theorem Rows.nil:Rows tb h [] []:=⟨rfl,fun i h1=>aci⟩
theorem Rows.cons{ys:List AV}{ls:List (List UInt8)}(hb:Bytes tb h y l)(hr:Rows tb h ys ls):Rows tb h (y::ys) (l::ls):=⟨by simp[hr.1],fun i h1 h2=>by
 cases i with
 |zero=>grind
 |succ i=>exact hr.2 i ab8 ab8⟩
end
section
variable {P : Program}
def dH:Heap:=fun _=>none
def cx0(w:World):Cx:=⟨w,fun _=>⟨0,0,none⟩,dH⟩
theorem TP(w:World):Good (cx0 w) where
 fin:=⟨0,fun _ _=>rfl⟩
 inj:=fun i j k l h=>acZ
 obj:=fun id cs t h=>acZ
 spare:=fun id n sz h=>acZ
 mp:=fun id m h=>acZ
 keys:=fun id m h=>acZ
 ro:=fun id b vs h=>acZ
theorem LC(w:World)(b o:Nat):¬owned (cx0 w) b o:=fun⟨id,k,h,_⟩=>acZ
theorem ai.calls{f:FuncId}{args:List AV}{b:Value}{vs:Array Value}{w:World}(hc:callable P f)(hf:ai P f args dH fun r _=>r= .v b)(hv:vs.size=args.length)(hr:∀i (hi:i<args.length),Rep (cx0 w) args[i] (vs.getD i undef)):
  Calls P f vs w fun e w' =>e= .returned b∧Go.RowKit.Below w.heap.size w w' :=by
 refine((hf (cx0 w) vs (fun _ _ h=>acZ) (TP w) hv hr).calls hc).mono ?_
 rintro e w' ⟨u,rfl,c',x,h',rfl,g',hE,hx,hs,rfl⟩
 rw[hx.bT];exact⟨rfl,hE.os,hE.tape,hE.output,hE.size,fun k hk=>hE.block k hk fun o=>LC w k o⟩
end
section
variable {P : Program} {f : FuncId} {args : List AV} {h : Heap} {Q : AV → Heap → Prop} {X : AV}
theorem ai.pthen(hf:ai P f args h fun r h' =>r=X∧h' =h)(k:Q X h):ai P f args h Q:=
 hf.mono fun r h' ⟨e1,e2⟩=>aeG
theorem ai.pthen'(hf:ai P f args h fun r h' =>h' =h∧r=X)(k:Q X h):ai P f args h Q:=
 hf.mono fun r h' ⟨e1,e2⟩=>aeG
theorem ai.sthen(hf:ai P f args h fun r h' =>r=X∧Sub h h')(k:∀h',Sub h h'→Q X h'):ai P f args h Q:=
 hf.mono fun r h' ⟨e1,e2⟩=>by subst e1;exact k h' e2
def KV(K:AV→Prop)(x:AV):Prop:=K x
@[congr] theorem SZ{K:AV→Prop}{x x' :AV}(e:x=x'):KV K x=KV K x' :=by rw[e]
@[go_sem] theorem S0(K:AV→Prop)(x:AV):KV K x=K x:=rfl
section
variable {U : TypeId → TI} {ρ : Env} {K : AV → Prop}
@[go_sem↓high] theorem DT(xs:List AV)(q:Perm)(lo:Operand)(e:TypeId):gL U ρ (.sl xs q) (some lo) none none K (.slice e)=((U e).sz≠0∧Sized (U e).sz xs∧aE (ev ρ lo) fun y=>E9 y fun a=>0≤a∧a≤xs.length∧KV K (.sl (xs.drop a.toNat) (zm xs q true false))):=by
 simp[qL,fL,mb,Option.isSome_none,lR,KV]
@[go_sem↓high] theorem Jo(xs:List AV)(q:Perm)(lo hi:Operand)(e:TypeId):gL U ρ (.sl xs q) (some lo) (some hi) none K (.slice e)=((U e).sz≠0∧Sized (U e).sz xs∧aE (ev ρ lo) fun y=>E9 y fun a=>aE (ev ρ hi) fun z=>E9 z fun b=>0≤a∧a≤b∧b≤xs.length∧KV K (.sl ((xs.drop a.toNat).take (b.toNat - a.toNat)) (zm xs q true true))):=by
 simp[qL,fL,Option.isSome_some,M5,KV]
end
attribute [go_sem] Int.toNat_natCast Int.toNat_zero
@[go_sem] theorem Rq(l:List UInt8)(n:Nat):(l.map aK).take n=(l.take n).map aK:=(List.map_take ..).symm
@[go_sem] theorem Qk(l:List UInt8)(n:Nat):(l.map aK).drop n=(l.drop n).map aK:=(List.map_drop ..).symm
theorem xk{α β:Type}{f:β→α}{p:β→Prop}:∀(xs:List α),(∀x∈xs,∃b,x=f b∧p b)→∃bs:List β,xs=bs.map f∧∀b∈bs,p b
 | [],_=>aci
 |x::xs,h=>by
  obtain⟨b,rfl,hb⟩:=h x aci;obtain⟨bs,rfl,hbs⟩:=xk xs fun y hy=>h y ab8
  exact⟨b::bs,rfl,fun c hc=>by
   rcases List.mem_cons.1 hc with h1|h1
   ·rw[h1];exact hb
   ·exact hbs c h1⟩
def iA(n:Int):AV:=.i n
@[go_sem] theorem ZR(n:Int):iA n= .i n:=rfl
theorem bf(n:Int)(h: -9223372036854775808≤n∧n≤9223372036854775807):IntKind.i64.wrap n=n:=by grind [IntWalk.i64_in]
theorem ab3(n:Nat)(h:-9223372036854775808≤(n:Int)+1∧(n:Int)+1≤9223372036854775807):IntKind.i64.wrap ((n:Int)+1)=((n+1:Nat):Int):=by rw[bf _ h];omega
theorem ab4{a b:Nat}(h:decide ((a:Int)<(b:Int))=true):a<b:=Int.ofNat_lt.1 (_root_.of_decide_eq_true h)
end
section
variable {P : Program} {U : TypeId → TI}
inductive Dat (U:TypeId→TI):TypeId→AV→Prop
 |bool {t:TypeId} (b:Bool) (h:(U t).k= .bool):Dat U t (.b b)
 |int {t:TypeId} {k:IntKind} (n:Int) (h:(U t).k= .int k) (hw:(Lit.int k n).wf=true):Dat U t (.v (.int k n))
 |str {t:TypeId} (l:List UInt8) (h:(U t).k= .str) (hl:l.length≤maxLen):Dat U t (.s l)
 |slice {t e:TypeId} (xs:List AV) (h:(U t).k= .slice e) (hx:∀x∈xs,Dat U e x) (hl:xs.length≤maxLen):Dat U t (.sl xs .no)
 |strct {t:TypeId} {fs:List (Nat×TypeId)} (ys:List AV) (h:(U t).k= .strct fs) (hn:ys.length=fs.length) (hx:∀i (h1:i<fs.length) (h2:i<ys.length),Dat U fs[i].2 ys[i]):Dat U t (.agg (ys.map AV.cells).flatten)
theorem Dat.Nt{t:TypeId}{x:AV}{k:IntKind}(h:Dat U t x)(hk:(U t).k= .int k):∃n,x= .v (.int k n)∧(Lit.int k n).wf=true:=by
 cases h with
 |int n h hw=>grind
 |_=>simp_all
theorem Dat.Oh{t:TypeId}{x:AV}(h:Dat U t x)(hk:(U t).k= .str):∃l,x= .s l∧l.length≤maxLen:=by
 cases h with
 |str l h hl=>grind
 |_=>simp_all
theorem Dat.Jp{t e:TypeId}{x:AV}(h:Dat U t x)(hk:(U t).k= .slice e):∃xs,x= .sl xs .no∧xs.length≤maxLen∧∀y∈xs,Dat U e y:=by
 cases h with
 |slice xs h hx hl=>grind
 |_=>simp_all
def JV(U:TypeId→TI):List TypeId→List AV→Prop
 | [],ys=>ys= []
 |t::ts,ys=>∃y r,ys=y::r∧Dat U t y∧JV U ts r
theorem HX:∀(fs:List (Nat×TypeId)) (ys:List AV),ys.length=fs.length→(∀i (h1:i<fs.length) (h2:i<ys.length),Dat U fs[i].2 ys[i])→JV U (fs.map (·.2)) ys
 | [],ys,h,_=>List.length_eq_zero_iff.1 h
 |f::fs,[],h,_=>acZ
 |f::fs,y::ys,h,hx=>⟨y,ys,rfl,hx 0 aci aci,HX fs ys ab8 fun i h1 h2=>hx (i+1) ab8 ab8⟩
theorem W7{n:Int}(h:(Lit.int .i64 n).wf=true): -9223372036854775808≤n∧n≤9223372036854775807:=by
 grind [Lit.wf,IntKind.min,IntKind.max,IntKind.signed,IntKind.bits]
theorem Dat.i64{t:TypeId}{x:AV}(h:Dat U t x)(hk:(U t).k= .int .i64):∃n,x=iA n∧ -9223372036854775808≤n∧n≤9223372036854775807:=by
 obtain⟨n,rfl,hw⟩:=h.Nt hk;exact⟨n,rfl,W7 hw⟩
theorem Dat.list{t e:TypeId}{x:AV}{β:Type}{f:β→AV}{p:β→Prop}(h:Dat U t x)(hk:(U t).k= .slice e)(he:∀y,Dat U e y→∃b,y=f b∧p b):∃bs:List β,x= .sl (bs.map f) .no∧bs.length≤maxLen∧∀b∈bs,p b:=by
 obtain⟨xs,rfl,hl,hx⟩:=h.Jp hk;obtain⟨bs,rfl,hb⟩:=xk xs fun y hy=>he y (hx y hy)
 grind
def RL(c:Cx):List AV→List Value→Prop
 | [],vs=>vs= []
 |x::xs,[]=>False
 |x::xs,v::vs=>(Rep c x v∧v.oneCell' =true)∧RL c xs vs
theorem RL.len{c:Cx}:∀ {xs:List AV} {vs:List Value},RL c xs vs→xs.length=vs.length
 | [],vs,h=>by rw[h];rfl
 |x::xs,[],h=>h.elim
 |x::xs,v::vs,h=>by simp[RL.len h.2]
theorem RL.get{c:Cx}:∀ {xs:List AV} {vs:List Value},RL c xs vs→∀i (h:i<xs.length),Rep c xs[i] (vs.getD i undef)∧(vs.getD i undef).oneCell' =true
 | [],vs,h,i,hi=>ab8
 |x::xs,[],h,i,hi=>h.elim
 |x::xs,v::vs,h,0,hi=>h.1
 |x::xs,v::vs,h,i+1,hi=>by simpa using RL.get h.2 i ab8
theorem RL.append{c:Cx}:∀ {xs ys:List AV} {vs us:List Value},RL c xs vs→RL c ys us→RL c (xs++ys) (vs++us)
 | [],ys,vs,us,h,k=>by rw[h];exact k
 |x::xs,ys,[],us,h,k=>h.elim
 |x::xs,ys,v::vs,us,h,k=>⟨h.1,RL.append h.2 k⟩
theorem RL.one{c:Cx}{x:AV}{v:Value}(h:Rep c x v)(h1:v.oneCell' =true):RL c [x] [v]:=⟨⟨h,h1⟩,rfl⟩
def D6(U:TypeId→TI)(n:Nat):List (Nat×TypeId)→Nat→Bool
 | [],o=>o==n
 |f::fs,o=>f.1==o && D6 U n fs (o+(U f.2).sz)
def FA(U:TypeId→TI)(L:List TypeId):Bool:=L.all fun t=>(U t).sz !=0 && match (U t).k with
 |.bool|.int _|.str=>(U t).sz==1
 |.slice e=>(U t).sz==1 && L.contains e
 |.strct fs=>fs.all (fun f=>L.contains f.2) && D6 U (U t).sz fs 0
 |_=>false
theorem rO(hU:∀t,aN P U t){t:TypeId}(hz:(U t).sz≠0):P.cellsOf t=(U t).sz:=by
 obtain⟨i,h1,h2,_⟩:=(hU t).info hz
 grind [Program.cellsOf]
variable {H : Type} {enc : TypeId × Value → H} {w : World}
theorem LF(hU:∀t,aN P U t){L:List TypeId}{m:Nat}{sp:Nat→Bool}{held:Bool}(n:Nat)(cs:List Value)(hn:cs.length=n)
  (ih:∀(t:TypeId) (cs:List Value) r,t∈L→DataW.trod enc P w 0 sp held m t cs=some r→∃x,Dat U t x∧RL (cx0 w) x.cells cs) (hz:∀t∈L,(U t).sz≠0):
  ∀(fs:List (Nat×TypeId)) (gs:List Field) (o:Nat),gs.map (fun f=>(f.offset,f.type))=fs→(∀f∈fs,f.2∈L)→D6 U n fs o=true→
   (∀f∈gs,∃r,DataW.trod enc P w 0 sp held m f.type ((cs.drop f.offset).take (P.cellsOf f.type))=some r)→
   ∃ys:List AV,ys.length=fs.length∧(∀i (h1:i<fs.length) (h2:i<ys.length),Dat U fs[i].2 ys[i])∧RL (cx0 w) (ys.map AV.cells).flatten (cs.drop o):=by
 intro fs
 induction fs with
 |nil=>
  intro gs o hg hL ht hr;refine⟨[],rfl,fun i h1=>aci,?_⟩
  have:o=n:=by grind [D6]
  show cs.drop o= []
  grind
 |cons f fs ihf=>
  intro gs o hg hL ht hr;cases gs with
  |nil=>grind
  |cons g gs=>
   simp only[List.map_cons,List.cons.injEq]at hg;obtain⟨hg1,hg2⟩:=hg;simp only[D6,Bool.and_eq_true,beq_iff_eq]at ht;obtain⟨ht1,ht2⟩:=ht;have hfL:=hL f aci;obtain⟨ys,y1,y2,y3⟩:=ihf gs (o+(U f.2).sz) hg2 ab8 ht2 ab8;obtain⟨r,hr0⟩:=hr g aci;have e1:g.type=f.2:=ab8;have e2:g.offset=o:=ab8;rw[e1,e2,rO hU (hz _ hfL)]at hr0;obtain⟨x,x1,x2⟩:=ih _ _ _ hfL hr0;refine⟨x::ys,ab8,fun i h1 h2=>?_,?_⟩
   ·grind
   ·have:cs.drop o=(cs.drop o).take (U f.2).sz++cs.drop (o+(U f.2).sz):=by
     rw[←List.drop_drop,List.take_append_drop]
    rw[this];exact x2.append y3
theorem Cy(hU:∀t,aN P U t)(L:List TypeId)(hL:FA U L=true){sp:Nat→Bool}{held:Bool}(hsp:∀b,sp b=true):
  ∀(fuel:Nat) (t:TypeId) (cs:List Value) (r:DataW H×List MemPlace),t∈L→DataW.trod enc P w 0 sp held fuel t cs=some r→∃x,Dat U t x∧RL (cx0 w) x.cells cs:=by
 have hall:∀t∈L,(U t).sz≠0:=fun t ht=>by
  have:=List.all_eq_true.1 hL t ht;simp only[Bool.and_eq_true,bne_iff_ne]at this;exact this.1
 intro fuel
 induction fuel with
 |zero=>intro t cs r _ h;simp[DataW.trod]at h
 |succ m ih=>
  intro t cs r ht h;have hp:=List.all_eq_true.1 hL t ht;simp only[Bool.and_eq_true,bne_iff_ne]at hp;obtain⟨hz,hp⟩:=hp;have hd:=(hU t).desc;unfold DataW.trod at h;cases hk:(U t).k with
  |bool=>
   rw[hk]at hd;simp only at hd;rw[hd]at h;split at h<;>simp_all
   rename_i b
   exact⟨_,.bool b hk,.one (.v _) rfl⟩
  |int k=>
   rw[hk]at hd;simp only at hd;rw[hd]at h;split at h<;>simp_all
   obtain⟨⟨rfl,hw⟩,_⟩:=h;exact⟨_,.int _ hk hw,.one (.v _) rfl⟩
  |str=>
   rw[hk]at hd;simp only at hd;rw[hd]at h;split at h<;>simp_all
   rename_i s
   refine⟨_,.str s.data.toList hk (by simpa using h.1),.one ?_ rfl⟩
   have:=Rep.s (c:=cx0 w) s.data.toList (by have:=h.1;unfold maxLen at this;simp only[lim];simp;omega)
   simpa using this
  |slice e=>
   rw[hk]at hd hp;simp only at hd;simp only[Bool.and_eq_true]at hp;have he:e∈L:=by simpa using hp.2
   have hez:=hall e he;rw[hd]at h;split at h<;>try (simp_all;done)
   ·rename_i e' heq
    refine⟨_,.slice [] hk (fun x hx=>by cases hx) aci,.one ?_ rfl⟩
    exact .sl [] .no none 0 0 (fun _ _=>undef) (Nat.le_refl _) acd (fun _=>rfl) (fun q h _=>acZ) (fun i h=>acZ) (fun q h=>acZ) (fun i h=>acZ) (fun i j h=>acZ) trivial
   ·rename_i e' a len cap heq
    obtain rfl:e=e' :=by simpa using heq
    split at h
    ·rename_i hc
     obtain⟨hc1,hc2,hc3⟩:=hc;simp only[hsp,if_true]at h;obtain⟨els,hels,h⟩:=Option.bind_eq_some_iff.1 h;obtain⟨⟨rst,hrst,_⟩⟩:Nonempty {rst // (List.range (cap - len)).mapM (fun j=>((w.cells? 0 (a.add ((len+j)*P.cellsOf e)) (P.cellsOf e)).bind (DataW.trod enc P w 0 sp held m e)))=some rst∧True}:=by
      cases hq:(List.range (cap - len)).mapM (fun j=>((w.cells? 0 (a.add ((len+j)*P.cellsOf e)) (P.cellsOf e)).bind (DataW.trod enc P w 0 sp held m e)))with
      |none=>rw[hq]at h;simp at h
      |some rst=>exact⟨⟨rst,rfl,trivial⟩⟩
     rw[rO hU hez]at hels hrst;have cell:∀j,j<(U e).sz→∀(b:Addr) vs,w.cells? 0 b (U e).sz=some vs→w.cell? (b.add j)=vs[j]?∧vs.length=(U e).sz:=fun j hj b vs hb=>by
      simp only[World.cells?,Nat.zero_le,if_true]at hb;have:=mapM_some_get hb j j (by simp[hj])
      exact⟨this,by simpa using mapM_some_length hb⟩
     have el:∀i,i<len→∃vs x,w.cells? 0 (a.add (i*(U e).sz)) (U e).sz=some vs∧Dat U e x∧RL (cx0 w) x.cells vs:=fun i hi=>by
      have:=mapM_some_get hels i i (by simp[hi])
      have hi2:i<els.length:=by have:=mapM_some_length hels;simp at this;omega
      rw[List.getElem?_eq_getElem hi2]at this;obtain⟨vs,v1,v2⟩:=Option.bind_eq_some_iff.1 this;obtain⟨x,x1,x2⟩:=ih _ _ _ he v2;exact⟨vs,x,v1,x1,x2⟩
     have hspot:0<cap→a.spot=none∧a.block<w.heap.size:=fun hcap=>by
      have:∃b vs,w.cells? 0 b (U e).sz=some vs∧b.spot=a.spot∧b.block=a.block:=by
       by_cases hl:0<len
       ·obtain⟨vs,x,v1,_⟩:=el 0 hl
        have a0:a.add (0*(U e).sz)=a:=by simp[Addr.add]
        exact⟨_,vs,v1,by rw[a0],by rw[a0]⟩
       ·have:=mapM_some_get hrst 0 0 (by rw[List.getElem?_eq_getElem acH];simp)
        have hi2:0<rst.length:=by have:=mapM_some_length hrst;simp at this;omega
        rw[List.getElem?_eq_getElem hi2]at this;obtain⟨vs,v1,v2⟩:=Option.bind_eq_some_iff.1 this;have a0:a.add ((len+0)*(U e).sz)=a:=by
         obtain rfl:len=0:=ab7;simp[Addr.add]
        exact⟨_,vs,v1,by rw[a0],by rw[a0]⟩
      obtain⟨b,vs,b1,b2,b3⟩:=this;obtain⟨c1,c2⟩:=cell 0 ab7 b vs b1;rw[List.getElem?_eq_getElem ab7]at c1;rw[←b2,←b3];unfold World.cell? at c1;split at c1
      ·rename_i hh
       split at c1
       ·cases c1
       ·rename_i hs
        refine⟨?_,?_⟩
        ·have:(b.add 0).spot=b.spot:=by simp[Addr.add]
         rw[this]at hs;cases hb:b.spot with
         |none=>rfl
         |some z=>rw[hb]at hs;simp at hs
        ·exact(Array.getElem?_eq_some_iff.1 hh).1
      ·cases c1
     have:∀n,n≤len→∃xs:List AV,xs.length=n∧∀i (hi:i<xs.length),Dat U e xs[i]∧∃vs,w.cells? 0 (a.add (i*(U e).sz)) (U e).sz=some vs∧RL (cx0 w) xs[i].cells vs:=by
      intro n
      induction n with
      |zero=>exact fun _=>⟨[],rfl,fun i hi=>by cases hi⟩
      |succ n ihn=>
       intro hn;obtain⟨xs,e1,e2⟩:=ihn ab7;obtain⟨vs,x,v1,v2,v3⟩:=el n ab7;refine⟨xs++ [x],by simp[e1],fun i hi=>?_⟩
       by_cases hi' :i<xs.length
       ·rw[List.getElem_append_left hi']
        exact e2 i hi'
       ·have:i=n:=by simp at hi;omega
        subst this;rw[List.getElem_append_right ab7];simp only[e1,Nat.sub_self,List.getElem_singleton];exact⟨v2,vs,v1,v3⟩
     obtain⟨xs,e1,e2⟩:=this len (Nat.le_refl _);subst e1;refine⟨.sl xs .no,.slice xs hk (fun x hx=>?_) ab7,.one ?_ rfl⟩
     ·obtain⟨i,hi,rfl⟩:=List.mem_iff_getElem.1 hx
      exact(e2 i hi).1
     ·refine .sl xs .no (some a) cap (U e).sz (fun i j=>((w.cells? 0 (a.add (i*(U e).sz)) (U e).sz).getD []).getD j undef) hc2 (by unfold maxLen at hc3;simp only[lim];omega) (fun hh=>adz) (fun q hq hcap=>by cases hq;exact hspot hcap)
       (fun i hi=>?_) (fun q hq i j hi hj=>?_) (fun i hi j hj=>?_) (fun i j hi hj=>?_) trivial
      ·obtain⟨_,vs,v1,v2⟩:=e2 i hi
       rw[v2.len];exact(cell 0 ab7 _ _ v1).2
      ·cases hq
       obtain⟨_,vs,v1,v2⟩:=e2 i hi;refine⟨?_,LC w _ _⟩;obtain⟨c1,c2⟩:=cell j hj _ _ v1;rw[v1];obtain⟨hs1,_⟩:=hspot ab7;obtain⟨ab,ao,az⟩:=a;simp only at hs1;subst hs1
       rw[cB,cB]at c1;simp only[Option.getD_some];have hj2:j<vs.length:=ab7;rw[show vs.getD j undef=vs[j] by simp[hj2]]
       rw[List.getElem?_eq_getElem hj2,Nat.add_assoc]at c1;exact c1
      ·obtain⟨_,vs,v1,v2⟩:=e2 i hi
       rw[v1];exact(v2.get j hj).1
      ·obtain⟨_,vs,v1,v2⟩:=e2 i hi
       rw[v1];have:=(cell 0 ab7 _ _ v1).2;exact(v2.get j (by rw[v2.len];omega)).2
    ·cases h
  |strct fs=>
   rw[hk]at hd hp;simp only at hd;simp only[Bool.and_eq_true]at hp;obtain⟨gs,hd,hg,_⟩:=hd;rw[hd]at h;have hq:cs.length=P.cellsOf t∧∃xs,(gs.toList.mapM fun f=>DataW.trod enc P w 0 sp held m f.type ((cs.drop f.offset).take (P.cellsOf f.type)))=some xs:=by
    split at h<;>try (simp_all;done)
    rename_i fs' heq
    obtain rfl:gs=fs' :=by simpa using heq
    split at h
    ·rename_i hl
     obtain⟨xs,h1,_⟩:=Option.map_eq_some_iff.1 h;exact⟨hl,xs,h1⟩
    ·cases h
   obtain⟨hl,xs,hxs⟩:=hq;rw[rO hU hz]at hl;obtain⟨ys,y1,y2,y3⟩:=LF hU (U t).sz cs hl ih hall fs gs.toList 0 hg (fun f hf=>by have:=List.all_eq_true.1 hp.1 f hf;simpa using this) hp.2 (fun f hf=>by
    obtain⟨i,hi,rfl⟩:=List.mem_iff_getElem.1 hf;have hi2:i<xs.length:=by have:=mapM_some_length hxs;omega
    have:=mapM_some_get hxs i _ (List.getElem?_eq_getElem hi);rw[List.getElem?_eq_getElem hi2]at this;exact⟨_,this⟩)
   exact⟨_,.strct ys hk y1 y2,y3⟩
  |_=>rw[hk]at hp;simp at hp
theorem rP(hU:∀t,aN P U t)(L:List TypeId)(hL:FA U L=true){sp:Nat→Bool}{held:Bool}(hsp:∀b,sp b=true){t:TypeId}{v:Value}{d:DataW H}{p:List MemPlace}(ht:t∈L){base:Nat}{rc:Reach}
  (hv:Value.okWide P w rc base t v) (h:DataW.Trod enc P w 0 sp held t v d p):∃x,Dat U t x∧Rep (cx0 w) x v:=by
 obtain⟨fuel,h⟩:=h;obtain⟨x,x1,x2⟩:=Cy hU L hL hsp fuel t _ _ ht h;refine⟨x,x1,?_⟩;have hd:=(hU t).desc;cases x1 with
 |strct ys hk hn hx=>
  rw[hk]at hd;obtain⟨gs,hd,_⟩:=hd;unfold Value.okWide at hv;rw[hd]at hv;obtain⟨cs,rfl,_⟩:=hv;have hl:=x2.len;simp only[AV.cells,Value.cells]at hl x2;refine .agg _ _ ab8 (fun i hi=>?_) (fun i hi=>?_)
  ·have:=(x2.get i hi).1
   simpa using this
  ·have:=(x2.get i hi).2
   simpa using this
 |bool b hk=>
  exact agz
 |int n hk hw=>
  exact agz
 |str l hk hl=>
  exact agz
 |slice xs hk hx hl=>
  exact agz
end
section
variable {P : Program} {U : TypeId → TI} {n : Nat} {ρ : Env} {h h' h2 : Heap} {e tb : TypeId} {y v : AV} {xs zs : List AV} {l : List UInt8} {Q : AV → Heap → Prop}
def hm1(id:Nat)(k:Blk):Heap:=upd (fun _=>none) id (some k)
@[go_sem] theorem ga(id:Nat)(k:Blk):hm1 id k id=some k:=ah ..
theorem Sub.hm1{id:Nat}{k:Blk}(h1:h id=some k):Sub (hm1 id k) h:=fun j b hj=>by
 unfold Ab.hm1 at hj
 grind [ah,ag]
theorem fN.new{id:Nat}{k:Option Blk}(hid:h id=none):fN h (upd h id k):=((Sub.refl h).new hid k).eW
theorem nO.accs{h0:Heap}(hs:Sub h0 h)(hk:∀y' h'',Acc U e h0 h'' y' (xs++zs)→fN h h''→Q y' h''):nO U h xs zs e Q:=
 .own fun id hid=>hk _ _ ⟨hs.new hid _,.inr ⟨id,hs.none hid,rfl,by rw[ah,ab1]⟩⟩ (.new hid)
end
end Go.Ab
