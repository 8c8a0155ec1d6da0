/- The law EngineKeeps: pack 2 of its texts. -/
import Derived.ScopeJumps
import Derived.Below
import Derived.OpenShut
import Derived.Test.YtokahfmoollblaaGreatDoorPk1
set_option linter.unusedSimpArgs false
set_option linter.unusedVariables false
set_option maxRecDepth 100000
namespace Go.Ab
open Go
section
variable {vs:Array Value}{c:Cx}{u:Value}{w':World}{mt:TypeId}
variable {P : Program} {U : TypeId → TI}
def callable (P : Program) (f : FuncId) : Prop := ∃ fn, P.funcs[f]? = some fn ∧ (fn.name == "runtime.NumGoroutine") = false ∧ fn.body.isNone = false
def AR(P:Program)(f:FuncId)(vs:Array Value)(w:World)(K:Value→World→Prop):Prop:=
 (callable P f∧Calls P f vs w fun e w' =>∃u,e= .returned u∧K u w')∨∃u w',(callFunc f vs).run P w= .ok (.value u) w'∧K u w'
theorem AR.mono{f:FuncId}{w:World}{K K' :Value→World→Prop}(h:AR P f vs w K)(hk:∀u w',K u w'→K' u w'):AR P f vs w K' :=by
 rcases h with⟨h1,h2⟩|⟨u,w',h1,h2⟩
 ·exact .inl ⟨h1,h2.mono fun e w' ⟨u,h3,h4⟩=>⟨u,h3,hk _ _ h4⟩⟩
 ·exact .inr ⟨u,w',h1,hk _ _ h2⟩
theorem qS{f:FuncId}(hc:callable P f)(vs:Array Value)(w:World):(callFunc f vs).run P w= .ok (.enter f vs) w:=by
 obtain ⟨fn,hfn,hname,hbody⟩:=hc;have h3 : fn.name ≠ "runtime.NumGoroutine" := ad4;have h4:fn.body≠none:=fun hh=>by rw [hh] at hbody; cases hbody
 simp[callFunc,hfn,h3,h4]
theorem AR.calls{f:FuncId}{w:World}{K:Value→World→Prop}(hc:callable P f)(h:AR P f vs w K):Calls P f vs w fun e w' =>∃u,e= .returned u∧K u w' :=by
 rcases h with⟨h1,h2⟩|⟨u,w',h1,h2⟩
 ·omega
 grind [qS]
def ai(P:Program)(f:FuncId)(args:List AV)(h:Heap)(Q:AV→Heap→Prop):Prop:=
 ∀c (vs:Array Value),Sub h c.h→Good c→vs.size=args.length→(∀i (hi:i<args.length),Rep c args[i] (vs.getD i undef))→AR P f vs c.w (fh c Q)
theorem fh.mono{Q Q' :AV→Heap→Prop}(h:fh c Q u w')(hq:∀x h,Q x h→Q' x h):fh c Q' u w' :=by obtain⟨c',x,h',h1,h2,h3,h4,h5,h6⟩:=h;exact⟨c',x,h',h1,h2,h3,h4,h5,hq _ _ h6⟩
theorem ai.mono{f:FuncId}{args:List AV}{h:Heap}{Q Q' :AV→Heap→Prop}(hf:ai P f args h Q)(hq:∀x h,Q x h→Q' x h):ai P f args h Q' :=
 fun c vs h1 h2 h3 h4=>(hf c vs h1 h2 h3 h4).mono fun u w' h6=>h6.mono hq
def FR(y:AV)(n:Nat):AV:=match y with
 |.ob id off len cap sz=> .ob id off (min len n) cap sz
 |y=>y
theorem LO{y:AV}(n:Nat)(h:Rep c y u):∃u',Rep c (FR y n) u'∧(∀sz k,Builtin.firstCells sz k u' =Builtin.firstCells sz k u)∧
  ∀w m,(Builtin.lenOf u').run P w= .ok m w→m≤n→∃m',(Builtin.lenOf u).run P w= .ok m' w∧Nat.min m' n=m:=by
 cases y with
 |ob id off len cap sz=>
  obtain⟨o,rfl,h1,h2,cs,t,h3,h4⟩:=h.jE;refine⟨.slice (some ⟨(c.φ id).block,o,none⟩) (min len n) cap,.ob _ _ _ _ _ _ cs t h3 ad3 h2 h4,fun _ _=>rfl,fun w m hm hn=>⟨len,aei,?_⟩⟩
  simp_all [Builtin.lenOf,Sem.run_pure,Result.ok.injEq,and_true]
 |_=>exact⟨u,h,fun _ _=>rfl,fun w m hm hn=>⟨m,hm,Nat.min_eq_left hn⟩⟩
def CX(U:TypeId→TI)(h:Heap)(ts:TypeId)(x y:AV)(Q:AV→Heap→Prop):Prop:=
 match (U ts).k with
 |.slice e=>match x with
  |.oa id off len=>(U e).sz=1∧iP U e h y fun ys=>Sized 1 ys∧(∀z∈ys,bD z=false)∧match h id with
   |some (.obj cs t)=>ys.length≤len∧off+len≤cs.length∧Q (.i ys.length) (upd h id (some (.obj (over cs off ys) t)))
   |_=>False
  |.ob id off len _ sz=>(U e).sz≠0∧sz=(U e).sz∧iP U e h (FR y len) fun ys=>Sized (U e).sz ys∧match h id with
   |some (.obj cs t)=>ys.length≤len∧off+len*(U e).sz≤cs.length∧Q (.i ys.length) (upd h id (some (.obj (over cs off (aq ys)) t)))
   |_=>False
  |_=>False
 |_=>False
def GF:Operand→Bool
 |.const (.slice none _ _)=>true
 |_=>false
def N0(U:TypeId→TI)(h:Heap)(op:BinOp)(ty:TypeId)(x:AV)(Q:AV→Heap→Prop):Prop:=
 match (U ty).k,op,x with
 |.slice _,.eql,.sl xs _=>∀b:Bool,(xs≠ []→b=false)→Q (.b b) h
 |.slice _,.neq,.sl xs _=>∀b:Bool,(xs≠ []→b=true)→Q (.b b) h
 |.slice _,.eql,.oa .. =>Q (.b false) h
 |.slice _,.neq,.oa .. =>Q (.b true) h
 |.slice _,.eql,.ob .. =>Q (.b false) h
 |.slice _,.neq,.ob .. =>Q (.b true) h
 |_,_,_=>False
def UW(sz m id:Nat):AV:=if sz=1 then .oa id 0 m else .ob id 0 m m sz
def AG(m:List (AV×AV))(b v:AV):List (AV×AV):=if(getM m b).isSome then m.map (fun p=>if sV p.1 b then(p.1,v)else p)else m++ [(b,v)]
def IF(U:TypeId→TI)(ρ:Env)(mt:TypeId):Option Operand→Prop
 |none=>True
 |some x=>(∃kt e,(U mt).k= .map kt e)∧withv ρ x fun a=>∃kk n,a= .v (.int kk n)
def bg(P:Program)(U:TypeId→TI)(ρ:Env)(h:Heap)(o:Oper)(Q:AV→Heap→Prop):Prop:=
 match o.op with
 |.alloc t=>if isUnit (U t).k then∀id,h id=none→Q (.ptr id 0) (upd h id (some (.obj [] t)))else(U t).sz≠0∧fit (U t).zero (U t).sz∧∀id,h id=none→Q (.ptr id 0) (upd h id (some (.obj (U t).zero.cells t)))
 |.box t x=>(U t).sz≠0∧withv ρ x fun y=>fit y (U t).sz∧∀id,h id=none→Q (.ptr id 0) (upd h id (some (.obj y.cells t)))
 |.store t a x=>if isUnit (U t).k then withv ρ a fun p=>withv ρ x fun y=>y= .agg []∧match p with
   |.ptr .. =>Q (.v undef) h
   |_=>False
  else(U t).sz≠0∧withv ρ a fun p=>withv ρ x fun y=>match p with
  |.ptr id off=>match h id with
   |some (.obj cs t')=>fit y (U t).sz∧off+(U t).sz≤cs.length∧Q (.v undef) (upd h id (some (.obj (over cs off y.cells) t')))
   |_=>False
  |_=>False
 |.makeSlice t l m=>withv ρ l fun a=>withv ρ m fun b=>match (U t).k,a,b with
  |.slice e,.v (.int _ n),.v (.int _ n')=>n=n'∧0≤n∧n<lim∧n*(U e).bytes≤281474976710656∧(U e).sz≠0∧fit (U e).zero (U e).sz∧
   ∀id,h id=none→Q (UW (U e).sz n.toNat id) (upd h id (some (.obj (cQ (U e).zero n.toNat (U e).sz) e)))
  |_,_,_=>False
 |.makeMap mt r=>IF U ρ mt r∧∀id,h id=none→Q (.mp id) (upd h id (some (.mp [])))
 |.mapUpdate mt x y z=>withv ρ x fun a=>withv ρ y fun b=>withv ρ z fun v=>match (U mt).k,a with
  |.map kt e,.mp id=>gT (U kt).k b∧match h id with
   |some (.mp m)=>(∀p∈m,gT (U kt).k p.1)∧Q (.v undef) (upd h id (some (.mp (AG m b v))))
   |_=>False
  |_,_=>False
 |.call c=>match c.callee with
  |.value q=>withv ρ q fun y=>match y with
   |.fn f cap=>withvs ρ c.args.toList fun ys=>ai P f (ys++cap) h Q
   |_=>False
  |.builtin .append=>match c.args.toList,c.argTypes.toList with
   | [x,y],[ts,tx]=>withv ρ x fun a=>withv ρ y fun b=>apT (rS U h ts a b Q) (Fi U h ts a b Q) (U tx).k
   |_,_=>False
  |.builtin .copy=>match c.args.toList,c.argTypes.toList with
   | [x,y],[ts,_]=>withv ρ x fun a=>withv ρ y fun b=>CX U h ts a b Q
   |_,_=>False
  |_=>pv U ρ h o.op fun x=>Q x h
 |.binOp op ty x y _=>if GF y then withv ρ x fun a=>N0 U h op ty a Q else pv U ρ h o.op fun x=>Q x h
 |_=>pv U ρ h o.op fun x=>Q x h
def mw(P:Program)(c:Cx)(Q:AV→Heap→Prop):Result Next→Prop
 |.ok (.value u) w' =>fh c Q u w'
 |.ok .skip w' =>fh c Q undef w'
 |.ok (.enter f args) w' =>w' =c.w∧Calls P f args w' fun e w'' =>∃u,e= .returned u∧fh c Q u w''
 |_=>False
theorem vT{ρ:Env}{h:Heap}{o:Oper}{Q:AV→Heap→Prop}(hU:∀t,aP P U t)(hp:pv U ρ h o.op fun x=>Q x h){a:Act}{n:Nat}(hs:Sub h c.h)(g:Good c)(he:cu c n ρ a):
  mw P c Q ((execOp a.eval o).run P c.w):=by
 obtain⟨X,hQ,hX⟩:=zE hU hp;obtain⟨u,c',h1,h2,h3,h4,h5⟩:=hX c a n hs g he;rw[h1];exact⟨c',X,h,rfl,h2,h3,h5,ad4,hQ⟩
theorem yN{h:Heap}(hs:Sub h c.h){id:Nat}(hid:c.h id=none):h id=none:=by exact aiX
theorem pY{h:Heap}{t:TypeId}{y:AV}{n:Nat}{Q:AV→Heap→Prop}(hs:Sub h c.h)(g:Good c)(hr:Rep c y u)(hf:fit y n)
  (hQ:∀id,h id=none→Q (.ptr id 0) (upd h id (some (.obj y.cells t)))):fh c Q (.pointer (some ⟨c.w.heap.size,0,none⟩)) (c.w.alloc (.cells u.cells t)):=by
 obtain⟨id,hid⟩:=g.fresh;obtain⟨f1,f2,f3,f4⟩:=hr.fits hf;refine⟨c.aA (.cells u.cells t) id ⟨c.w.heap.size,0,none⟩ (.obj y.cells t),_,_,rfl,?_,Ext.aA c _ id _ _ rfl (.inl hid),?_,hs.upd id _,hQ id (yN hs hid)⟩
 ·refine g.aA _ _ (0,0) id _ _ rfl (.inl hid) (fun cs t' hh=>?_) (fun n sz hh=>aea)
  grind
 ·have:=Rep.ptr (c:=c.aA (.cells u.cells t) id ⟨c.w.heap.size,0,none⟩ (.obj y.cells t)) id 0 y.cells t agm
  simpa[Cx.aA,ah]using this
theorem E1{ρ:Env}{h:Heap}{o:Oper}{Q:AV→Heap→Prop}{t:TypeId}(hU:∀t,aP P U t)(ho:o.op= .alloc t)(hz:(U t).sz≠0)(hf:fit (U t).zero (U t).sz)
  (hQ:∀id,h id=none→Q (.ptr id 0) (upd h id (some (.obj (U t).zero.cells t))))  {a:Act} (hs:Sub h c.h) (g:Good c):mw P c Q ((execOp a.eval o).run P c.w):=by
 obtain⟨i,i1,i2,i3,z,z1,z2,z3⟩:=(hU t).info hz;have hz0:(zeroValue t).run P c.w= .ok z c.w:=ae4;have:=pY (t:=t) hs g (z3 c) hf hQ;have hr:(execOp a.eval o).run P c.w= .ok (.value (.pointer (some ⟨c.w.heap.size,0,none⟩))) (c.w.alloc (.cells z.cells t)):=by simp_all [execOp,Instr.alloc,newVar,newRow]
 rw[hr];exact aeE
theorem Kz{ρ:Env}{h:Heap}{o:Oper}{Q:AV→Heap→Prop}{t:TypeId}{x:Operand}(ho:o.op= .box t x)
  (hk:withv ρ x fun y=>fit y (U t).sz∧∀id,h id=none→Q (.ptr id 0) (upd h id (some (.obj y.cells t))))  {a:Act} {n:Nat} (hs:Sub h c.h) (g:Good c) (he:cu c n ρ a):
  mw P c Q ((execOp a.eval o).run P c.w):=by
 obtain⟨y,hy,hf,hQ⟩:=aJ hk;have:=pY (t:=t) hs g (aH he hy) hf hQ;have hr:(execOp a.eval o).run P c.w= .ok (.value (.pointer (some ⟨c.w.heap.size,0,none⟩))) (c.w.alloc (.cells (a.eval x).cells t)):=by simp[execOp,ho,Instr.box,newVar,newRow]
 rw[hr];exact aeE
theorem E8{ρ:Env}{h:Heap}{o:Oper}{Q:AV→Heap→Prop}{t:TypeId}{p x:Operand}(hU:∀t,aP P U t)(ho:o.op= .store t p x)(hk:bg P U ρ h o Q){a:Act}{n:Nat}(hs:Sub h c.h)(g:Good c)(he:cu c n ρ a):
  mw P c Q ((execOp a.eval o).run P c.w):=by
 simp only[bg,ho]at hk
 by_cases hun:isUnit (U t).k=true
 ·rw[if_pos hun]at hk
  obtain⟨i,i1,_,i3⟩:=(hU t).unit (vr hun);obtain⟨A,hA,hk⟩:=aJ hk;obtain⟨y,hy,hk2⟩:=aJ hk;obtain⟨rfl,hk2⟩:=hk2;split at hk2
  ·obtain⟨hu,_⟩:=(aH he hA).lH
   obtain⟨vs,hv,hn,_⟩:=(aH he hy).pz;have hr:(execOp a.eval o).run P c.w= .ok .skip c.w:=by simp_all [execOp,Instr.storeAt,Instr.sureAddr,storeVar,sizeOf,typeInfo,Value.cells,storeCells]
   rw[hr];exact afb
  grind
 rw[if_neg hun]at hk;obtain⟨hz,hk⟩:=hk;obtain⟨A,hA,hk⟩:=aJ hk;obtain⟨y,hy,hk2⟩:=aJ hk;split at hk2
 ·rename_i id off
  split at hk2
  ·rename_i cs t' hid
   obtain⟨hf,hb,hQ⟩:=hk2;obtain⟨f1,f2,f3,f4⟩:=(aH he hy).fits hf;obtain⟨hu,_⟩:=(aH he hA).lH;obtain⟨h1,h2⟩:=jl (P:=P) (off:=off) (xs:=y.cells) (vs:=(a.eval x).cells.toList) (u:=undef) (X:=.v undef) hs g hid ad4 ad3
    ah8 (fun _ _=> .v _) hQ
   have hr:(execOp a.eval o).run P c.w= .ok .skip (c.w.setCells (c.φ id).block off (a.eval x).cells.toList):=by simp[execOp,ho,Instr.storeAt,hu,Instr.sureAddr,storeVar,bI hU hz,f1,h1]
   rw[hr];exact ahR
  grind
 grind
theorem AJ{ρ:Env}{h:Heap}{o:Oper}{Q:AV→Heap→Prop}{r:Option Operand}(hU:∀t,aP P U t)(ho:o.op= .makeMap mt r)(hr:IF U ρ mt r)(hk:∀id,h id=none→Q (.mp id) (upd h id (some (.mp []))))
   {a:Act} {n:Nat} (hs:Sub h c.h) (g:Good c) (he:cu c n ρ a):mw P c Q ((execOp a.eval o).run P c.w):=by
 obtain⟨id,hid⟩:=g.fresh;have hfr:h id=none:=by exact aiX
 have hrun:(execOp a.eval o).run P c.w= .ok (.value (.map (some c.w.heap.size))) (c.w.alloc (.map #[] 0)):=by
  cases r with
  |none=>simp[execOp,ho,Instr.makeMap]
  |some x=>obtain⟨⟨kt,e,hty⟩,hv⟩:=hr;have hd:=(hU mt).desc;rw[hty]at hd;obtain⟨A,hA,kk,m,rfl⟩:=aJ hv;simp[execOp,ho,Instr.makeMap,run_underlying hd,(aH he hA).bZ,asInt,asIntOf]
 rw[hrun];refine⟨c.aA (.map #[] 0) id ⟨c.w.heap.size,0,none⟩ (.mp []),_,_,rfl,g.allocMap id hid,Ext.aA _ _ id _ _ rfl (.inl hid),?_,hs.upd id _,hk id hfr⟩;have:=Rep.mp (c:=c.aA (.map #[] 0) id ⟨c.w.heap.size,0,none⟩ (.mp [])) id [] agm;simpa[Cx.aA,ah]using this
theorem xB{ρ:Env}{h:Heap}{o:Oper}{Q:AV→Heap→Prop}{x y z:Operand}(hU:∀t,aP P U t)(ho:o.op= .mapUpdate mt x y z)
  (hk:withv ρ x fun a=>withv ρ y fun b=>withv ρ z fun v=>match (U mt).k,a with
   |.map kt e,.mp id=>gT (U kt).k b∧match h id with
    |some (.mp m)=>(∀p∈m,gT (U kt).k p.1)∧Q (.v undef) (upd h id (some (.mp (AG m b v))))
    |_=>False
   |_,_=>False)
   {a:Act} {n:Nat} (hs:Sub h c.h) (g:Good c) (he:cu c n ρ a):mw P c Q ((execOp a.eval o).run P c.w):=by
 obtain⟨A,hA,hk⟩:=aJ hk;obtain⟨b,hB,hk⟩:=aJ hk;obtain⟨v,hV,hk⟩:=aJ hk;have hd:=(hU mt).desc;split at hk
 ·rename_i kt e id hty hp' hp''
  clear hp' hp'';rw[hty]at hd;obtain⟨hb,hk⟩:=hk;split at hk
  ·rename_i m hid
   obtain⟨hm,hQ⟩:=hk;have hcid:=hs _ _ hid;obtain⟨hu,_⟩:=(aH he hA).Gx;have hv:=Eb hb (aH he hB);have hval:=aH he hV;obtain⟨es,cl,e1,e2,e3⟩:=g.mp id m hcid;obtain⟨K,l,hl⟩:=uj hU hb;have hchk:=K.check c.w false hl;have hg:=g.keys id m hcid;rcases DN hU hb hm e2 (fun i h1 h2=>(e3 i h1 h2).1) c.w with⟨f1,f2⟩|⟨j,hj,hj',f1,f2⟩
   ·have hget:=getM_none hb hm f2
    have hset:AG m b v=m++ [(b,v)]:=by grind [AG]
    have hrun:(execOp a.eval o).run P c.w= .ok .skip (c.turn id (es.push {key:=jq b,val:=a.eval z,born:=cl}) (cl+1) (m++ [(b,v)])).w:=by
     simp[execOp,ho,hu,hv,Instr.mapUpdate,run_underlying hd,MapKept.run_getObj_map e1,hchk,f1,MapKept.run_setObj_map _ e1,Cx.turn]
     try rfl
    rw[hrun];rw[hset]at hQ;refine⟨c.turn id (es.push {key:=jq b,val:=a.eval z,born:=cl}) (cl+1) (m++ [(b,v)]),_,_,rfl,g.turn id _ es _ cl _ m hcid e1 ad4 (fun i h1 h2=>?_) ?_,Ext.turn id _ es _ cl _ m hcid e1,.v _,hs.upd id _,hQ⟩
    ·grind
    grind
   ·have hget:=Cr hb hm hg j hj f2
    have hset:AG m b v=m.map (fun p=>if sV p.1 b then(p.1,v)else p):=by grind [AG]
    have hst:=K.stays c.w hl;have hkey:es[j].key=jq b:=(e3 j hj hj').1.trans f2;have hrun:(execOp a.eval o).run P c.w= .ok .skip (c.turn id (es.modify j fun e=> {e with key:=jq b,val:=a.eval z}) cl (m.map (fun p=>if sV p.1 b then(p.1,v)else p))).w:=by
     simp[execOp,ho,hu,hv,Instr.mapUpdate,run_underlying hd,MapKept.run_getObj_map e1,hchk,f1,hj',hkey,hst,MapKept.run_setObj_map _ e1,Cx.turn]
     try rfl
    rw[hrun];rw[hset]at hQ;refine⟨c.turn id (es.modify j fun e=> {e with key:=jq b,val:=a.eval z}) cl (m.map (fun p=>if sV p.1 b then(p.1,v)else p)),_,_,rfl,g.turn id _ es _ cl _ m hcid e1 ad4 (fun i h1 h2=>?_) ?_,Ext.turn id _ es _ cl _ m hcid e1,.v _,hs.upd id _,hQ⟩
    ·have hi:i<m.length:=by grind
     have h3:i<es.size:=ad3;rw[Array.getElem_modify,adU]
     by_cases hij:j=i
     ·subst hij
      have hke:sV m[j].1 b=true:=(ry (hm _ (adY hj)) hb).2 f2;rw[if_pos rfl,if_pos hke];exact⟨f2.symm,hval⟩
     ·have hke:sV m[i].1 b=false:=by
       cases hh:sV m[i].1 b with
       |false=>rfl
       |true=>grind [ry,adY,List.pairwise_iff_getElem,Nat.lt_or_gt_of_ne]
      rw[if_neg hij,if_neg ad4];exact e3 i hi h3
    grind
  ·exact aeq
 ·exact aeq
theorem xA{ρ:Env}{h:Heap}{o:Oper}{Q:AV→Heap→Prop}{t:TypeId}{l m:Operand}(hU:∀t,aP P U t)(ho:o.op= .makeSlice t l m)(hk:bg P U ρ h o Q){a:Act}{n:Nat}(hs:Sub h c.h)(g:Good c)(he:cu c n ρ a):
  mw P c Q ((execOp a.eval o).run P c.w):=by
 simp only[bg,ho]at hk;obtain⟨A,hA,hk⟩:=aJ hk;obtain⟨B,hB,hk2⟩:=aJ hk;clear hk;have hd:=(hU t).desc;split at hk2
 ·rename_i e k1 n1 k2 n2 hty
  rw[hty]at hd;obtain⟨rfl,h0,hlim,hbytes,hz,hf,hQ⟩:=hk2;obtain⟨i,i1,i2,i3,z,z1,z2,z3⟩:=(hU e).info hz;have hz0:(zeroValue e).run P c.w= .ok z c.w:=ae4;obtain⟨f1,f2,f3,f4⟩:=(z3 c).fits hf;have hw:IntKind.i64.wrap n1=n1:=by grind [lim,IntWalk.i64_in]
  generalize hcells:(Array.range (n1.toNat*(U e).sz)).map (fun j=>(if n1.toNat*(U e).sz=0 then #[]else z.cells)[j % (if n1.toNat*(U e).sz=0 then #[]else z.cells).size]!)=cells
  have hr:(execOp a.eval o).run P c.w= .ok (.value (.slice (some ⟨c.w.heap.size,0,none⟩) n1.toNat n1.toNat)) (c.w.alloc (.cells cells e)):=by
   have hcap:¬(n1<0∨281474976710656<(U e).bytes*n1):=by grind
   have h00:¬(n1<0):=ad3;have hcap' :¬(281474976710656<(U e).bytes*n1):=fun hh=>hcap (.inr hh)
   by_cases hn:n1.toNat*(U e).sz=0
   ·simp only[hn,if_true]at hcells
    simp[execOp,ho,(aH he hA).bZ,(aH he hB).bZ,Instr.makeSlice,run_underlying hd,asInt,asIntOf,typeInfo,i1,i3,hw,bI hU hz,newRow,hcap',h00,hn];simp at hcells;rw[←hcells]
   ·simp only[hn,if_false]at hcells
    simp[execOp,ho,(aH he hA).bZ,(aH he hB).bZ,Instr.makeSlice,run_underlying hd,asInt,asIntOf,typeInfo,i1,i3,hw,bI hU hz,newRow,hcap',h00,hn,hz0,hcells]
  rw[hr];obtain⟨id,hid⟩:=g.fresh;refine⟨c.aA (.cells cells e) id ⟨c.w.heap.size,0,none⟩ (.obj (cQ (U e).zero n1.toNat (U e).sz) e),_,_,rfl,?_,Ext.aA c _ id _ _ rfl (.inl hid),?_,hs.upd id _,hQ id (yN hs hid)⟩
  ·refine g.aA _ _ (0,0) id _ _ rfl (.inl hid) (fun cs t' hh=>?_) (fun n sz hh=>aea)
   cases hh;have hsz:cells.size=n1.toNat*(U e).sz:=ad4;refine⟨rfl,rfl,by grind [cQ],fun j hj=>?_⟩
   have hj' :j<n1.toNat*(U e).sz:=by grind [cQ]
   have hmod:j % (U e).sz<(U e).sz:=Nat.mod_lt _ ad3;have e1:(cQ (U e).zero n1.toNat (U e).sz)[j]=(U e).zero.cells[j % (U e).sz]'ad3:=by grind [cQ]
   have e2:cells.getD j undef=z.cells.getD (j % (U e).sz) undef:=by rw[←hcells];have hne:¬(n1.toNat*(U e).sz=0):=ad3;simp only[hne,if_false];have h9:j % (U e).sz<z.cells.size:=ad3;simp[hj',z2];rw[getElem!_pos z.cells (j % (U e).sz) h9,Array.getElem?_eq_getElem h9];rfl
   rw[e1,e2];exact⟨f3 _ ad3,f4 _ hmod⟩
  ·have r1:=Rep.oa (c:=c.aA (.cells cells e) id ⟨c.w.heap.size,0,none⟩ (.obj (cQ (U e).zero n1.toNat (U e).sz) e)) id 0 n1.toNat n1.toNat 0 (cQ (U e).zero n1.toNat (U e).sz) e
    agm (Nat.le_refl _) ad3 (fun _=>⟨rfl,by simp only[cQ,adT,List.length_range];have:=Nat.le_mul_of_pos_right n1.toNat (show 0<(U e).sz by omega);omega⟩)
   have r2:=Rep.ob (c:=c.aA (.cells cells e) id ⟨c.w.heap.size,0,none⟩ (.obj (cQ (U e).zero n1.toNat (U e).sz) e)) id 0 n1.toNat n1.toNat (U e).sz 0 (cQ (U e).zero n1.toNat (U e).sz) e
    agm (Nat.le_refl _) ad3 (fun _=>⟨rfl,by grind [cQ,adT,List.length_range]⟩)
   simp only[Cx.aA,ah]at r1 r2;unfold UW;split
   ·simpa[Cx.aA,ah]using r1
   ·simpa[Cx.aA,ah]using r2
 ·exact hk2.elim
theorem GX{h:Heap}{ts tx ty:TypeId}{x y:AV}{Q:AV→Heap→Prop}(hU:∀t,aP P U t)(hk:CX U h ts x y Q)(c:Cx)(u v:Value)
  (hs:Sub h c.h) (g:Good c) (hx:Rep c x u) (hy:Rep c y v):
  ∃r w',(Builtin.copy_ #[ts,tx] ty #[u,v]).run P c.w= .ok r w'∧fh c Q r w' :=by
 unfold CX at hk;have hd:=(hU ts).desc;split at hk
 ·rename_i e hty
  rw[hty]at hd;split at hk
  ·rename_i id off len
   obtain⟨hz,hk⟩:=hk;obtain⟨ys,hk',hsrc⟩:=rO (P:=P) ad3 hk;clear hk;obtain⟨hsy,hna,hk⟩:=hk';split at hk
   ·rename_i cs t hid
    obtain⟨hle,hb,hQ⟩:=hk;rw[hz]at hsrc;obtain⟨hl,val,row,hlen,hfirst⟩:=hsrc c v hs g hy hsy;obtain⟨cap,o',rfl,h1,h2,h3,_⟩:=hx.qb;have hcells:∀i (hi:i<ys.length),ys[i].cells= [ys[i]]:=fun i hi=>by have hh:=hna _ (adY hi);generalize ys[i]=q at hh;cases q<;>simp[bD]at hh<;>rfl
    have hrow:∀i (hi:i<ys.length),Rep c ys[i] (val i 0):=fun i hi=>by have:=row.hr i hi 0 ad4;simpa only[hcells i hi,List.getElem_singleton]using this
    have hget:∀j,j<ys.length→(ck 1 ys.length val).getD j undef=val j 0:=fun j hj=>by
     have:=gX (sz:=1) (n:=ys.length) (val:=val) hj (show 0<1 by omega)
     rw[Nat.mul_one,Nat.add_zero]at this;simp[List.getD,this]
    obtain⟨s1,s2⟩:=jl (P:=P) (off:=off) (xs:=ys) (vs:=ck 1 ys.length val) (u:=.int .i64 ys.length) (X:=.i ys.length) hs g hid (by simp[aX]) ad3
     (fun j hj=>by rw[hget j hj];exact⟨hrow j hj,row.ho j 0 hj ad3⟩) (fun _ _=> .v _) hQ
    refine⟨_,_,?_,s2⟩;have hmin:Nat.min ys.length len=ys.length:=ad4
    by_cases h0:ys.length=0
    ·have e0:ck 1 ys.length val= []:=by grind [ck]
     rw[e0]at hfirst s1⊢;simp[Builtin.copy_,run_underlying hd,hlen,hmin,bI hU (show(U e).sz≠0 by omega),hz,hfirst,goInt,storeCells,World.setCells]
    ·obtain rfl:=h3 ad3
     simp[Builtin.copy_,run_underlying hd,hlen,hmin,bI hU (show(U e).sz≠0 by omega),hz,hfirst,goInt,s1]
   ·exact aeq
  ·rename_i id off len cap0 sz0
   obtain⟨hz,rfl,hk⟩:=hk;obtain⟨ys,hk',hsrc⟩:=rO (P:=P) hz hk;clear hk;obtain⟨hsy,hk⟩:=hk';split at hk
   ·rename_i cs t hid
    obtain⟨hle,hb,hQ⟩:=hk;obtain⟨v',hy',hfc,hlv⟩:=LO (P:=P) len hy;obtain⟨hl,val,row,hlen,hfirst⟩:=hsrc c v' hs g hy' hsy;rw[hfc]at hfirst;obtain⟨m',hm1,hm2⟩:=hlv c.w _ (hlen c.w) hle;obtain⟨o',rfl,h1,h2,cs',t',h4,h5⟩:=hx.jE;obtain⟨hly,hry⟩:=row.flat ad3;have hle2:ys.length*(U e).sz≤len*(U e).sz:=Nat.mul_le_mul_right _ hle;obtain⟨s1,s2⟩:=jl (P:=P) (off:=off) (xs:=aq ys) (vs:=ck (U e).sz ys.length val) (u:=.int .i64 ys.length) (X:=.i ys.length) hs g hid (by grind [aX]) ad3
     hry (fun _ _=> .v _) hQ
    refine⟨_,_,?_,s2⟩
    by_cases h0:ys.length=0
    ·have e0:ck (U e).sz ys.length val= []:=by grind [ck]
     rw[e0]at hfirst s1⊢;simp[Builtin.copy_,run_underlying hd,hm1,hm2,bI hU hz,hfirst,goInt,storeCells,World.setCells]
    ·obtain⟨rfl,_⟩:=h5 ad3
     simp[Builtin.copy_,run_underlying hd,hm1,hm2,bI hU hz,hfirst,goInt,s1]
   ·exact aeq
  ·exact aeq
 ·exact aeq
theorem GW{f:FuncId}{h:Heap}{Q:AV→Heap→Prop}{ys:List AV}(hf:ai P f ys h Q)(hs:Sub h c.h)(g:Good c)(h1:vs.size=ys.length)(h2:∀i (hi:i<ys.length),Rep c ys[i] (vs.getD i undef)):
  mw P c Q ((callFunc f vs).run P c.w):=by
 rcases hf c vs hs g h1 h2 with⟨hc,hcall⟩|⟨u,w',hr,hk⟩
 ·rw[qS hc]
  exact⟨rfl,hcall⟩
 ·rw[hr]
  exact hk
theorem we{Q:AV→Heap→Prop}{s:Sem Value}{r:Value}(hr:s.run P c.w= .ok r w')(hc:fh c Q r w'):mw P c Q ((do pure (.value (←s)):Sem Next).run P c.w):=by simp only[Sem.run_bind,hr,Result.andThen_ok,Sem.run_pure];exact hc
theorem eP{ty e:TypeId}(h:P.underlying ty=some (.slice e))(d:Nat)(a:Option Addr)(l k l' k' :Nat)(w:World):(Op.equalIn (d+1) ty (.slice a l k) (.slice none l' k')).run P w= .ok a.isNone w:=by cases a<;>simp[Op.equalIn,run_underlying h]
theorem KE{ρ:Env}{h:Heap}{o:Oper}{Q:AV→Heap→Prop}{op:BinOp}{t t' :TypeId}{x y:Operand}(hU:∀t,aP P U t)(ho:o.op= .binOp op t x y t')(hy:GF y=true)(hk:withv ρ x fun a=>N0 U h op t a Q)
   {a:Act} {n:Nat} (hs:Sub h c.h) (g:Good c) (he:cu c n ρ a):mw P c Q ((execOp a.eval o).run P c.w):=by
 obtain⟨A,hA,hk2⟩:=aJ hk;clear hk;obtain⟨l',k',rfl⟩:∃l' k',y= .const (.slice none l' k'):=by
  unfold GF at hy
  grind
 have hev:a.eval (.const (.slice none l' k'))= .slice none l' k' :=rfl;have hd:=(hU t).desc;have hgu:∀ad l k,(eqGuard op t x (.const (.slice none l' k')) (.slice ad l k) (.slice none l' k')).run P c.w= .ok () c.w:=fun ad l k=>gW _ _ _ _ _ _ _ rfl
 unfold N0 at hk2;split at hk2
 ·rename_i e xs p hty
  rw[hty]at hd;obtain⟨ad,cap,sz,val,hu,sl⟩:=(aH he hA).iO;have h1:(execOp a.eval o).run P c.w= .ok (.value (.bool ad.isNone)) c.w:=by simp_all [execOp,binOp,lI,eP]
  rw[h1];refine⟨c,_,h,rfl,g,.refl c,.v _,hs,hk2 _ fun hne=>?_⟩
  cases ad with
  |some q=>rfl
  |none=>have:=sl.h0 rfl;have:=sl.hc;have:=List.length_pos_iff.2 hne;omega
 ·rename_i e xs p hty
  rw[hty]at hd;obtain⟨ad,cap,sz,val,hu,sl⟩:=(aH he hA).iO;have h1:(execOp a.eval o).run P c.w= .ok (.value (.bool (!ad.isNone))) c.w:=by simp_all [execOp,binOp,lI,eP]
  rw[h1];refine⟨c,_,h,rfl,g,.refl c,.v _,hs,hk2 _ fun hne=>?_⟩
  cases ad with
  |some q=>rfl
  |none=>have:=sl.h0 rfl;have:=sl.hc;have:=List.length_pos_iff.2 hne;omega
 ·rename_i e id off len hty
  rw[hty]at hd;obtain⟨cap,o',hu,_⟩:=(aH he hA).qb;have h1:(execOp a.eval o).run P c.w= .ok (.value (.bool false)) c.w:=by simp_all [execOp,binOp,lI,eP]
  rw[h1];exact afb
 ·rename_i e id off len hty
  rw[hty]at hd;obtain⟨cap,o',hu,_⟩:=(aH he hA).qb;have h1:(execOp a.eval o).run P c.w= .ok (.value (.bool true)) c.w:=by simp_all [execOp,binOp,lI,eP]
  rw[h1];exact afb
 ·rename_i e id off len cap0 sz0 hty
  rw[hty]at hd;obtain⟨o',hu,_⟩:=(aH he hA).jE;have h1:(execOp a.eval o).run P c.w= .ok (.value (.bool false)) c.w:=by simp_all [execOp,binOp,lI,eP]
  rw[h1];exact afb
 ·rename_i e id off len cap0 sz0 hty
  rw[hty]at hd;obtain⟨o',hu,_⟩:=(aH he hA).jE;have h1:(execOp a.eval o).run P c.w= .ok (.value (.bool true)) c.w:=by simp_all [execOp,binOp,lI,eP]
  rw[h1];exact afb
 ·exact hk2.elim
theorem nD{ρ:Env}{h:Heap}{o:Oper}{Q:AV→Heap→Prop}(hU:∀t,aP P U t)(hk:bg P U ρ h o Q){a:Act}{n:Nat}(hs:Sub h c.h)(g:Good c)(he:cu c n ρ a):
  mw P c Q ((execOp a.eval o).run P c.w):=by
 have hk0:=hk;unfold bg at hk;split at hk
 ·rename_i t ho
  split at hk
  ·rename_i hun
   obtain⟨i,i1,i2,_⟩:=(hU t).unit (vr hun);have hz0:(zeroValue t).run P c.w= .ok (.agg #[]) c.w:=ae4;have:=pY (t:=t) (y:=.agg []) (u:=.agg #[]) (n:=0) hs g (.agg [] #[] rfl aea aea) rfl hk;have hr:(execOp a.eval o).run P c.w= .ok (.value (.pointer (some ⟨c.w.heap.size,0,none⟩))) (c.w.alloc (.cells (Value.agg #[]).cells t)):=by simp_all [execOp,Instr.alloc,newVar,newRow]
   rw[hr];exact aeE
  ·exact E1 (ρ:=ρ) hU ho hk.1 hk.2.1 hk.2.2 hs g
 ·rename_i t x ho
  exact Kz ho hk.2 hs g he
 ·rename_i t p x ho
  exact E8 hU ho hk0 hs g he
 ·rename_i t l m ho
  exact xA hU ho hk0 hs g he
 ·rename_i t r ho
  exact AJ hU ho hk.1 hk.2 hs g he
 ·rename_i t x y z ho
  exact xB hU ho hk hs g he
 ·rename_i cl ho
  obtain⟨callee,args,ts⟩:=cl;simp only at hk;split at hk
  ·rename_i q
   obtain⟨y,hy,hk⟩:=aJ hk;split at hk
   ·rename_i f cap
    obtain⟨ys,hys,hk⟩:=fB hk;obtain⟨vs,hu,hn,hr⟩:=(aH he hy).F6;obtain⟨h1,h2⟩:=xJ he _ _ hys;have:(execOp a.eval o).run P c.w=(callFunc f (args.map a.eval++vs)).run P c.w:=by grind [execOp,resolve,Deferred.ofValue,invoke]
    rw[this];refine GW hk hs g ad4 fun i hi=>?_
    have hsz:(args.map a.eval).size=ys.length:=ad4
    by_cases hlt:i<ys.length
    ·have e1:(ys++cap)[i]=ys[i]:=by grind
     have hlt' :i<args.size:=ad4;have:=h2 i ad3 hlt;rw[e1];have e2:(args.map a.eval++vs).getD i undef=a.eval args.toList[i]:=by
      have h9:i<(args.map a.eval++vs).size:=ad4;rw[Array.getD,dif_pos h9]
      show(args.map a.eval++vs)[i]=_
      grind
     rw[e2];exact aeE
    ·have hi' :i<ys.length+cap.length:=by grind
     have e1:(ys++cap)[i]=cap[i - ys.length]:=ad4;rw[e1];have e2:(args.map a.eval++vs).getD i undef=vs.getD (i - ys.length) undef:=by
      have h9:i<(args.map a.eval++vs).size:=ad4;have h8:i - ys.length<vs.size:=ad3;rw[Array.getD,dif_pos h9,Array.getD,dif_pos h8]
      show(args.map a.eval++vs)[i]=_
      rw[Array.getElem_append_right ad3]
      simp_all
     rw[e2];exact hr _ ad3
   ·exact aeq
  ·split at hk
   ·rename_i x y t1 t2 hA hB
    obtain⟨A,hA',hk⟩:=aJ hk;obtain⟨B,hB',hk2⟩:=aJ hk;obtain⟨r,w',hr,hc⟩:∃r w',(Builtin.append_ #[t1,t2] o.type #[a.eval x,a.eval y]).run P c.w= .ok r w'∧fh c Q r w' :=by
     unfold apT at hk2;split at hk2
     ·rename_i ki hki
      exact I1 hU hki hk2 c _ _ hs g (aH he hA') (aH he hB')
     ·exact ajz
     ·exact ajz
     grind
    rw[cp ho];have e1:args= #[x,y]:=ad4;have e2:ts= #[t1,t2]:=ad4;subst e1;subst e2
    exact we ad4 hc
   ·exact aeq
  ·split at hk
   ·rename_i x y t1 t2 hA hB
    obtain⟨A,hA',hk⟩:=aJ hk;obtain⟨B,hB',hk2⟩:=aJ hk;obtain⟨r,w',hr,hc⟩:=GX (P:=P) (tx:=t2) (ty:=o.type) hU hk2 c _ _ hs g (aH he hA') (aH he hB');rw[cp ho];have e1:args= #[x,y]:=ad4;have e2:ts= #[t1,t2]:=ad4;subst e1;subst e2
    exact we ad4 hc
   ·exact aeq
  ·exact vT hU hk hs g he
 ·rename_i op ty x y t' ho
  split at hk
  ·rename_i hy
   exact KE hU ho hy hk hs g he
  ·exact vT hU ad3 hs g he
 ·exact vT hU hk hs g he
end
section
variable (P : Program) (U : TypeId → TI) (n : Nat)
def qx(all:List Oper)(g:Nat):Option Tmp:=(all[g]?).bind (·.dst)
def j8(all:List Oper)(ρ:Env)(gd:Option (Nat×Bool))(yes no:Env→Prop):Prop:=
 match gd with
 |none=>yes ρ
 |some (g,want)=>match qx all g with
  |some d=>match lk ρ d with
   |some (.v (.bool t))=>(t=want→yes ((d,.b want)::ρ))∧(t= !want→no ((d,.b (!want))::ρ))
   |some (.v (.tuple _))=>no ρ
   |_=>False
  |none=>False
def KOp(k:Env→Heap→Prop)(ρ:Env)(d:Option Tmp)(x:AV)(h:Heap):Prop:=k (put ρ d x) h
def kU(all:List Oper):List Oper→Env→Heap→(Env→Heap→Prop)→Prop
 | [],ρ,h,K=>K ρ h
 |o::os,ρ,h,K=>eY n o.dst=true∧j8 all ρ o.guard
   (fun ρ=>bg P U ρ h o (KOp (fun ρ h=>kU all os ρ h K) ρ o.dst))
   (fun ρ=>kU all os (put ρ o.dst (.v undef)) h K)
def WPK(K:Exit→Env→Heap→Prop)(c0:Cx)(e:Exit)(a:Act)(w:World):Prop:=
 ∃c ρ h,c.w=w∧Good c∧Ext c0 c∧cu c n ρ a∧Sub h c.h∧K e ρ h
end
section
variable {P : Program} {U : TypeId → TI} {n : Nat}
theorem cu.learn{c:Cx}{ρ:Env}{a:Act}(h:cu c n ρ a){d:Nat}{t:Bool}(hd:lk ρ d=some (.b t)){b:Bool}(hb:t=b):cu c n ((d,.b b)::ρ) a:=by
 subst hb;refine⟨h.size,h.defers,fun t' x hx=>?_⟩
 simp only[lk]at hx;split at hx
 ·rename_i e;subst e
  cases hx;exact h.rep _ _ hd
 ·exact h.rep _ _ hx
theorem KO{c:Cx}{ρ:Env}{a:Act}(h:cu c n ρ a){d:Nat}{u:Value}(hd:lk ρ d=some (.v u))(hu:u≠undef∨d<a.tmps.size):a.tmps[d]? =some u:=by
 have:=(h.rep d _ hd).bZ
 by_cases hlt:d<a.tmps.size
 ·simpa[hlt]using this
 ·have e:a.tmps.getD d undef=undef:=by grind
  rw[e]at this;rcases hu with hu|hu
  ·exact(hu this.symm).elim
  ·exact(hlt hu).elim
theorem DY{all:List Oper}{ρ:Env}{o:Oper}{yes no:Env→Prop}(hg:j8 all ρ o.guard yes no){c:Cx}{a:Act}(he:cu c n ρ a):
  ∃ρ',cu c n ρ' a∧((Region.wanted o (yielded all.toArray a.tmps)=true∧yes ρ')∨(Region.wanted o (yielded all.toArray a.tmps)=false∧no ρ')):=by
 unfold j8 at hg;split at hg
 ·grind [Region.wanted]
 ·rename_i g want hgd
  split at hg
  ·rename_i d hd
   have hd' :(all[g]?).bind (·.dst)=some d:=hd
   split at hg
   ·rename_i t ht
    obtain⟨h1,h2⟩:=hg;have hy:yielded all.toArray a.tmps g=some t:=by
     have:=KO he ht (by grind [undef])
     simp[yielded,hd',this]
    by_cases e:t=want
    ·exact⟨_,he.learn ht e,.inl ⟨by grind [Region.wanted],h1 e⟩⟩
    ·have e' :t= !want:=by cases t<;>cases want<;>simp_all
     exact⟨_,he.learn ht e',.inr ⟨by grind [Region.wanted],h2 e'⟩⟩
   ·rename_i vs ht
    refine⟨ρ,he,.inr ⟨?_,hg⟩⟩;have hy:yielded all.toArray a.tmps g=none:=by
     have:=(he.rep _ _ ht).bZ
     by_cases hlt:d<a.tmps.size
     ·have e:a.tmps[d]? =some (.tuple vs):=by simp_all
      simp[yielded,hd',e]
     ·have e:a.tmps[d]? =none:=by grind
      simp[yielded,hd',e]
    simp[Region.wanted,hgd,hy]
   ·exact hg.elim
  grind
theorem WPK.after{K:Exit→Env→Heap→Prop}{c0 c1:Cx}(he:Ext c0 c1){e:Exit}{a:Act}{w:World}(h:WPK n K c1 e a w):WPK n K c0 e a w:=by obtain⟨c,ρ,hh,h1,h2,h3,h4⟩:=h;exact⟨c,ρ,hh,h1,h2,he.trans h3,h4⟩
theorem rT(hU:∀t,aP P U t){all:List Oper}{K:Exit→Env→Heap→Prop}(c0:Cx):∀(l:List Oper) (ρ:Env) (h:Heap),kU P U n all l ρ h (K .normal)→
  ∀c a,Ext c0 c→Sub h c.h→Good c→cu c n ρ a→wpList P all.toArray (WPK n K c0) l a c.w
 | [],ρ,h,hk,c,a,hE,hs,g,he=>⟨c,ρ,h,rfl,g,hE,he,hs,hk⟩
 |o::os,ρ,h,hk,c,a,hE,hs,g,he=>by
  obtain⟨hd,hk⟩:=hk;obtain⟨ρ',he',hk⟩:=DY hk he;unfold wpList;rcases hk with⟨hw,hk⟩|⟨hw,hk⟩
  ·rw[if_pos hw]
   left
   have hu:=nD hU hk hs g he';have next:∀u w',fh c (KOp (fun ρ h=>kU P U n all os ρ h (K .normal)) ρ' o.dst) u w'→wpList P all.toArray (WPK n K c0) os (a.put o.dst u) w' :=by
    rintro u w' ⟨c',x,h',rfl,g',hE',hr,hs',hK⟩
    exact rT hU c0 os _ h' hK c' _ (hE.trans hE') hs' g' ((he'.mono hE').put hd hr)
   unfold Oper.wp;generalize (execOp a.eval o).run P c.w=r at hu;cases r with
   |ok nx w' =>exact ait
   |halt x w' =>exact hu.elim
  ·rw[if_neg ad4]
   exact rT hU c0 os _ h hk c _ hE hs g (he'.put hd (.v _))
end
section
variable {P : Program} {U : TypeId → TI}
theorem DI{ρ ρ' :Env}{x:Operand}(h:∀t,x= .tmp t→lk ρ t=lk ρ' t):ev ρ x=ev ρ' x:=by
 cases x with
 |tmp t=>exact h t rfl
 |_=>rfl
theorem mN{ρ ρ' :Env}:∀ {xs:List Operand},(∀x∈xs,ev ρ x=ev ρ' x)→evs ρ xs=evs ρ' xs
 | [],_=>rfl
 |x::r,h=>by simp only[evs];rw[h x aea,mN fun y hy=>h y ad4]
theorem tf{ρ ρ' :Env}{x:Option Operand}{d:Nat}{k:Int→Prop}(h:∀y,x=some y→ev ρ y=ev ρ' y):eO ρ x d k=eO ρ' x d k:=by
 cases x with
 |none=>rfl
 |some y=>simp only[eO,withv,h y rfl]
theorem uX{ρ ρ' :Env}{fs:List (Nat×TypeId)}{k:List AV→Prop}:∀ {ps:List (Nat×Operand)} {cs:List AV},(∀p∈ps,ev ρ p.2=ev ρ' p.2)→withps U ρ fs ps cs k=withps U ρ' fs ps cs k
 | [],_,_=>rfl
 |(i,x)::r,cs,h=>by
  simp only[withps,withv];have h1:ev ρ x=ev ρ' x:=ah8;rw[h1];have h2:∀cs',withps U ρ fs r cs' k=withps U ρ' fs r cs' k:=fun cs' =>uX fun p hp=>h p ad4
  simp only[h2]
theorem Kp{ρ ρ' :Env}{hp:Heap}{b:Builtin}{args:List Operand}{ts:List TypeId}{k:AV→Prop}(h:∀x∈args,ev ρ x=ev ρ' x):pvB U ρ hp b args ts k=pvB U ρ' hp b args ts k:=by
 cases b<;>simp only[pvB,withvs,mN h]
 ·grind [withv]
 grind [withv]
theorem AD{ρ ρ' :Env}{ty:TypeId}{y:AV}{lo hi mx:Option Operand}{k:AV→Prop}(h1:∀x,lo=some x→ev ρ x=ev ρ' x)(h2:∀x,hi=some x→ev ρ x=ev ρ' x)(h3:∀x,mx=some x→ev ρ x=ev ρ' x):
  rY U ρ ty y lo hi mx k=rY U ρ' ty y lo hi mx k:=by
 have e1:∀d (k:Int→Prop),eO ρ lo d k=eO ρ' lo d k:=fun d k=>tf h1
 have e2:∀d (k:Int→Prop),eO ρ hi d k=eO ρ' hi d k:=fun d k=>tf h2
 cases mx with
 |none=>simp only[rY,e1,e2]
 |some m=>
  have e3:∀d (k:Int→Prop),eO ρ (some m) d k=eO ρ' (some m) d k:=fun d k=>tf h3
  simp only[rY,e1,e2,e3]
theorem EK{ρ ρ' :Env}{h:Heap}{op:Op}{k:AV→Prop}(he:∀x∈op.operands,ev ρ x=ev ρ' x):pv U ρ h op k=pv U ρ' h op k:=by
 cases op<;>simp only[pv]
 case move x=>grind [withv,Op.operands]
 case assign x=>grind [withv,Op.operands]
 case pick c a b=>simp_all [withv,Op.operands]
 case nilCheck x=>grind [withv,Op.operands]
 case binOp op ty x y ty' =>grind [withv,Op.operands]
 case unOp op ty x=>grind [withv,Op.operands]
 case convert s d x=>grind [withv,Op.operands]
 case field ty x f=>grind [withv,Op.operands]
 case extract x i=>grind [withv,Op.operands]
 case index ty x y=>grind [withv,Op.operands]
 case fieldAddr ty x f=>grind [withv,Op.operands]
 case indexAddr ty x y=>grind [withv,Op.operands]
 case load ty x=>grind [withv,Op.operands]
 case slice ty x lo hi mx=>
  simp only[withv,he x afp]
  grind [AD,Op.operands]
 case lookup mt x y ok=>grind [withv,Op.operands]
 case buildSlice ty n ps=>grind [evs,mN,Op.operands,withvs]
 case build ty ps=>
  have:∀fs cs (k:List AV→Prop),withps U ρ fs ps.toList cs k=withps U ρ' fs ps.toList cs k:=fun fs cs k=>uX fun p hp=>he p.2 (by simp only[Op.operands,List.mem_toArray,List.mem_map];grind)
  simp only[this]
 case makeInterface ty x=>grind [withv,Op.operands]
 case makeFunc fn first cap=>grind [evs,mN,Op.operands,withvs]
 grind [builtin,Kp,Op.operands,Call.operands]
def restrict(ρ:Env)(S:List Nat):Env:=ρ.filter fun p=>S.contains p.1
theorem lU(S:List Nat)(t:Nat):∀ρ:Env,lk (restrict ρ S) t=if S.contains t then lk ρ t else none
 | []=>by simp[restrict,lk]
 |(k,x)::r=>by
  have ih:=lU S t r;simp only[restrict,List.filter_cons]at ih⊢
  by_cases hk:S.contains k=true
  ·rw[if_pos hk]
   simp only[lk]
   by_cases e:k=t
   ·subst e;rw[if_pos rfl,if_pos hk,if_pos rfl]
   ·rw[if_neg e,if_neg e];exact ih
  ·rw[if_neg hk]
   rw[ih]
   by_cases e:k=t
   ·subst e
    simp only[hk];rfl
   ·simp only[lk,if_neg e]
def fm(op:Op):List Nat:=op.operands.toList.filterMap fun|.tmp t=>some t|_=>none
abbrev EF:=Nat→Option AV
def DUpon(P:Program)(c:Cx)(h:Heap)(X:AV):Result Next→Prop
 |.ok (.value u) w' =>∃c',c'.w=w'∧Good c'∧Ext c c'∧Sub h c'.h∧Rep c' X u
 |.ok .skip w' =>∃c',c'.w=w'∧Good c'∧Ext c c'∧Sub h c'.h∧Rep c' X undef
 |.ok (.enter f args) w' =>w' =c.w∧Calls P f args w' fun e w'' =>∃u,e= .returned u∧∃c',c'.w=w''∧Good c'∧Ext c c'∧Sub h c'.h∧Rep c' X u
 |_=>False
def DOK(P:Program)(o:Oper)(F:EF)(h:Heap)(X:AV):Prop:=
 ∀(c:Cx) (a:Act),Sub h c.h→Good c→a.defers= []→(∀t∈fm o.op,∀x,F t=some x→Rep c x (a.tmps.getD t undef))→DUpon P c h X ((execOp a.eval o).run P c.w)
def iX(P:Program)(U:TypeId→TI)(ρ:Env)(h:Heap)(o:Oper)(Q:AV→Prop):Prop:=
 match o.op with
 |.call c=>match c.callee with
  |.value q=>withv ρ q fun y=>match y with
   |.fn f cap=>withvs ρ c.args.toList fun ys=>∃X,ai P f (ys++cap) h (fun x h' =>x=X∧h' =h)∧Q X
   |_=>False
  |_=>pv U ρ h o.op Q
 |_=>pv U ρ h o.op Q
theorem Ht{ρ:Env}{h:Heap}{o:Oper}{Q:AV→Prop}(hU:∀t,aP P U t)(hk:iX P U ρ h o Q):∃X,Q X∧DOK P o (lk ρ) h X:=by
 have hev:∀x∈o.op.operands,ev (restrict ρ (fm o.op)) x=ev ρ x:=fun x hx=>DI fun t ht=>by exact ajA
 have henv:∀ {c:Cx} {a:Act},a.defers= []→(∀t∈fm o.op,∀x,lk ρ t=some x→Rep c x (a.tmps.getD t undef))→cu c a.tmps.size (restrict ρ (fm o.op)) a:=fun hd hr=>
  ⟨rfl,hd,fun t x hx=>by
   rw[lU]at hx;split at hx
   ·rename_i hc
    exact hr t ad4 x hx
   ·cases hx⟩
 have pure:pv U ρ h o.op Q→∃X,Q X∧DOK P o (lk ρ) h X:=fun hp=>by
  rw[←EK hev]at hp;obtain⟨X,hQ,hX⟩:=zE hU hp;refine⟨X,hQ,fun c a hs g hd hr=>?_⟩
  obtain⟨u,c',h1,h2,h3,h4,h5⟩:=hX c a _ hs g (henv hd hr);rw[h1];exact⟨c',rfl,h2,h3,ad4,h5⟩
 unfold iX at hk;split at hk
 ·rename_i cl ho
  obtain⟨callee,args,ts⟩:=cl;simp only at hk;split at hk
  ·rename_i q
   obtain⟨y,hy,hk⟩:=aJ hk;split at hk
   ·rename_i f cap
    obtain⟨ys,hys,X,hf,hQ⟩:=fB hk;refine⟨X,hQ,fun c a hs g hd hr=>?_⟩
    have he:=henv hd hr;have hvc:bg P U (restrict ρ (fm o.op)) h o (fun x h' =>x=X∧h' =h):=by
     have e1:ev (restrict ρ (fm o.op)) q=some (.fn f cap):=by grind [Op.operands,Call.operands]
     have e2:evs (restrict ρ (fm o.op)) args.toList=some ys:=by grind [mN,Op.operands,Call.operands]
     simp only[bg,ho];simp only[ho]at e1 e2;simp only[withv,e1,withvs,e2];exact hf
    have hu:=nD hU hvc hs g he;generalize (execOp a.eval o).run P c.w=r at hu;have conv:∀u w',fh c (fun x h' =>x=X∧h' =h) u w'→∃c',c'.w=w'∧Good c'∧Ext c c'∧Sub h c'.h∧Rep c' X u:=by
     rintro u w' ⟨c',x,h',h1,h2,h3,h4,h5,rfl,rfl⟩
     grind
    cases r with
    |ok nx w' =>
     cases nx<;>simp only[mw]at hu<;>simp only[DUpon]
     case value u=>exact conv _ _ hu
     case skip=>exact conv _ _ hu
     case enter f args=>exact⟨hu.1,hu.2.mono fun e w'' ⟨u,he,hc⟩=>⟨u,he,conv _ _ hc⟩⟩
    |halt x w' =>exact hu.elim
   ·exact aeq
  ·exact pure hk
 ·exact pure hk
end
section
variable {F F':EF}{j:Nat}{oi:Oper}{listed:Array Bool}{E:Array Bool→Prop}{c c0:Cx}
variable {P : Program} {U : TypeId → TI} {ops : Array Oper} {md : Region.Mode} {h : Heap}
def ic(F:EF):Option Tmp→AV→EF
 |some d,x=>upd F d (some x)
 |none,_=>F
theorem sY(ρ:Env)(d:Option Tmp)(x:AV):lk (put ρ d x)=ic (lk ρ) d x:=by
 cases d with
 |none=>rfl
 |some d=>
  funext t
  simp only[put,lk,ic,upd]
  grind
def cL(ops:Array Oper)(F:EF)(o:Oper):Option Bool:=
 match o.guard with
 |none=>some true
 |some (g,want)=>match (ops[g]?).bind (·.dst)with
  |some d=>match F d with
   |some (.v (.bool t))=>some (t==want)
   |some (.v (.tuple _))=>some false
   |_=>none
  |none=>none
def wz(P:Program)(ops:Array Oper)(h:Heap)(o:Oper)(K:EF→Prop)(F:EF):Prop:=
 (cL ops F o=some true∧∃X,DOK P o F h X∧K (ic F o.dst X))∨(cL ops F o=some false∧K (ic F o.dst (.v undef)))
def dOp(P:Program)(ops:Array Oper)(h:Heap)(i:Nat)(K:EF→Prop)(F:EF):Prop:=
 match ops[i]? with
 |none=>K F
 |some o=>wz P ops h o K F
def dList(P:Program)(ops:Array Oper)(h:Heap)(Q:EF→Prop):List Oper→EF→Prop
 | [],F=>Q F
 |o::r,F=>wz P ops h o (dList P ops h Q r) F
theorem FT{o:Oper}{K K' :EF→Prop}(hk:∀F,K F→K' F)(hs:wz P ops h o K F):wz P ops h o K' F:=by
 rcases hs with⟨h1,X,h2,h3⟩|⟨h1,h2⟩
 ·exact .inl ⟨h1,X,h2,hk _ h3⟩
 ·exact .inr ⟨h1,hk _ h2⟩
theorem Dr{i:Nat}{K K' :EF→Prop}(hk:∀F,K F→K' F)(hs:dOp P ops h i K F):dOp P ops h i K' F:=by grind [dOp,FT]
def YD(P:Program)(ops:Array Oper)(h:Heap)(o:Oper)(X:AV)(F:EF):Prop:=
 (cL ops F o=some true∧DOK P o F h X)∨(cL ops F o=some false∧X= .v undef)
theorem Ds{o:Oper}{X:AV}{K:EF→Prop}(hy:YD P ops h o X F)(hk:K (ic F o.dst X)):wz P ops h o K F:=by
 rcases hy with⟨h1,h2⟩|⟨h1,rfl⟩
 ·exact .inl ⟨h1,X,h2,hk⟩
 ·exact .inr ⟨h1,hk⟩
theorem C5{o:Oper}{K:EF→Prop}(hs:wz P ops h o K F):∃X,YD P ops h o X F∧K (ic F o.dst X):=by
 rcases hs with⟨h1,X,h2,h3⟩|⟨h1,h2⟩
 ·exact⟨X,.inl ⟨h1,h2⟩,h3⟩
 ·exact⟨_,.inr ⟨h1,rfl⟩,h2⟩
theorem qi{d:Option Tmp}{x:AV}{t:Nat}(hd:∀e,d=some e→e≠t):ic F d x t=F t:=by
 cases d with
 |none=>rfl
 |some e=>exact ag _ _ ad4
theorem mT(F:EF){x y:Option Tmp}(v u:AV)(hd:∀d,x=some d→y≠some d):ic (ic F x v) y u=ic (ic F y u) x v:=by
 cases x with
 |none=>rfl
 |some d=>cases y with
  |none=>rfl
  |some e=>
   funext t
   simp only[ic,upd]
   grind
theorem AP{o:Oper}{X:AV}(hf:∀t∈fm o.op,F t=F' t)(hd:DOK P o F h X):DOK P o F' h X:=
 fun c a hs g hdf hr=>hd c a hs g hdf fun t ht x hx=>hr t ht x ad4
theorem lX{o:Oper}{t:Nat}(ht:t∈fm o.op):t∈o.looksAt ops:=by simp only[Oper.looksAt,List.mem_append];exact .inl ht
theorem eD{o:Oper}(hf:∀t∈o.looksAt ops,F t=F' t):cL ops F o=cL ops F' o:=by grind [cL,Oper.looksAt]
theorem C4{o:Oper}{X:AV}(hf:∀t∈o.looksAt ops,F t=F' t)(hy:YD P ops h o X F):YD P ops h o X F' :=by
 rcases hy with⟨h1,h2⟩|⟨h1,h2⟩
 ·exact .inl ⟨ahl,AP (by grind [lX]) h2⟩
 ·exact .inr ⟨ahl,h2⟩
theorem OL{oj:Oper}{X:AV}(hj:ops[j]? =some oj)(hap:oi.apart ops oj=true){K:EF→Prop}
  (hy:YD P ops h oi X F) (hs:dOp P ops h j K (ic F oi.dst X)):dOp P ops h j (fun F' =>YD P ops h oi X F'∧K (ic F' oi.dst X)) F:=by
 obtain⟨h1,h2,h3⟩:=Oper.apart_spec hap;unfold dOp at*;simp only[hj]at*;have hlook:∀t∈oj.looksAt ops,ic F oi.dst X t=F t:=fun t ht=>qi fun e he hte=>h1 e he (hte▸ht)
 have hlook2:∀u,∀t∈oi.looksAt ops,F t=ic F oj.dst u t:=fun u t ht=>(qi fun e he hte=>h3 e he (hte▸ht)).symm
 rcases hs with⟨w1,Y,w2,w3⟩|⟨w1,w2⟩
 ·refine .inl ⟨ahl,Y,AP (by grind [lX]) w2,C4 (hlook2 Y) hy,?_⟩
  rw[←mT F X Y h2];exact w3
 ·refine .inr ⟨ahl,C4 (hlook2 _) hy,?_⟩
  rw[←mT F X _ h2];exact w2
theorem Jf{i:Nat}{X:AV}{K:EF→Prop}(hi:ops[i]? =some oi)(hy:YD P ops h oi X F)(hk:K (ic F oi.dst X)):dOp P ops h i K F:=by grind [dOp,Ds]
structure Sys (ops:Array Oper) (S:Nat→(EF→Heap→Prop)→EF→Heap→Prop) (Y:Nat→AV→EF→Prop):Prop where
 mono:∀ {i:Nat} {F:EF} {h:Heap} {K K' :EF→Heap→Prop},(∀F h,K F h→K' F h)→S i K F h→S i K' F h
 of:∀ {i:Nat} {oi:Oper} {X:AV} {F:EF} {h:Heap} {K:EF→Heap→Prop},ops[i]? =some oi→Y i X F→K (ic F oi.dst X) h→S i K F h
 put:∀ {i j:Nat} {oi oj:Oper} {X:AV} {F:EF} {h:Heap} {K:EF→Heap→Prop},ops[i]? =some oi→ops[j]? =some oj→oi.apart ops oj=true→Y i X F→S j K (ic F oi.dst X) h→S j (fun F' h' =>Y i X F'∧K (ic F' oi.dst X) h') F h
def su(md:Region.Mode)(ops:Array Oper)(S:Nat→(EF→Heap→Prop)→EF→Heap→Prop)(E:Array Bool→Prop)(Q:EF→Heap→Prop):Nat→Array Bool→EF→Heap→Prop
 |0,listed,F,h=>E listed∧Q F h
 |fuel+1,listed,F,h=>Region.ready md ops listed≠ []∧∀i∈Region.ready md ops listed,S i (su md ops S E Q fuel (listed.setIfInBounds i true)) F h
def Closed(md:Region.Mode)(ops:Array Oper)(listed:Array Bool):Prop:=∀j oj,ops[j]? =some oj→listed.getD j false=true→∀e∈oj.after,Region.binds md e=true→listed.getD e.on false=true
def Iw(md:Region.Mode)(ops:Array Oper)(k:Nat):List Nat:=match ops[k]? with
 |some o=>(o.after.toList.filter (Region.binds md)).map (·.on)
 |none=>[]
def jZ(md:Region.Mode)(ops:Array Oper)(s:List Nat):List Nat:=(List.range ops.size).filter fun k=>s.contains k||s.any fun j=>(Iw md ops j).contains k
def Fs(md:Region.Mode)(ops:Array Oper)(z:Nat):Bool:=(List.range ops.size).all fun k=>(jZ md ops (jZ md ops (jZ md ops [z]))).contains k
theorem fk{z:Nat}(hc:Closed md ops listed)(hz:z∈Region.ready md ops listed){s:List Nat}(hs:∀k∈s,k≠z→listed.getD k false=true):∀k∈jZ md ops s,k≠z→listed.getD k false=true:=by
 intro k hk hkz;simp only[jZ,List.mem_filter,Bool.or_eq_true,List.contains_iff_mem,List.any_eq_true]at hk;obtain⟨_,h1|⟨j,hj,hp⟩⟩:=hk
 ·grind
 ·unfold Iw at hp
  cases ho:ops[j]? with
  |none=>grind
  |some o=>
   rw[ho]at hp;simp only[List.mem_map,List.mem_filter]at hp;obtain⟨e,⟨he,hb⟩,rfl⟩:=hp
   by_cases hjz:j=z
   ·grind [mem_ready]
   ·exact hc j o ho (hs j hj hjz) e ad4 hb
theorem K6{z:Nat}(hz:Fs md ops z=true)(hc:Closed md ops listed){i:Nat}(h1:z∈Region.ready md ops listed)(h2:i∈Region.ready md ops listed):i=z:=by
 obtain⟨hun,oi,hoi,_⟩:=mem_ready.1 h2;unfold Fs at hz;rw[List.all_eq_true]at hz;have hm:=hz i ad4;rw[List.contains_iff_mem]at hm;have s0:∀k∈ [z],k≠z→listed.getD k false=true:=fun k hk hn=>absurd (by simpa using hk) hn
 have s3:=fk hc h1 (fk hc h1 (fk hc h1 s0))
 by_cases e:i=z
 ·exact e
 ·have:=s3 i hm e
  exfalso
  grind
theorem Closed.set(hc:Closed md ops listed)(hj:j∈Region.ready md ops listed):Closed md ops (listed.setIfInBounds j true):=by
 have up:∀k,listed.getD k false=true→(listed.setIfInBounds j true).getD k false=true:=fun k hk=>by
  by_cases e:j=k
  ·subst e
   rcases Nat.lt_or_ge j listed.size with h' |h'
   ·simp[h']
   grind
  simp_all
 intro k ok hk hl e he hb
 by_cases hkj:j=k
 ·grind [mem_ready]
 ·rw[getD_set_ne false hkj]at hl
  exact up _ (hc k ok hk hl e he hb)
theorem Closed.none(md:Region.Mode)(ops:Array Oper)(m:Nat):Closed md ops (Array.replicate m false):=fun j oj _ hl=>by
 rcases Nat.lt_or_ge j m with h' |h'
 ·simp_all
 grind
def Ends(md:Region.Mode)(ops:Array Oper)(E:Array Bool→Prop)(i:Nat):Prop:=∀listed,Closed md ops listed→i∈Region.ready md ops listed→E (listed.setIfInBounds i true)→∀j∈Region.ready md ops listed,j=i
def FY(md:Region.Mode)(ops:Array Oper):Option Nat→Array Bool→Bool
 |none,l=>(Region.ready md ops l).isEmpty
 |some z,l=>Region.ready md ops l== [z] && (Region.ready md ops (l.setIfInBounds z true)).isEmpty
def xY(md:Region.Mode)(ops:Array Oper)(z:Option Nat)(l:Array Bool):Prop:=FY md ops z l=true
theorem yB{z:Option Nat}(hz:∀k,z=some k→Fs md ops k=true)(i:Nat):Ends md ops (xY md ops z) i:=fun listed hcl hr he j hj=>by
 by_cases e:j=i
 ·exact e
 have hm:=ready_mono hj e;cases z with
 |none=>simp only[xY,FY,List.isEmpty_iff]at he;rw[he]at hm;cases hm
 |some z=>simp only[xY,FY,Bool.and_eq_true,beq_iff_eq]at he;rw[he.1]at hm;obtain rfl:=List.mem_singleton.1 hm;exact(K6 (hz _ rfl) hcl hj hr).symm
theorem Sys.first{S:Nat→(EF→Heap→Prop)→EF→Heap→Prop}{Y:Nat→AV→EF→Prop}(s:Sys ops S Y){Q:EF→Heap→Prop}{i:Nat}{X:AV}(hi:ops[i]? =some oi)(hend:Ends md ops E i):
  ∀(fuel:Nat) (listed:Array Bool) (F:EF) (h:Heap),Closed md ops listed→Region.free md ops listed i=true→
   i∈Region.ready md ops listed→Y i X F→
   su md ops S E Q fuel (listed.setIfInBounds i true) (ic F oi.dst X) h→su md ops S E Q (fuel+1) listed F h:=by
 suffices go:∀(fuel:Nat) (listed:Array Bool) (F:EF) (h:Heap),Closed md ops listed→
   (∀j oj,ops[j]? =some oj→j≠i→listed.getD j true=false→(∀e∈oj.after,Region.binds md e=true→e.on≠i)→oi.apart ops oj=true)→
   i∈Region.ready md ops listed→Y i X F→
   su md ops S E Q fuel (listed.setIfInBounds i true) (ic F oi.dst X) h→su md ops S E Q (fuel+1) listed F h from
  fun fuel listed F h hcl hf=>go fuel listed F h hcl (Region.free_spec hi hf)
 intro fuel
 induction fuel with
 |zero=>
  intro listed F h hcl _ hr hy H;refine⟨fun e=>(by rw[e]at hr;cases hr),fun j hj=>?_⟩
  obtain rfl:=hend listed hcl hr H.1 j hj;exact s.of hi hy H
 |succ fuel ih=>
  intro listed F h hcl hfree hr hy H;refine⟨fun e=>(by rw[e]at hr;cases hr),fun j hj=>?_⟩
  by_cases hji:j=i
  ·subst hji;exact s.of hi hy H
  ·have h1:=H.2 j (ready_mono hj hji)
   obtain⟨hjun,oj,hoj,hall⟩:=mem_ready.1 hj;have hnot:∀e∈oj.after,Region.binds md e=true→e.on≠i:=fun e he hb heq=>by grind [mem_ready,Nat.lt_or_ge,Array.getElem?_eq_none]
   refine s.mono (fun F' h' h3=>ih (listed.setIfInBounds j true) F' h' (hcl.set hj) (fun k ok hk hki hun hno=>hfree k ok hk hki ?_ hno) (ready_mono hr (Ne.symm hji)) h3.1 ?_) (s.put hi hoj (hfree j oj hoj hji hjun hnot) hy h1)
   ·by_cases hjk:j=k
    ·grind
    simp_all
   ·rw[Array.setIfInBounds_comm _ _ hji]
    exact h3.2
def dS(P:Program)(ops:Array Oper)(h:Heap)(i:Nat)(K:EF→Heap→Prop)(F:EF)(g:Heap):Prop:=dOp P ops h i (fun F=>K F g) F
theorem X9:Sys ops (dS P ops h) fun i X F=>∃oi,ops[i]? =some oi∧YD P ops h oi X F where
 mono hk hs:=Dr (fun F=>hk F _) hs
 of hi:=fun⟨o,ho,hy⟩ hk=>by rw[hi]at ho;cases ho;exact Jf hi hy hk
 put hi hj ha:=fun⟨o,ho,hy⟩ hs=>by
  rw[hi]at ho;cases ho
  exact Dr (fun F' ⟨a,b⟩=>⟨⟨_,hi,a⟩,b⟩) (OL hj ha hy hs)
def MF(md:Region.Mode)(ops:Array Oper)(z:Option Nat):Nat→Nat→Array Bool→Bool
 |0,_,listed=>FY md ops z listed
 |fuel+1,k,listed=>(Region.ready md ops listed).contains k && Region.free md ops listed k && MF md ops z fuel (k+1) (listed.setIfInBounds k true)
theorem yw{Q:EF→Prop}{z:Option Nat}(hz:∀k,z=some k→Fs md ops k=true):∀(l:List Oper) (k:Nat) (listed:Array Bool) (F:EF) (g:Heap),Closed md ops listed→(∀j,j<l.length→l[j]? =ops[k+j]?)→
  MF md ops z l.length k listed=true→dList P ops h Q l F→su md ops (dS P ops h) (xY md ops z) (fun F _=>Q F) l.length listed F g
 | [],_,_,_,_,_,_,hB,hd=>⟨hB,hd⟩
 |o::l,k,listed,F,g,hcl,hl,hB,hd=>by
  have h0:ops[k]? =some o:=by simpa using(hl 0 aea).symm
  simp only[List.length_cons,MF,Bool.and_eq_true]at hB;obtain⟨⟨hr,hf⟩,hB'⟩:=hB;obtain⟨X,hy,hK⟩:=C5 hd;have hin:k∈Region.ready md ops listed:=ad4;exact X9.first h0 (yB hz k) l.length listed F g hcl hf hin ⟨o,h0,hy⟩
   (yw hz l (k+1) _ _ g (hcl.set hin) (fun j hj=>by have:=hl (j+1) ad4;simpa[Nat.add_assoc,Nat.add_comm 1 j]using this) hB' hK)
def mW(c:Cx)(n:Nat)(F:EF)(a:Act):Prop:=a.tmps.size=n∧a.defers= []∧∀t x,F t=some x→Rep c x (a.tmps.getD t undef)
theorem mW.put{n:Nat}{a:Act}(he:mW c n F a){d:Option Tmp}(hd:eY n d=true){x:AV}{u:Value}(hx:Rep c x u):mW c n (ic F d x) (a.put d u):=by
 obtain⟨h1,h2,h3⟩:=he;cases d with
 |none=>exact⟨h1,h2,h3⟩
 |some d=>
  have hd' :d<a.tmps.size:=by rw[h1];exact adV hd
  refine⟨by grind [Act.put],h2,fun t y hy=>?_⟩
  simp only[ic,upd]at hy;split at hy
  ·exact ajI
  ·rename_i e
   have:=h3 t y hy;have e' :¬d=t:=fun h=>e h.symm
   simpa[Act.put,Array.getElem?_setIfInBounds_ne e']using this
theorem mW.mono{c':Cx}{n:Nat}{a:Act}(he:Ext c c')(hf:mW c n F a):mW c' n F a:=⟨hf.1,hf.2.1,fun t x hx=>(hf.2.2 t x hx).mono he⟩
theorem kO{n:Nat}{a:Act}{o:Oper}{b:Bool}(he:mW c n F a)(hw:cL ops F o=some b):Region.wanted o (yielded ops a.tmps)=b:=by
 unfold cL at hw;split at hw
 ·grind [Option.some.injEq,Region.wanted]
 ·rename_i g want hg
  split at hw
  ·rename_i d hd
   split at hw
   ·rename_i t ht
    simp only[Option.some.injEq]at hw;subst hw
    have h1:=(he.2.2 d _ ht).bZ;have h2:a.tmps[d]? =some (.bool t):=by
     by_cases hlt:d<a.tmps.size
     ·simp_all
     grind [undef,Nat.le_of_not_lt]
    have h3:yielded ops a.tmps g=some t:=by grind [yielded]
    simp[Region.wanted,hg,h3]
   ·rename_i vs ht
    simp only[Option.some.injEq]at hw;subst hw
    have h1:=(he.2.2 d _ ht).bZ;have h3:yielded ops a.tmps g=none:=by
     by_cases hlt:d<a.tmps.size
     ·simp_all [some,yielded]
     simp_all [none,Nat.le_of_not_lt,yielded]
    simp[Region.wanted,hg,h3]
   grind
  grind
theorem Jg{n:Nat}{i:Nat}{K:EF→Prop}{K' :Act→World→Prop}{Q:Exit→Act→World→Prop}(hdst:∀o∈ops.toList,eY n o.dst=true)
  (hk:∀c F a,Ext c0 c→Sub h c.h→Good c→mW c n F a→K F→K' a c.w)   {a:Act} (hE:Ext c0 c) (hs:Sub h c.h) (g:Good c) (he:mW c n F a) (hd:dOp P ops h i K F):wpOp P ops Q i K' a c.w:=by
 unfold dOp at hd;unfold wpOp;split
 ·rename_i ho;simp only[ho]at hd;exact hk c F a hE hs g he hd
 ·rename_i o ho
  simp only[ho]at hd;have hdo:eY n o.dst=true:=ad4;rcases hd with⟨h1,X,h2,h3⟩|⟨h1,h2⟩
  ·rw[if_pos (kO he h1)]
   left
   have hu:=h2 c a hs g he.2.1 (fun t _ x hx=>he.2.2 t x hx)
   have next:∀u w',(∃c',c'.w=w'∧Good c'∧Ext c c'∧Sub h c'.h∧Rep c' X u)→K' (a.put o.dst u) w' :=by
    rintro u w' ⟨c',rfl,k1,k2,k3,k4⟩
    exact hk c' _ _ (hE.trans k2) k3 k1 ((he.mono k2).put hdo k4) h3
   unfold Oper.wp;generalize (execOp a.eval o).run P c.w=r at hu;cases r with
   |ok nx w' =>
    cases nx<;>simp only[DUpon]at hu<;>simp only[Oper.upon]
    case value u=>exact next u w' hu
    case skip=>exact next undef w' hu
    case enter f args=>obtain⟨rfl,hc⟩:=hu;exact hc.mono fun e w'' ⟨u,he,hcm⟩=>ad4
   |halt x w' =>exact hu.elim
  ·rw[if_neg (by grind [kO])]
   exact hk c _ _ hE hs g (he.put hdo (.v _)) h2
theorem pO{S:Nat→(EF→Heap→Prop)→EF→Heap→Prop}{E:Array Bool→Prop}{Q:EF→Heap→Prop}{Q' :Exit→Act→World→Prop}{T:Array Bool→Cx→EF→Heap→Act→Prop}{m:Nat}
  (hst:∀listed i K c F h a (K' :Act→World→Prop),T listed c F h a→i∈Region.ready md ops listed→S i K F h→(∀c F h a,T (listed.setIfInBounds i true) c F h a→K F h→K' a c.w)→wpOp P ops Q' i K' a c.w)
  (h0:∀listed c F h a,T listed c F h a→E listed→Q F h→wpAny P md ops Q' m listed a c.w):∀(fuel:Nat) (listed:Array Bool) (c:Cx) (F:EF) (h:Heap) (a:Act),T listed c F h a→su md ops S E Q fuel listed F h→wpAny P md ops Q' (m+fuel) listed a c.w
 |0,listed,c,F,h,a,ht,hd=>h0 _ _ _ _ _ ht hd.1 hd.2
 |fuel+1,listed,c,F,h,a,ht,hd=>⟨fun e=>absurd e hd.1,fun i hi=>hst _ _ _ _ _ _ _ _ ht hi (hd.2 i hi) fun c F h a ht hk=>pO hst h0 fuel _ c F h a ht hk⟩
theorem yx{n m:Nat}{Q:EF→Heap→Prop}{Q' :Exit→Act→World→Prop}(hdst:∀o∈ops.toList,eY n o.dst=true)
  (h0:∀listed c F g a,Ext c0 c→Sub h c.h→Good c→mW c n F a→E listed→Q F g→wpAny P md ops Q' m listed a c.w) (fuel:Nat) (listed:Array Bool) (c:Cx) (F:EF) (g:Heap) (a:Act) (h1:Ext c0 c) (h2:Sub h c.h) (h3:Good c) (h4:mW c n F a)
  (hd:su md ops (dS P ops h) E Q fuel listed F g):wpAny P md ops Q' (m+fuel) listed a c.w:=
 pO (T:=fun _ c F _ a=>Ext c0 c∧Sub h c.h∧Good c∧mW c n F a) (fun _ _ _ _ _ _ _ _ ⟨h1,h2,h3,h4⟩ _ hd hk=>Jg hdst (fun c F a k1 k2 k3 k4 hK=>hk c F _ a ⟨k1,k2,k3,k4⟩ hK) h1 h2 h3 h4 hd)
  (fun listed c F g a ⟨k1,k2,k3,k4⟩ he hq=>h0 listed c F g a k1 k2 k3 k4 he hq) fuel listed c F g a ⟨h1,h2,h3,h4⟩ hd
end
section
variable {c c0:Cx}{F F':EF}{j m:Nat}{oi:Oper}{E:Array Bool→Prop}
variable {P : Program} {U : TypeId → TI} {ops : Array Oper} {md : Region.Mode} {hm : Heap}
def dJ:Op→Bool
 |.call c=>match c.callee with
  |.value _=>true
  |.builtin .append=>true
  |.builtin .copy=>true
  |_=>false
 |.alloc _=>true
 |.box _ _=>true
 |.store _ _ _=>true
 |.makeSlice _ _ _=>true
 |.makeMap _ _=>true
 |.mapUpdate _ _ _ _=>true
 |_=>false
def DPure(P:Program)(o:Oper)(F:EF)(hm:Heap)(X:AV):Prop:=
 ∀(c:Cx) (a:Act),Sub hm c.h→Good c→a.defers= []→(∀t∈fm o.op,∀x,F t=some x→Rep c x (a.tmps.getD t undef))→
  ∃u c',(execOp a.eval o).run P c.w= .ok (.value u) c'.w∧Good c'∧Ext c c'∧c'.h=c.h∧Rep c' X u
def EOK(P:Program)(o:Oper)(F:EF)(h:Heap)(Q:AV→Heap→Prop):Prop:=
 ∀(c:Cx) (a:Act),Sub h c.h→Good c→a.defers= []→(∀t∈fm o.op,∀x,F t=some x→Rep c x (a.tmps.getD t undef))→mw P c Q ((execOp a.eval o).run P c.w)
theorem tW{a:Act}{ρ:Env}{o:Oper}(hd:a.defers= [])(hr:∀t∈fm o.op,∀x,lk ρ t=some x→Rep c x (a.tmps.getD t undef)):cu c a.tmps.size (restrict ρ (fm o.op)) a:=
 ⟨rfl,hd,fun t x hx=>by
  rw[lU]at hx;split at hx
  ·rename_i hc
   exact hr t ad4 x hx
  ·cases hx⟩
theorem wC(ρ:Env)(o:Oper):∀x∈o.op.operands,ev (restrict ρ (fm o.op)) x=ev ρ x:=fun x hx=>DI fun t ht=>by exact ajA
theorem GN{ρ:Env}{o:Oper}{Q:AV→Prop}(hU:∀t,aP P U t)(hp:pv U ρ hm o.op Q):∃X,Q X∧DPure P o (lk ρ) hm X:=by rw[←EK (wC ρ o)]at hp;obtain⟨X,hQ,hX⟩:=zE hU hp;exact⟨X,hQ,fun c a hs g hd hr=>hX c a _ hs g (tW hd hr)⟩
theorem Fl{ρ ρ' :Env}{h:Heap}{o:Oper}{Q:AV→Heap→Prop}(hb:dJ o.op=true)(he:∀x∈o.op.operands,ev ρ x=ev ρ' x):bg P U ρ h o Q=bg P U ρ' h o Q:=by
 obtain⟨d,op,t,p,a,g⟩:=o;simp only at hb he;cases op with
 |alloc t=>rfl
 |box t x=>simp only[bg,withv,he x afp]
 |store t a x=>simp only[bg,withv,he a afp,he x afp]
 |makeSlice t l m=>simp only[bg,withv,he l afp,he m afp]
 |makeMap t r=>
  cases r with
  |none=>rfl
  |some x=>simp only[bg,IF,withv,he x afp]
 |mapUpdate t x y z=>simp only[bg,withv,he x afp,he y afp,he z afp]
 |call c=>
  obtain⟨cal,args,ts⟩:=c;have ha:∀x∈args.toList,ev ρ x=ev ρ' x:=fun x hx=>he x (by simp only[Op.operands,Call.operands,Array.mem_append];exact .inr (by simpa using hx))
  cases cal with
  |value q=>simp only[bg,withv,withvs,he q (by simp[Op.operands,Call.operands]),mN ha]
  |builtin b=>
   cases b with
   |append=>exact ajn
   |copy=>exact ajn
   |_=>simp[dJ]at hb
  |_=>simp[dJ]at hb
 |_=>simp[dJ]at hb
def vcE(P:Program)(U:TypeId→TI)(ρ:Env)(h:Heap)(o:Oper)(Q:AV→Heap→Prop):Prop:=bg P U ρ h o Q
theorem BX{ρ:Env}{h:Heap}{o:Oper}{Q:AV→Heap→Prop}(hU:∀t,aP P U t)(hb:dJ o.op=true)(hk:vcE P U ρ h o Q):EOK P o (lk ρ) h Q:=by intro c a hs g hd hr;unfold vcE at hk;rw[←Fl hb (wC ρ o)]at hk;exact nD hU hk hs g (tW hd hr)
def DQ(P:Program)(o:Oper)(F:EF)(hm:Heap)(X:AV):Prop:=∀h,Sub hm h→EOK P o F h fun x h' =>x=X∧h' =h
theorem DPure.quiet{o:Oper}{X:AV}(hp:DPure P o F hm X):DQ P o F hm X:=by
 intro h hs c a hc g hd hr;obtain⟨u,c',e1,g',hE,e2,hr'⟩:=hp c a (fun i b hb=>hc i b (hs i b hb)) g hd hr
 rw[e1];exact⟨c',X,h,rfl,g',hE,hr',ad4,rfl,rfl⟩
def FnQ(P:Program)(f:FuncId)(args:List AV)(hm:Heap)(k:AV→Prop):Prop:=∃X,(∀h,Sub hm h→ai P f args h fun x h' =>x=X∧h' =h)∧k X
def vcQ(P:Program)(U:TypeId→TI)(ρ:Env)(hm:Heap)(o:Oper)(k:AV→Prop):Prop:=match o.op with
 |.call c=>match c.callee with
  |.value q=>withv ρ q fun y=>match y with
   |.fn f cap=>withvs ρ c.args.toList fun ys=>FnQ P f (ys++cap) hm k
   |_=>False
  |_=>False
 |_=>False
theorem KW{ρ:Env}{o:Oper}{k:AV→Prop}(hU:∀t,aP P U t)(hk:vcQ P U ρ hm o k):∃X,k X∧DQ P o (lk ρ) hm X:=by
 obtain⟨d,op,t,p,a,g⟩:=o;unfold vcQ at hk;simp only at hk;split at hk
 ·rename_i cl
  obtain⟨cal,args,ts⟩:=cl;simp only at hk;split at hk
  ·rename_i q
   obtain⟨y,hy,hk⟩:=aJ hk;split at hk
   ·rename_i f cap
    obtain⟨ys,hys,X,hf,hQ⟩:=fB hk;refine⟨X,hQ,fun h hs=>BX hU rfl ?_⟩
    grind [vcE,bg,withv,withvs]
   grind
  grind
 grind
def wH(P:Program)(ops:Array Oper)(hm:Heap)(o:Oper)(K:EF→Heap→Prop)(F:EF)(h:Heap):Prop:=
 (cL ops F o=some true∧(dJ o.op=true∧(∃Q:AV→Heap→Prop,EOK P o F h Q∧∀X h',Q X h'→Sub hm h'∧K (ic F o.dst X) h')∨∃X,DQ P o F hm X∧K (ic F o.dst X) h))∨
 (cL ops F o=some false∧K (ic F o.dst (.v undef)) h)
def hOp(P:Program)(ops:Array Oper)(hm:Heap)(i:Nat)(K:EF→Heap→Prop)(F:EF)(h:Heap):Prop:=
 match ops[i]? with
 |none=>K F h
 |some o=>wH P ops hm o K F h
theorem Ge{o:Oper}{h:Heap}{K K' :EF→Heap→Prop}(hk:∀F h,K F h→K' F h)(hs:wH P ops hm o K F h):wH P ops hm o K' F h:=by
 rcases hs with⟨h1,⟨h2,Q,h3,h4⟩|⟨X,h3,h4⟩⟩|⟨h1,h2⟩
 ·exact .inl ⟨h1,.inl ⟨h2,Q,h3,fun X h' hq=>⟨(h4 X h' hq).1,hk _ _ (h4 X h' hq).2⟩⟩⟩
 ·exact .inl ⟨h1,.inr ⟨X,h3,hk _ _ h4⟩⟩
 ·exact .inr ⟨h1,hk _ _ h2⟩
theorem lR{i:Nat}{h:Heap}{K K' :EF→Heap→Prop}(hk:∀F h,K F h→K' F h)(hs:hOp P ops hm i K F h):hOp P ops hm i K' F h:=by grind [hOp,Ge]
def YP(P:Program)(ops:Array Oper)(hm:Heap)(o:Oper)(X:AV)(F:EF):Prop:=
 (cL ops F o=some true∧DQ P o F hm X)∨(cL ops F o=some false∧X= .v undef)
theorem DZ{o:Oper}{X:AV}{h:Heap}{K:EF→Heap→Prop}(hy:YP P ops hm o X F)(hk:K (ic F o.dst X) h):wH P ops hm o K F h:=by
 rcases hy with⟨h1,h3⟩|⟨h1,rfl⟩
 ·exact .inl ⟨h1,.inr ⟨X,h3,hk⟩⟩
 ·exact .inr ⟨h1,hk⟩
theorem C6{o:Oper}{h:Heap}{K:EF→Heap→Prop}(he:dJ o.op=false)(hs:wH P ops hm o K F h):∃X,YP P ops hm o X F∧K (ic F o.dst X) h:=by
 rcases hs with⟨h1,⟨h2,_⟩|⟨X,h3,h4⟩⟩|⟨h1,h2⟩
 ·grind
 ·exact⟨X,.inl ⟨h1,h3⟩,h4⟩
 ·exact⟨_,.inr ⟨h1,rfl⟩,h2⟩
theorem Qi{o:Oper}{X:AV}(hf:∀t∈fm o.op,F t=F' t)(hd:DPure P o F hm X):DPure P o F' hm X:=
 fun c a hs g hdf hr=>hd c a hs g hdf fun t ht x hx=>hr t ht x ad4
theorem AQ{o:Oper}{h:Heap}{Q:AV→Heap→Prop}(hf:∀t∈fm o.op,F t=F' t)(hd:EOK P o F h Q):EOK P o F' h Q:=
 fun c a hs g hdf hr=>hd c a hs g hdf fun t ht x hx=>hr t ht x ad4
theorem CZ{o:Oper}{X:AV}(hf:∀t∈fm o.op,F t=F' t)(hd:DQ P o F hm X):DQ P o F' hm X:=fun h hs=>AQ hf (hd h hs)
theorem xZ{o:Oper}{X:AV}(hf:∀t∈o.looksAt ops,F t=F' t)(hy:YP P ops hm o X F):YP P ops hm o X F' :=by
 rcases hy with⟨h1,h2⟩|⟨h1,h2⟩
 ·exact .inl ⟨ahl,CZ (by grind [lX]) h2⟩
 ·exact .inr ⟨ahl,h2⟩
theorem OZ{hm hm' :Heap}{oj:Oper}{X:AV}(hj:ops[j]? =some oj)(hap:oi.apart ops oj=true){K:EF→Heap→Prop}{h:Heap}
  (hy:YP P ops hm' oi X F) (hs:hOp P ops hm j K (ic F oi.dst X) h):hOp P ops hm j (fun F' h' =>YP P ops hm' oi X F'∧K (ic F' oi.dst X) h') F h:=by
 obtain⟨h1,h2,h3⟩:=Oper.apart_spec hap;unfold hOp at*;simp only[hj]at*;have hlook:∀t∈oj.looksAt ops,ic F oi.dst X t=F t:=fun t ht=>qi fun e he hte=>h1 e he (hte▸ht)
 have hlook2:∀u,∀t∈oi.looksAt ops,F t=ic F oj.dst u t:=fun u t ht=>(qi fun e he hte=>h3 e he (hte▸ht)).symm
 rcases hs with⟨w1,⟨w0,Q,w2,w3⟩|⟨Y,w2,w3⟩⟩|⟨w1,w2⟩
 ·refine .inl ⟨ahl,.inl ⟨w0,Q,AQ (by grind [lX]) w2,fun Y h' hq=>⟨(w3 Y h' hq).1,xZ (hlook2 Y) hy,?_⟩⟩⟩
  rw[←mT F X Y h2];exact(w3 Y h' hq).2
 ·refine .inl ⟨ahl,.inr ⟨Y,CZ (by grind [lX]) w2,xZ (hlook2 Y) hy,?_⟩⟩
  rw[←mT F X Y h2];exact w3
 ·refine .inr ⟨ahl,xZ (hlook2 _) hy,?_⟩
  rw[←mT F X _ h2];exact w2
theorem JQ{i:Nat}{X:AV}{h:Heap}{K:EF→Heap→Prop}(hi:ops[i]? =some oi)(hy:YP P ops hm oi X F)(hk:K (ic F oi.dst X) h):hOp P ops hm i K F h:=by grind [hOp,DZ]
def hS(P:Program)(ops:Array Oper)(H:Nat→Heap)(i:Nat)(K:EF→Heap→Prop)(F:EF)(h:Heap):Prop:=hOp P ops (H i) i K F h
theorem VA{H:Nat→Heap}:Sys ops (hS P ops H) fun i X F=>∃oi,ops[i]? =some oi∧YP P ops (H i) oi X F where
 mono hk hs:=lR hk hs
 of hi:=fun⟨o,ho,hy⟩ hk=>by rw[hi]at ho;cases ho;exact JQ hi hy hk
 put hi hj ha:=fun⟨o,ho,hy⟩ hs=>by
  rw[hi]at ho;cases ho
  exact lR (fun F' h' ⟨a,b⟩=>⟨⟨_,hi,a⟩,b⟩) (OZ hj ha hy hs)
def oC(md:Region.Mode)(ops:Array Oper):List Nat→Array Bool→Bool
 | [],_=>true
 |k::ks,listed=>(match ops[k]? with
  |some o=>if dJ o.op then Region.ready md ops listed== [k]else(Region.ready md ops listed).contains k && Region.free md ops listed k
  |none=>false) && oC md ops ks (listed.setIfInBounds k true)
def fQ:List Nat→Array Bool→Array Bool
 | [],l=>l
 |k::ks,l=>fQ ks (l.setIfInBounds k true)
def nh(P:Program)(ops:Array Oper)(H:Nat→Heap)(Q:EF→Heap→Prop):List Nat→EF→Heap→Prop
 | [],F,h=>Q F h
 |i::r,F,h=>hOp P ops (H i) i (nh P ops H Q r) F h
theorem jN{H:Nat→Heap}{E:Array Bool→Prop}{Q:EF→Heap→Prop}(m:Nat):∀(l:List Nat) (listed:Array Bool) (F:EF) (h:Heap),(∀i∈l,Ends md ops E i)→Closed md ops listed→
  oC md ops l listed=true→nh P ops H (fun F h=>su md ops (hS P ops H) E Q m (fQ l listed) F h) l F h→su md ops (hS P ops H) E Q (m+l.length) listed F h
 | [],_,_,_,_,_,_,hd=>hd
 |k::l,listed,F,h,hE,hcl,hB,hd=>by
  simp only[oC,Bool.and_eq_true]at hB;obtain⟨hB,hB'⟩:=hB;have hE' :∀i∈l,Ends md ops E i:=fun i hi=>hE i (List.mem_cons_of_mem _ hi)
  cases h0:ops[k]? with
  |none=>grind
  |some o=>
   rw[h0]at hB;simp only at hB;cases he:dJ o.op with
   |true=>
    refine⟨fun e=>ad4,fun j hj=>?_⟩
    obtain rfl:j=k:=ad4;exact lR (fun F' h' hh=>jN m l _ F' h' hE' (hcl.set ad4) hB' hh) hd
   |false=>
    rw[he,if_neg aea,Bool.and_eq_true]at hB;have hd:wH P ops (H k) o (nh P ops H (fun F h=>su md ops (hS P ops H) E Q m (fQ (k::l) listed) F h) l) F h:=by grind [hOp,nh]
    obtain⟨X,hy,hK⟩:=C6 he hd;have hin:k∈Region.ready md ops listed:=ad4;exact VA.first h0 (hE k (List.mem_cons_self ..)) (m+l.length) listed F h hcl hB.2 hin ⟨o,h0,hy⟩ (jN m l _ _ _ hE' (hcl.set hin) hB' hK)
theorem jC{H:Nat→Heap}{Q Q' :EF→Heap→Prop}(hk:∀F h,Q F h→Q' F h):∀(l:List Nat) (F:EF) (h:Heap),nh P ops H Q l F h→nh P ops H Q' l F h
 | [],F,h,hh=>hk F h hh
 |_::l,_,_,hh=>lR (fun F h hh=>jC hk l F h hh) hh
inductive Ord where
 |seq (l:List Nat)
 |fork (l:List Nat) (i:Nat) (a:Ord) (j:Nat) (b:Ord)
 |quiet (l:List Nat) (i:Nat) (t:Ord)
 |news (l:List Nat) (is:List Nat) (t:Ord)
def zz(md:Region.Mode)(ops:Array Oper):Nat→List Nat→Array Bool→Bool
 |0,l,_=>l.isEmpty
 |fuel+1,l,listed=>l.isEmpty||(!(Region.ready md ops listed).isEmpty && (Region.ready md ops listed).all fun i=>l.contains i && zz md ops fuel (l.erase i) (listed.setIfInBounds i true))
def QM(o:Oper):Bool:=o.guard.isNone && o.dst.isSome && match o.op with
 |.alloc _=>true
 |_=>false
def MQ(md:Region.Mode)(ops:Array Oper)(is:List Nat)(listed:Array Bool):Bool:=
 zz md ops is.length is listed && decide is.Nodup && decide (is.map fun i=>(ops[i]?).bind (·.dst)).Nodup && is.all fun i=>((ops[i]?).map QM).getD false
def Ord.len:Ord→Nat
 |.seq l=>l.length
 |.fork l _ a _ _=>a.len+1+l.length
 |.quiet l _ t=>t.len+1+l.length
 |.news l is t=>t.len+is.length+l.length
def kC(md:Region.Mode)(ops:Array Oper)(z:Option Nat):Ord→Array Bool→Bool
 |.seq l,listed=>oC md ops l listed && FY md ops z (fQ l listed)
 |.fork l i a j b,listed=>oC md ops l listed && (Region.ready md ops (fQ l listed)== [i,j]) && (a.len==b.len) &&
  (kC md ops z a ((fQ l listed).setIfInBounds i true) && kC md ops z b ((fQ l listed).setIfInBounds j true))
 |.quiet l i t,listed=>oC md ops l listed && (((Region.ready md ops (fQ l listed)).contains i && Region.free md ops (fQ l listed) i) && kC md ops z t ((fQ l listed).setIfInBounds i true))
 |.news l is t,listed=>oC md ops l listed && (MQ md ops is (fQ l listed) && kC md ops z t (fQ is (fQ l listed)))
theorem ji:∀(l:List Nat) (listed:Array Bool),Closed md ops listed→oC md ops l listed=true→Closed md ops (fQ l listed)
 | [],_,hc,_=>hc
 |k::l,listed,hc,hB=>by
  simp only[oC,Bool.and_eq_true]at hB;obtain⟨hB,hB'⟩:=hB;refine ji l _ (hc.set ?_) hB'
  grind
theorem vo{n:Nat}{i:Nat}{K:EF→Heap→Prop}{K' :Act→World→Prop}{Q:Exit→Act→World→Prop}(hdst:∀o∈ops.toList,eY n o.dst=true)
  (hk:∀c F h a,Ext c0 c→Sub h c.h→Sub hm c.h→Good c→mW c n F a→K F h→K' a c.w)   {h:Heap} {a:Act} (hE:Ext c0 c) (hs:Sub h c.h) (hs' :Sub hm c.h) (g:Good c) (he:mW c n F a) (hd:hOp P ops hm i K F h):wpOp P ops Q i K' a c.w:=by
 unfold hOp at hd;unfold wpOp;split
 ·rename_i ho;simp only[ho]at hd;exact hk c F h a hE hs hs' g he hd
 ·rename_i o ho
  simp only[ho]at hd;have hdo:eY n o.dst=true:=ad4;have main:∀ {h0:Heap} {R:AV→Heap→Prop},Sub h0 c.h→EOK P o F h0 R→(∀c' x h',Good c'→Ext c c'→Sub h' c'.h→R x h'→∀u,Rep c' x u→K' (a.put o.dst u) c'.w)→Oper.wp P o a c.w K' Q:=by
   intro h0 R hs h2 next';have hu:=h2 c a hs g he.2.1 (fun t _ x hx=>he.2.2 t x hx)
   have next:∀u w',fh c R u w'→K' (a.put o.dst u) w' :=by
    rintro u w' ⟨c',x,h',rfl,g',hE',hr,hs2,hR⟩
    exact next' c' x h' g' hE' hs2 hR u hr
   unfold Oper.wp;generalize (execOp a.eval o).run P c.w=r at hu;cases r with
   |ok nx w' =>exact ait
   |halt x w' =>exact hu.elim
  rcases hd with⟨h1,⟨h0,R,h2,h3⟩|⟨X,h2,h3⟩⟩|⟨h1,h2⟩
  ·rw[if_pos (kO he h1)]
   left
   refine main hs h2 fun c' x h' g' hE' hs2 hR u hr=>?_
   obtain⟨k1,k2⟩:=h3 x h' hR;exact hk c' _ h' _ (hE.trans hE') hs2 (fun j b hj=>hs2 _ _ (k1 _ _ hj)) g' ((he.mono hE').put hdo hr) k2
  ·rw[if_pos (kO he h1)]
   left
   refine main (fun _ _ e=>e) (h2 c.h hs') fun c' x h' g' hE' hs2 hR u hr=>?_
   obtain⟨rfl,rfl⟩:=hR;exact hk c' _ h _ (hE.trans hE') (fun j b hj=>hs2 _ _ (hs _ _ hj)) (fun j b hj=>hs2 _ _ (hs' _ _ hj)) g' ((he.mono hE').put hdo hr) h3
  ·rw[if_neg (by grind [kO])]
   exact hk c _ h _ hE hs hs' g (he.put hdo (.v _)) h2
theorem pQ{n:Nat}{Q:EF→Heap→Prop}{Q' :Exit→Act→World→Prop}(hdst:∀o∈ops.toList,eY n o.dst=true)
  (h0:∀listed c F h a,Ext c0 c→Sub h c.h→Good c→mW c n F a→E listed→Q F h→wpAny P md ops Q' m listed a c.w) (fuel:Nat) (listed:Array Bool) (c:Cx) (F:EF) (h:Heap) (a:Act) (h1:Ext c0 c) (h2:Sub h c.h) (h2' :Sub hm c.h) (h3:Good c) (h4:mW c n F a)
  (hd:su md ops (hS P ops fun _=>hm) E Q fuel listed F h):wpAny P md ops Q' (m+fuel) listed a c.w:=
 pO (T:=fun _ c F h a=>Ext c0 c∧Sub h c.h∧Sub hm c.h∧Good c∧mW c n F a) (fun _ _ _ _ _ _ _ _ ⟨h1,h2,h2',h3,h4⟩ _ hd hk=>vo hdst (fun c F h a k1 k2 k2' k3 k4 hK=>hk c F h a ⟨k1,k2,k2',k3,k4⟩ hK) h1 h2 h2' h3 h4 hd)
  (fun listed c F h a ⟨k1,k2,_,k3,k4⟩ he hq=>h0 listed c F h a k1 k2 k3 k4 he hq) fuel listed c F h a ⟨h1,h2,h2',h3,h4⟩ hd
def HH(md:Region.Mode)(ops:Array Oper)(l:List Nat):Bool:=(List.range ops.size).all fun j=>l.contains j||l.all fun k=>(jZ md ops (jZ md ops (jZ md ops [j]))).contains k
theorem FE{l:List Nat}(hb:HH md ops l=true){listed:Array Bool}(hc:Closed md ops listed)(hj:j∈Region.ready md ops listed)(hl:j∉l):∀k∈l,listed.getD k false=true:=by
 intro k hk;obtain⟨hun,oj,hoj,_⟩:=mem_ready.1 hj;unfold HH at hb;rw[List.all_eq_true]at hb;have hm:=hb j ad4;rw[Bool.or_eq_true,List.contains_iff_mem]at hm;rcases hm with hm|hm
 ·exact(hl hm).elim
 ·have s0:∀k∈ [j],k≠j→listed.getD k false=true:=fun k hk hn=>absurd (by simpa using hk) hn
  have s3:=fk hc hj (fk hc hj (fk hc hj s0));rw[List.all_eq_true]at hm;have:=hm k hk;rw[List.contains_iff_mem]at this;exact s3 k this fun e=>hl (e▸hk)
theorem L0{fin:Array Bool}{l:List Nat}(hb:HH md ops l=true)(hfin:∀j∈l,fin.getD j false=true):∀i∈l,Ends md ops (· =fin) i:=fun i hil listed hcl hr he j hj=>by
 by_cases hji:j=i
 ·exact hji
 exfalso
 have hiu:=(mem_ready.1 hr).1;have hju:=(mem_ready.1 hj).1
 by_cases hjl:j∈l
 ·have h1:=hfin j hjl
  rw[←he,getD_set_ne false (Ne.symm hji)]at h1;rcases Nat.lt_or_ge j listed.size with h' |h'
  ·simp[h']at h1 hju;rw[hju]at h1;cases h1
  ·simp[Array.getElem?_eq_none h']at h1
 ·have h1:=FE hb hcl hj hjl i hil
  rcases Nat.lt_or_ge i listed.size with h' |h'
  ·simp[h']at h1 hiu;rw[hiu]at h1;cases h1
  ·simp[Array.getElem?_eq_none h']at h1
def xS(md:Region.Mode)(ops:Array Oper)(l1 l2:List Nat):Bool:=
 oC md ops l1 (Array.replicate ops.size false) && HH md ops l1 && (l1.all fun j=>(fQ l1 (Array.replicate ops.size false)).getD j false) && kC md ops none (.seq l2) (fQ l1 (Array.replicate ops.size false)) && (l2.length+l1.length==ops.size)
def Fj(P:Program)(U:TypeId→TI)(hm:Heap)(o:Oper)(ρ:Env)(h:Heap)(K:AV→Heap→Prop):Prop:=
 if dJ o.op then vcE P U ρ h o (fun X h' =>Sub hm h'∧K X h')else pv U ρ hm o.op (fun X=>K X h)
def eu(P:Program)(U:TypeId→TI)(n:Nat)(all:List Oper)(hm:Heap):List Nat→Env→Heap→(Env→Heap→Prop)→Prop
 | [],ρ,h,K=>K ρ h
 |i::is,ρ,h,K=>match all[i]? with
  |none=>False
  |some o=>j8 all ρ o.guard (fun ρ=>Fj P U hm o ρ h fun X h' =>eu P U n all hm is (put ρ o.dst X) h' K) (fun ρ=>eu P U n all hm is (put ρ o.dst (.v undef)) h K)
theorem Bq{ρ:Env}{d:Nat}{x:AV}(hd:lk ρ d=some x):lk ((d,x)::ρ)=lk ρ:=by grind [lk]
theorem dV{n:Nat}(hU:∀t,aP P U t){all:List Oper}{K:Env→Heap→Prop}:∀(l:List Nat) (ρ:Env) (h:Heap),eu P U n all hm l ρ h K→nh P all.toArray (fun _=>hm) (fun F h=>∃ρ,lk ρ=F∧K ρ h) l (lk ρ) h
 | [],ρ,h,hk=>⟨ρ,rfl,hk⟩
 |i::is,ρ,h,hk=>by
  simp only[eu]at hk
  show hOp _ _ _ _ _ _ _
  unfold hOp;have e0:(all.toArray)[i]? =all[i]? :=aea;rw[e0];cases hi:all[i]? with
  |none=>rw[hi]at hk;exact hk.elim
  |some o=>
   rw[hi]at hk;simp only at hk⊢;have yes:∀ρ',cL all.toArray (lk ρ) o=some true→lk ρ' =lk ρ→Fj P U hm o ρ' h (fun X h' =>eu P U n all hm is (put ρ' o.dst X) h' K)→wH P all.toArray hm o (nh P all.toArray (fun _=>hm) (fun F h=>∃ρ,lk ρ=F∧K ρ h) is) (lk ρ) h:=by
    intro ρ' hw hl hv;unfold Fj at hv;cases he:dJ o.op with
    |true=>
     rw[he,if_pos rfl]at hv;have:=BX hU he hv;rw[hl]at this;refine .inl ⟨hw,.inl ⟨he,_,this,fun X h' hq=>⟨hq.1,?_⟩⟩⟩
     have:=dV hU is _ _ hq.2;rw[sY,hl]at this;exact aeE
    |false=>rw[he,if_neg aea]at hv;obtain⟨X,hQ,hX⟩:=GN hU hv;rw[hl]at hX;refine .inl ⟨hw,.inr ⟨X,hX.quiet,?_⟩⟩;have:=dV hU is _ _ hQ;rw[sY,hl]at this;exact aeE
   have no:∀ρ',cL all.toArray (lk ρ) o=some false→lk ρ' =lk ρ→eu P U n all hm is (put ρ' o.dst (.v undef)) h K→wH P all.toArray hm o (nh P all.toArray (fun _=>hm) (fun F h=>∃ρ,lk ρ=F∧K ρ h) is) (lk ρ) h:=by intro ρ' hw hl hv;have:=dV hU is _ _ hv;rw[sY,hl]at this;exact .inr ⟨hw,this⟩
   unfold j8 at hk;split at hk
   ·rename_i hg
    exact yes ρ (by grind [cL]) rfl hk
   ·rename_i g want hg
    split at hk
    ·rename_i d hd'
     have hd2:((all.toArray)[g]?).bind (·.dst)=some d:=by grind [qx]
     split at hk
     ·rename_i t ht
      have hw:cL all.toArray (lk ρ) o=some (t==want):=by grind [cL]
      by_cases e:t=want
      ·exact yes _ ad4 (by grind [Bq]) (hk.1 e)
      ·have e' :t= !want:=by cases t<;>cases want<;>simp_all
       exact no _ ad4 (by grind [Bq]) (hk.2 e')
     ·rename_i vs ht
      refine no ρ ?_ rfl hk
      grind [cL]
     ·exact aeq
    ·exact aeq
def GA(U:TypeId→TI):Op→Option Blk
 |.alloc t=>some (if isUnit (U t).k then .obj [] t else .obj (U t).zero.cells t)
 |_=>none
def zO(U:TypeId→TI):Op→Prop
 |.alloc t=>isUnit (U t).k=true∨(U t).sz≠0∧fit (U t).zero (U t).sz
 |_=>False
def mM(U:TypeId→TI)(all:List Oper):List Nat→Prop
 | []=>True
 |i::is=>(match all[i]? with
  |none=>False
  |some o=>zO U o.op)∧mM U all is
def sH(P:Program)(U:TypeId→TI)(all:List Oper):List Nat→Env→Heap→(Env→Heap→Prop)→Prop
 | [],ρ,h,K=>K ρ h
 |i::is,ρ,h,K=>match all[i]? with
  |none=>False
  |some o=>bg P U ρ h o fun X h' =>sH P U all is (put ρ o.dst X) h' K
theorem Fm{ρ:Env}{h:Heap}{o:Oper}{Q:AV→Heap→Prop}{B:Blk}(hB:GA U o.op=some B)(hs:zO U o.op):bg P U ρ h o Q↔∀id,h id=none→Q (.ptr id 0) (upd h id (some B)):=by
 obtain⟨d,op,t,p,a,g⟩:=o;cases op with
 |alloc ty=>
  simp only[GA,Option.some.injEq]at hB;simp only[zO]at hs;simp only[bg]
  grind
 |_=>grind [GA]
def jP(U:TypeId→TI)(ops:Array Oper)(ids:Nat→Nat)(s:EF×Heap)(i:Nat):EF×Heap:=match ops[i]? with
 |some o=>(ic s.1 o.dst (.ptr (ids i) 0),upd s.2 (ids i) (GA U o.op))
 |none=>s
def Fresh(h:Heap)(is:List Nat)(ids:Nat→Nat):Prop:=(∀i∈is,h (ids i)=none)∧(is.map ids).Nodup
theorem wY{l l' :List Nat}(hp:l.Perm l')(listed:Array Bool):fQ l listed=fQ l' listed:=by
 have e:∀(l:List Nat) (x:Array Bool),fQ l x=l.foldl (fun x k=>x.setIfInBounds k true) x:=fun l=>by
  induction l with
  |nil=>intro x;rfl
  |cons k l ih=>intro x;exact ih _
 rw[e,e];refine hp.foldl_eq' (fun x _ y _ z=>?_) listed
 grind
theorem GC{ids:Nat→Nat}{is:List Nat}(hd:(is.map fun i=>(ops[i]?).bind (·.dst)).Nodup)(hs:∀i∈is,∃o d,ops[i]? =some o∧o.dst=some d)(hi:(is.map ids).Nodup):
  ∀x∈is,∀y∈is,∀z,jP U ops ids (jP U ops ids z x) y=jP U ops ids (jP U ops ids z y) x:=by
 have inj:∀ {α:Type} {f:Nat→α} {l:List Nat},(l.map f).Nodup→∀x∈l,∀y∈l,f x=f y→x=y:=by
  intro α f l
  induction l with
  |nil=>simp
  |cons k l ih=>grind
 intro x hx y hy z
 by_cases e:x=y
 ·grind
 obtain⟨ox,dx,hox,hdx⟩:=hs x hx;obtain⟨oy,dy,hoy,hdy⟩:=hs y hy;simp only[jP,hox,hoy];rw[mT z.1 _ _ ad4]
 congr 1
 grind [upd]
theorem JP{Q:EF→Heap→Prop}:∀(fuel:Nat) (is:List Nat) (listed:Array Bool) (F:EF) (h:Heap),Closed md ops listed→zz md ops fuel is listed=true→Sub hm h→is.Nodup→
  (is.map fun i=>(ops[i]?).bind (·.dst)).Nodup→
  (∀i∈is,∃o d B,ops[i]? =some o∧o.guard=none∧o.dst=some d∧dJ o.op=true∧GA U o.op=some B∧∀F h,EOK P o F h fun X h' =>∃id,h id=none∧X= .ptr id 0∧h' =upd h id (some B))→
  (Closed md ops (fQ is listed)→∀ids,Fresh h is ids→su md ops (hS P ops fun _=>hm) E Q m (fQ is listed) (is.foldl (jP U ops ids) (F,h)).1 (is.foldl (jP U ops ids) (F,h)).2)→su md ops (hS P ops fun _=>hm) E Q (m+is.length) listed F h:=by
 intro fuel
 induction fuel with
 |zero=>
  intro is listed F h hcl hp _ _ _ _ H;have:is= []:=by simpa[zz]using hp
  subst this;exact H hcl id ⟨aea,aea⟩
 |succ fuel ih=>
  intro is listed F h hcl hp hs hn hdn ho H;simp only[zz,Bool.or_eq_true,List.isEmpty_iff,Bool.and_eq_true,Bool.not_eq_true',List.all_eq_true]at hp;rcases hp with rfl|⟨hp1,hp2⟩
  ·exact H hcl id ⟨aea,aea⟩
  have hne:Region.ready md ops listed≠ []:=fun e=>by rw[e]at hp1;simp at hp1
  obtain⟨i0,hi0⟩:=List.exists_mem_of_ne_nil _ hne;have hl0:m+is.length=(m+(is.length - 1))+1:=by
   have:=List.length_pos_of_mem (show i0∈is by simpa using(hp2 i0 hi0).1)
   omega
  rw[hl0];refine⟨fun e=>absurd e hne,fun i hi=>?_⟩
  obtain⟨h1,h2⟩:=hp2 i hi;have h1:i∈is:=by simpa using h1
  obtain⟨o,d,B,e1,e2,e3,e4,e5,e6⟩:=ho i h1;have hpm:=List.perm_cons_erase h1;unfold hS hOp;simp only[e1];refine .inl ⟨by simp[cL,e2],.inl ⟨e4,_,e6 F h,?_⟩⟩
  rintro X h' ⟨id,hid,rfl,rfl⟩
  have hs' :Sub hm (upd h id (some B)):=fun j b hj=>by
   have:=hs j b hj;simp only[upd]
   by_cases e:j=id
   ·subst e;rw[hid]at this;cases this
   ·simp[e,this]
  refine⟨hs',?_⟩;have hle:(is.length - 1)=(is.erase i).length:=(List.length_erase_of_mem h1).symm;rw[hle];have hni:i∉is.erase i:=fun hm=>by have:=hpm.nodup_iff.1 hn;exact(List.nodup_cons.1 this).1 hm
  refine ih (is.erase i) _ _ _ (hcl.set hi) h2 hs' (hn.erase i) (((hpm.map _).nodup_iff.1 hdn).of_cons) (fun j hj=>ho j (List.mem_of_mem_erase hj)) fun hcl2 ids hf=>?_
  have hmem:∀j∈is.erase i,j≠i:=fun j hj e=>hni (e▸hj)
  let ids' :Nat→Nat:=fun j=>if j=i then id else ids j
  have hids:∀j∈is.erase i,ids' j=ids j:=fun j hj=>by simp[ids',hmem j hj]
  have hfr:∀j∈is.erase i,ids j≠id∧h (ids j)=none:=fun j hj=>by
   have:=hf.1 j hj;simp only[upd]at this;split at this
   ·cases this
   ·rename_i e;exact⟨e,this⟩
  have hfresh:Fresh h is ids' :=by
   refine⟨fun j hj=>?_,?_⟩
   ·by_cases e:j=i
    ·subst e;simp[ids',hid]
    ·have hj' :j∈is.erase i:=(List.mem_erase_of_ne e).2 hj
     rw[hids j hj'];exact(hfr j hj').2
   ·rw[(hpm.map ids').nodup_iff,List.map_cons,List.nodup_cons]
    have em:(is.erase i).map ids' =(is.erase i).map ids:=List.map_congr_left hids;rw[em];refine⟨fun hm=>?_,hf.2⟩
    obtain⟨j,hj,he⟩:=List.mem_map.1 hm;exact(hfr j hj).1 (by rw[he];simp[ids'])
  have hh:=H (by rw[wY hpm];exact hcl2) ids' hfresh
  have hfold:is.foldl (jP U ops ids') (F,h)=(is.erase i).foldl (jP U ops ids) (ic F o.dst (.ptr id 0),upd h id (some B)):=by
   rw[hpm.foldl_eq' (GC hdn (fun j hj=>by obtain⟨o,d,B,a1,_,a3,_⟩:=ho j hj;exact⟨o,d,a1,a3⟩) hfresh.2),List.foldl_cons]
   have e0:jP U ops ids' (F,h) i=(ic F o.dst (.ptr id 0),upd h id (some B)):=by simp[jP,e1,ids',e5]
   rw[e0];have:∀(l:List Nat) (s:EF×Heap),(∀j∈l,ids' j=ids j)→l.foldl (jP U ops ids') s=l.foldl (jP U ops ids) s:=fun l=>by
    induction l with
    |nil=>intro s _;rfl
    |cons k l ih=>
     intro s hl;rw[List.foldl_cons,List.foldl_cons,ih _ fun j hj=>hl j (List.mem_cons_of_mem _ hj)]
     have:jP U ops ids' s k=jP U ops ids s k:=by simp only[jP,hl k (List.mem_cons_self ..)]
     rw[this]
   exact this _ _ hids
  rw[hfold,wY hpm]at hh;exact hh
theorem BY{all:List Oper}{K:Env→Heap→Prop}:∀(is:List Nat) (ρ:Env) (h:Heap),(∀i∈is,∃o B,all[i]? =some o∧GA U o.op=some B∧zO U o.op)→sH P U all is ρ h K→∀ids,Fresh h is ids→
  ∃ρ',lk ρ' =(is.foldl (jP U all.toArray ids) (lk ρ,h)).1∧K ρ' (is.foldl (jP U all.toArray ids) (lk ρ,h)).2
 | [],ρ,h,_,hk,ids,_=>⟨ρ,rfl,hk⟩
 |i::is,ρ,h,ho,hk,ids,hf=>by
  obtain⟨o,B,e1,e2,e3⟩:=ho i (List.mem_cons_self ..);simp only[sH,e1]at hk;have hk:=(Fm e2 e3).1 hk (ids i) (hf.1 i (List.mem_cons_self ..));have hn:=hf.2;rw[List.map_cons,List.nodup_cons]at hn;have hf' :Fresh (upd h (ids i) (some B)) is ids:=⟨fun j hj=>by
   have:ids j≠ids i:=fun e=>hn.1 (e▸List.mem_map.2 ⟨j,hj,rfl⟩)
   simp only[upd,this,if_false];exact hf.1 j (List.mem_cons_of_mem _ hj),hn.2⟩
  obtain⟨ρ',h1,h2⟩:=BY is _ _ ad4 hk ids hf';have e0:jP U all.toArray ids (lk ρ,h) i=(lk (put ρ o.dst (.ptr (ids i) 0)),upd h (ids i) (some B)):=by simp_all [some,jP,sY]
  refine⟨ρ',?_,?_⟩
  ·grind
  ·rw[List.foldl_cons,e0];exact h2
def mc(P:Program)(U:TypeId→TI)(n:Nat)(all:List Oper)(hm:Heap):Ord→Env→Heap→(Env→Heap→Prop)→Prop
 |.seq l,ρ,h,K=>eu P U n all hm l ρ h K
 |.fork l i a j b,ρ,h,K=>eu P U n all hm l ρ h fun ρ h=>eu P U n all hm [i] ρ h (fun ρ h=>mc P U n all hm a ρ h K)∧eu P U n all hm [j] ρ h (fun ρ h=>mc P U n all hm b ρ h K)
 |.quiet l i t,ρ,h,K=>eu P U n all hm l ρ h fun ρ h=>match all[i]? with
  |none=>False
  |some o=>o.guard=none∧vcQ P U ρ hm o fun X=>mc P U n all hm t (put ρ o.dst X) h K
 |.news l is t,ρ,h,K=>eu P U n all hm l ρ h fun ρ h=>Sub hm h∧mM U all is∧sH P U all is ρ h fun ρ h=>mc P U n all hm t ρ h K
theorem lq{n:Nat}(hU:∀t,aP P U t){md:Region.Mode}{all:List Oper}{K:Env→Heap→Prop}{z:Option Nat}(hz:∀i,Ends md all.toArray (xY md all.toArray z) i):∀(t:Ord) (listed:Array Bool) (ρ:Env) (h:Heap),Closed md all.toArray listed→kC md all.toArray z t listed=true→mc P U n all hm t ρ h K→
  su md all.toArray (hS P all.toArray fun _=>hm) (xY md all.toArray z) (fun F h=>∃ρ,lk ρ=F∧K ρ h) t.len listed (lk ρ) h
 |.seq l,listed,ρ,h,hc,hB,hk=>by
  simp only[kC,Bool.and_eq_true]at hB;have:=jN (H:=fun _=>hm) 0 l listed _ h (fun i _=>hz i) hc hB.1 (jC (fun F h hh=>⟨hB.2,hh⟩) l _ h (dV hU l ρ h hk))
  rwa [Nat.zero_add]at this
 |.fork l i a j b,listed,ρ,h,hc,hB,hk=>by
  simp only[kC,Bool.and_eq_true,beq_iff_eq]at hB;obtain⟨⟨⟨h1,h2⟩,h3⟩,h4,h5⟩:=hB;have hc' :=ji l listed hc h1;refine jN (a.len+1) l listed _ h (fun i _=>hz i) hc h1 (jC (fun F h hh=>?_) l _ h (dV hU l ρ h hk))
  obtain⟨ρ',rfl,g1,g2⟩:=hh;refine⟨fun e=>(by rw[h2]at e;cases e),fun k hk' =>?_⟩
  have hc2:=hc'.set hk';rw[h2]at hk';rcases List.mem_cons.1 hk' with rfl|hk'
  ·exact lR (fun F h hh=>by obtain⟨ρ2,rfl,hh⟩:=hh;exact lq hU hz a _ ρ2 h hc2 h4 hh) (dV hU [k] ρ' h g1)
  ·obtain rfl:k=j:=by grind
   exact lR (fun F h hh=>by obtain⟨ρ2,rfl,hh⟩:=hh;rw[h3];exact lq hU hz b _ ρ2 h hc2 h5 hh) (dV hU [k] ρ' h g2)
 |.quiet l i t,listed,ρ,h,hc,hB,hk=>by
  simp only[kC,Bool.and_eq_true]at hB;obtain⟨h1,⟨h2,h3⟩,h4⟩:=hB;have hc' :=ji l listed hc h1;refine jN (t.len+1) l listed _ h (fun i _=>hz i) hc h1 (jC (fun F h hh=>?_) l _ h (dV hU l ρ h hk))
  obtain⟨ρ',rfl,g⟩:=hh;cases hi:all[i]? with
  |none=>grind
  |some o=>
   rw[hi]at g;simp only at g;obtain⟨X,hX,hq⟩:=KW hU g.2;have hi' :all.toArray[i]? =some o:=ad4;have hin:i∈Region.ready md all.toArray (fQ l listed):=ad4;refine VA.first hi' (hz i) t.len _ _ h hc' h3 hin ⟨o,hi',.inl ⟨by grind [cL],hq⟩⟩ ?_
   rw[←sY];exact lq hU hz t _ _ h (hc'.set hin) h4 hX
 |.news l is t,listed,ρ,h,hc,hB,hk=>by
  simp only[kC,MQ,Bool.and_eq_true,decide_eq_true_eq]at hB;obtain⟨h1,⟨⟨⟨h2,h3⟩,h4⟩,h5⟩,h6⟩:=hB;have hc' :=ji l listed hc h1;refine jN (t.len+is.length) l listed _ h (fun i _=>hz i) hc h1 (jC (fun F h hh=>?_) l _ h (dV hU l ρ h hk))
  obtain⟨ρ',rfl,g1,g2,g3⟩:=hh;have side:∀(is:List Nat),mM U all is→∀i∈is,∃o,all[i]? =some o∧zO U o.op:=fun is=>by
   induction is with
   |nil=>simp
   |cons k is ih=>
    intro hs i hi;simp only[mM]at hs
    grind
  have hall:∀i∈is,∃o d B,all.toArray[i]? =some o∧o.guard=none∧o.dst=some d∧dJ o.op=true∧GA U o.op=some B∧zO U o.op:=fun i hi=>by
   obtain⟨o,ha,hs⟩:=side is g2 i hi;have ha' :all.toArray[i]? =some o:=ad4;have hn:=List.all_eq_true.1 h5 i hi;rw[ha']at hn;simp only[Option.map_some,Option.getD_some,QM,Bool.and_eq_true,Option.isNone_iff_eq_none,Option.isSome_iff_exists]at hn;obtain⟨⟨n1,d,n2⟩,n3⟩:=hn;split at n3
   ·rename_i ty hop
    exact⟨o,d,_,ha',n1,n2,by rw[hop];rfl,by rw[hop];rfl,hs⟩
   ·cases n3
  refine JP (U:=U) is.length is _ _ h hc' h2 g1 h3 h4 (fun i hi=>?_) fun hc2 ids hf=>?_
  ·obtain⟨o,d,B,a1,a2,a3,a4,a5,a6⟩:=hall i hi
   refine⟨o,d,B,a1,a2,a3,a4,a5,fun F h=>?_⟩
   intro c a hs g hd hr;exact nD hU ((Fm (ρ:=[]) a5 a6).2 fun id hid=>⟨id,hid,rfl,rfl⟩) hs g ⟨rfl,hd,fun t x hx=>by cases hx⟩
  ·obtain⟨ρ2,b1,b2⟩:=BY is ρ' h (fun i hi=>by grind) g3 ids hf
   rw[←b1];exact lq hU hz t _ ρ2 _ hc2 h6 b2
end
section
variable {P : Program} {U : TypeId → TI} {ops : Array Oper} {md : Region.Mode} {H : Nat → Heap}
def yZ(hm:Heap)(l1:List Nat)(i:Nat):Heap:=if l1.contains i then hm else fun _=>none
def Cz(md:Region.Mode)(ops:Array Oper)(l1:List Nat):Bool:=(List.range ops.size).all fun j=>match ops[j]? with
 |some o=>if dJ o.op then !l1.contains j && l1.all fun k=>(jZ md ops (jZ md ops (jZ md ops [j]))).contains k else true
 |none=>true
def MC(md:Region.Mode)(ops:Array Oper)(l1 l2:List Nat):Bool:=Cz md ops l1 && kC md ops none (.seq (l1++l2)) (Array.replicate ops.size false) && ((l1++l2).length==ops.size) && l2.all fun i=> !l1.contains i
theorem Ed{l:List Nat}(hb:Cz md ops l=true){listed:Array Bool}(hc:Closed md ops listed){j:Nat}{oj:Oper}(hoj:ops[j]? =some oj)(he:dJ oj.op=true)(hj:j∈Region.ready md ops listed):j∉l∧∀k∈l,listed.getD k false=true:=by
 unfold Cz at hb;rw[List.all_eq_true]at hb;have hm:=hb j ad4;rw[hoj]at hm;simp only[he,if_true,Bool.and_eq_true,Bool.not_eq_true']at hm;have hl:j∉l:=fun h=>by have:=hm.1;rw[List.contains_iff_mem.2 h]at this;cases this
 refine⟨hl,fun k hk=>?_⟩
 have s0:∀k∈ [j],k≠j→listed.getD k false=true:=fun k hk hn=>absurd (by simpa using hk) hn
 have s3:=fk hc hj (fk hc hj (fk hc hj s0));have h2:=hm.2;rw[List.all_eq_true]at h2;have:=h2 k hk;rw[List.contains_iff_mem]at this;exact s3 k this fun e=>hl (e▸hk)
theorem Sl{hm hm' :Heap}{i:Nat}{o:Oper}{K:EF→Heap→Prop}{F:EF}{h:Heap}(ho:ops[i]? =some o)(he:dJ o.op=false)(hs:Sub hm hm')(hd:hOp P ops hm i K F h):hOp P ops hm' i K F h:=by
 unfold hOp at*;simp only[ho]at*;rcases hd with⟨h1,⟨h2,_⟩|⟨X,h3,h4⟩⟩|h1
 ·rw[he]at h2;cases h2
 ·exact .inl ⟨h1,.inr ⟨X,fun g hg=>h3 g fun j k e=>hg _ _ (hs _ _ e),h4⟩⟩
 ·exact .inr h1
theorem Gt{n:Nat}{E:Array Bool→Prop}{Q:EF→Heap→Prop}{Q' :Exit→Act→World→Prop}{c0:Cx}{hm:Heap}{l1:List Nat}(hb:Cz md ops l1=true)(hdst:∀o∈ops.toList,eY n o.dst=true)
  (h0:∀listed c F h a,Ext c0 c→Sub h c.h→Good c→mW c n F a→E listed→Q F h→wpAny P md ops Q' 0 listed a c.w) (fuel:Nat) (listed:Array Bool) (c:Cx) (F:EF) (h:Heap) (a:Act) (hc:Closed md ops listed) (h1:Ext c0 c) (h2:Sub h c.h) (hor:Sub hm c.h) (h3:Good c) (h4:mW c n F a)
  (hd:su md ops (hS P ops (yZ hm l1)) E Q fuel listed F h):wpAny P md ops Q' (0+fuel) listed a c.w:=by
 refine pO (T:=fun listed c F h a=>Closed md ops listed∧Ext c0 c∧Sub h c.h∧(Sub hm c.h∨∀k∈l1,listed.getD k false=true)∧Good c∧mW c n F a) (fun listed i K c F h a K' ⟨hc,h1,h2,hor,h3,h4⟩ hi hdi hk=>?_)
  (fun listed c F h a ⟨_,k1,k2,_,k3,k4⟩ he hq=>h0 listed c F h a k1 k2 k3 k4 he hq) fuel listed c F h a ⟨hc,h1,h2,.inl hor,h3,h4⟩ hd
 unfold hS at hdi;have hset:=hc.set hi;obtain⟨hun,oi,hoi,_⟩:=mem_ready.1 hi;have hun' :listed.getD i false=false:=by
  clear hdi
  grind
 have late:(∀k∈l1,listed.getD k false=true)→∀k∈l1,(listed.setIfInBounds i true).getD k false=true:=fun hh k hk=>by
  have:=hh k hk
  by_cases e:i=k
  ·subst e;rw[hun']at this;cases this
  ·rw[getD_set_ne false e];exact this
 have low:i∉l1→(∀k∈l1,listed.getD k false=true)→wpOp P ops Q' i K' a c.w:=fun hni hall=>by
  have eH:yZ hm l1 i=fun _=>none:=by unfold yZ;rw[if_neg (by rw[List.contains_iff_mem];exact hni)]
  rw[eH]at hdi;exact vo hdst (fun c F h a k1 k2 _ k3 k4 hK=>hk c F h a ⟨hset,k1,k2,.inr (late hall),k3,k4⟩ hK) h1 h2 (fun _ _ e=>aet) h3 h4 hdi
 cases he:dJ oi.op with
 |true=>obtain⟨hni,hall⟩:=Ed hb hc hoi he hi;exact low hni hall
 |false=>
  rcases hor with hs|hall
  ·exact vo hdst (fun c F h a k1 k2 k2' k3 k4 hK=>hk c F h a ⟨hset,k1,k2,.inl k2',k3,k4⟩ hK) h1 h2 hs h3 h4 (Sl hoi he (fun j k e=>by
    unfold yZ at e;split at e
    ·exact e
    ·cases e) hdi)
  ·exact low (fun hh=>by rw[hall i hh]at hun';cases hun') hall
theorem yP{hm:Heap}{Q Q' :EF→Heap→Prop}(hq:∀F h,Q F h→Q' F h):∀(l:List Nat) (F:EF) (h:Heap),(∀i∈l,H i=hm)→nh P ops (fun _=>hm) Q l F h→nh P ops H Q' l F h
 | [],F,h,_,hd=>hq F h hd
 |i::l,F,h,hh,hd=>by
  show hOp P ops (H i) i _ F h
  rw[hh i aea];exact lR (fun F h hd=>yP hq l F h (fun i hi=>hh i (by simp[hi])) hd) hd
theorem Bg{Q:EF→Heap→Prop}:∀(l l' :List Nat) (F:EF) (h:Heap),nh P ops H (nh P ops H Q l') l F h→nh P ops H Q (l++l') F h
 | [],_,_,_,hd=>hd
 |i::l,l',F,h,hd=>lR (fun F h hd=>Bg l l' F h hd) hd
end
section
variable (P : Program) (U : TypeId → TI) (n : Nat)
def KSeq(next:Env→Heap→Prop)(K:Exit→Env→Heap→Prop)(e:Exit)(ρ:Env)(h:Heap):Prop:=
 match e with
 |.normal=>next ρ h
 |e=>K e ρ h
def KBlock(id:Nat)(K:Exit→Env→Heap→Prop)(e:Exit)(ρ:Env)(h:Heap):Prop:=
 match e with
 |.exit j=>if j=id then K .normal ρ h else K (.exit j) ρ h
 |e=>K e ρ h
def wf1:AV→Prop
 |.s l=>l.length<lim
 |.sl xs _=>xs.length<lim
 |_=>True
def wfA:AV→Prop
 |.agg cs=>∀x∈cs,wf1 x
 |.pe y _=>∀x∈y.cells,wf1 x
 |x=>wf1 x
def Wf(ρ:Env):Prop:=∀t x,lk ρ t=some x→wfA x
def Ld(body:Env→Heap→(Exit→Env→Heap→Prop)→Prop)(ρ:Env)(h:Heap)(K:Exit→Env→Heap→Prop):Prop:=
 Wf ρ→∃(I:Nat→Env→Heap→Prop) (m:Nat),I m ρ h∧∀m ρ h,I m ρ h→body ρ h (KSeq (fun ρ' h' =>∃m',m' <m∧I m' ρ' h') K)
def mu(all:List Oper):List Oper→Env→Heap→(Env→Prop)→Prop
 | [],ρ,_,K=>K ρ
 |o::os,ρ,h,K=>eY n o.dst=true∧j8 all ρ o.guard
   (fun ρ=>iX P U ρ h o fun X=>mu all os (put ρ o.dst X) h K)
   (fun ρ=>mu all os (put ρ o.dst (.v undef)) h K)
def zg(ops:Array Oper):Bool:=MF .any ops none ops.size 0 (Array.replicate ops.size false)
def Cw:Op→Bool
 |.store .. =>true
 |_=>false
def sD:List Oper→Bool
 | []=>false
 | [o]=>Cw o.op && o.guard.isNone
 |_::b::r=>sD (b::r)
def MG(ops:Array Oper):Bool:=Fs .any ops (ops.size - 1) && MF .any ops (some (ops.size - 1)) (ops.size - 1) 0 (Array.replicate ops.size false)
def qC(l:List Oper)(h:Heap)(K:Env→Heap→Prop)(ρ:Env):Prop:=match l.getLast? with
 |some o=>bg P U ρ h o fun X h' =>K (put ρ o.dst X) h'
 |none=>False
def oF(l:List Oper):Bool:=l.all fun o=> !dJ o.op
def Q7(P:Program)(U:TypeId→TI)(n:Nat)(ops:Array Oper)(ρ:Env)(h:Heap)(K:Env→Heap→Prop):Prop:=
 (ops.toList.all fun o=>eY n o.dst)=true∧
 (zg ops=true∧mu P U n ops.toList ops.toList ρ h (fun ρ=>K ρ h)∨
  (∃(hm:Heap) (t:Ord) (Post:Env→Heap→Prop),Sub hm h∧kC .any ops none t (Array.replicate ops.size false)=true∧t.len=ops.size∧mc P U n ops.toList hm t ρ h Post∧∀ρ h,Post ρ h→K ρ h)∨
  (∃(hm:Heap) (l1 l2:List Nat),Sub hm h∧xS .any ops l1 l2=true∧eu P U n ops.toList hm l1 ρ h (fun ρ h=>∃hm2,Sub hm2 h∧eu P U n ops.toList hm2 l2 ρ h K))∨
  (∃(hm:Heap) (t:Ord),Sub hm h∧Fs .any ops t.len=true∧(ops.toList.getLast?.map fun o=>o.guard.isNone)=some true∧kC .any ops (some t.len) t (Array.replicate ops.size false)=true∧t.len+1=ops.size∧mc P U n ops.toList hm t ρ h (fun ρ h=>qC P U ops.toList h K ρ))∨
  ∃(hm:Heap) (l1 l2:List Nat),Sub hm h∧MC .any ops l1 l2=true∧eu P U n ops.toList hm l1 ρ h (fun ρ h=>eu P U n ops.toList (fun _=>none) l2 ρ h K))
def WP(c:Code)(ρ:Env)(h:Heap)(K:Exit→Env→Heap→Prop):Prop:=
 ∀cx a,Sub h cx.h→Good cx→cu cx n ρ a→c.wp P (WPK n K cx) a cx.w
def KJump(l:Nat)(J:Env→Heap→Prop)(K:Exit→Env→Heap→Prop):Exit→Env→Heap→Prop
 |.goto l',ρ,h=>l' =l∧J ρ h
 |e,ρ,h=>K e ρ h
def aW:Code→Env→Heap→(Exit→Env→Heap→Prop)→Prop
 |.skip,ρ,h,K=>K .normal ρ h
 |.region _ ops draw,ρ,h,K=>if draw then(if sD ops.toList && oF ops.toList.dropLast then(MG ops && ops.toList.all fun o=>eY n o.dst)=true∧mu P U n ops.toList ops.toList.dropLast ρ h (qC P U ops.toList h (K .normal))else if oF ops.toList=false then Q7 P U n ops ρ h (K .normal)else(zg ops && ops.toList.all fun o=>eY n o.dst)=true∧mu P U n ops.toList ops.toList ρ h (fun ρ=>K .normal ρ h))else kU P U n ops.toList ops.toList ρ h (K .normal)
 |.seq a b,ρ,h,K=>aW a ρ h (KSeq (fun ρ h=>aW b ρ h K) K)
 |.cond c a b,ρ,h,K=>withv ρ c fun
  |.v (.bool t)=>(t=true→aW a ρ h K)∧(t=false→aW b ρ h K)
  |_=>False
 |.block id c,ρ,h,K=>aW c ρ h (KBlock id K)
 |.loop c,ρ,h,K=>Ld (fun ρ h K=>aW c ρ h K) ρ h K
 |.exit id,ρ,h,K=>K (.exit id) ρ h
 |.ret,ρ,h,K=>K .ret ρ h
 |.label _,ρ,h,K=>K .normal ρ h
 |.goto l,ρ,h,K=>K (.goto l) ρ h
 |.scope c,ρ,h,K=>∃(l:Nat) (rest:Code) (J:Nat→Env→Heap→Prop),findLabel c l=some rest∧aW c ρ h (KJump l (fun ρ h=>∃m,J m ρ h) K)∧
  ∀m ρ h,J m ρ h→WP P n rest ρ h (KJump l (fun ρ' h' =>∃m',m' <m∧J m' ρ' h') K)
 |_,_,_,_=>False
end
section
variable {c0:Cx}{c rest:Code}{u:Value}{listed:Array Bool}{F:EF}{hl:Heap}{l1 l2:List Nat}{fn:Func}
variable {P : Program} {U : TypeId → TI} {n : Nat}
theorem WPK.mono{K K' :Exit→Env→Heap→Prop}(hk:∀e ρ h,K e ρ h→K' e ρ h){e:Exit}{a:Act}{w:World}(h:WPK n K c0 e a w):WPK n K' c0 e a w:=by obtain⟨c,ρ,hh,h1,h2,h3,h4,h5,h6⟩:=h;exact⟨c,ρ,hh,h1,h2,h3,h4,h5,hk _ _ _ h6⟩
theorem WP.weaken{ρ:Env}{h:Heap}{K K' :Exit→Env→Heap→Prop}(hw:WP P n c ρ h K)(hk:∀e ρ h,K e ρ h→K' e ρ h):WP P n c ρ h K' :=
 fun cx a h1 h2 h3=>wp_mono (hw cx a h1 h2 h3) fun _ _ _=>WPK.mono hk
theorem WP.seq{d:Code}{ρ:Env}{h:Heap}{K:Exit→Env→Heap→Prop}(hc:WP P n c ρ h (KSeq (WP P n d · · K) K)):WP P n (.seq c d) ρ h K:=by
 intro cx a h1 h2 h3;refine wp_seq (wp_mono (hc cx a h1 h2 h3) fun e a w hq=>?_)
 obtain⟨c',ρ',h',rfl,g,hE,he,hs,hk⟩:=hq;cases e with
 |normal=>have:=hk c' a hs g he;exact wp_mono this fun _ _ _=>WPK.after hE
 |_=>exact⟨c',ρ',h',rfl,g,hE,he,hs,hk⟩
theorem WP.block{id:Nat}{ρ:Env}{h:Heap}{K:Exit→Env→Heap→Prop}(hc:WP P n c ρ h (KBlock id K)):WP P n (.block id c) ρ h K:=by
 intro cx a h1 h2 h3;refine wp_block (wp_mono (hc cx a h1 h2 h3) fun e a w hq=>?_)
 obtain⟨c',ρ',h',rfl,g,hE,he,hs,hk⟩:=hq;cases e with
 |exit j=>
  simp only[Exit.inBlock,KBlock]at hk⊢;split
  ·rename_i e;rw[if_pos e]at hk;exact⟨c',ρ',h',rfl,g,hE,he,hs,hk⟩
  ·rename_i e;rw[if_neg e]at hk;exact⟨c',ρ',h',rfl,g,hE,he,hs,hk⟩
 |_=>exact⟨c',ρ',h',rfl,g,hE,he,hs,hk⟩
theorem CY{Q:Exit→Act→World→Prop}(I:Nat→Act→World→Prop)(round:∀m a w,I m a w→c.wp P (Exit.then (fun a' w' =>∃m',m' <m∧I m' a' w') Q) a w):
  ∀m a w,I m a w→(Code.loop c).wp P Q a w:=by
 intro m a w h0 b k cs;have key:∀n a w,I n a w→∃e a' w',Q e a' w'∧Arrives P (lone (b.at a (.code c:: .inLoop c::k)) cs w) b k cs e a' w' :=by
  intro n
  induction n using Nat.strongRecOn with
  |_ n ih=>
   intro a w hI;obtain⟨e,a₁,w₁,hq,harr⟩:=round n a w hI b (.inLoop c::k) cs;cases e with
   |normal=>obtain⟨m',hlt,hI₁⟩:=hq;obtain⟨e₂,a₂,w₂,hq₂,harr₂⟩:=ih m' hlt a₁ w₁ hI₁;exact⟨e₂,a₂,w₂,hq₂,.of_steps (Steps.trans harr (.one step_inLoop)) harr₂⟩
   |exit id=>exact⟨_,a₁,w₁,hq,.pass (x:=.inLoop c) rfl aea harr⟩
   |goto l=>exact⟨_,a₁,w₁,hq,.pass (x:=.inLoop c) rfl aea harr⟩
   |ret=>exact⟨_,a₁,w₁,hq,.pass (x:=.inLoop c) rfl aea harr⟩
   |panic ch=>exact⟨_,a₁,w₁,hq,.pass (x:=.inLoop c) rfl aea harr⟩
   |outgrown=>exact⟨_,a₁,w₁,hq,.pass (x:=.inLoop c) rfl aea harr⟩
 obtain⟨e,a',w',hq,harr⟩:=key m a w h0;exact⟨e,a',w',hq,.of_steps (.one step_loop) harr⟩
def Exit.Mw(l:Nat)(J:Act→World→Prop)(Q:Exit→Act→World→Prop):Exit→Act→World→Prop
 |.goto l',a,w=>l' =l∧J a w
 |e,a,w=>Q e a w
theorem AN{Q:Exit→Act→World→Prop}{a:Act}{w:World}(l:Nat)(J:Nat→Act→World→Prop)(hf:findLabel c l=some rest)
  (first:c.wp P (Exit.Mw l (fun a w=>∃m,J m a w) Q) a w)
  (pass:∀m a w,J m a w→rest.wp P (Exit.Mw l (fun a' w' =>∃m',m' <m∧J m' a' w') Q) a w):(Code.scope c).wp P Q a w:=by
 intro b k cs;have hg:gotoIn l (.inScope c::k)=some (.code rest:: .inScope c::k):=by grind [gotoIn]
 have key:∀m a w,J m a w→∃e a' w',Q e a' w'∧Arrives P (lone (b.at a (.code rest:: .inScope c::k)) cs w) b k cs e a' w' :=by
  intro m
  induction m using Nat.strongRecOn with
  |_ m ih=>
   intro a w hJ;obtain⟨e,a₁,w₁,hq,harr⟩:=pass m a w hJ b (.inScope c::k) cs;cases e with
   |normal=>exact⟨.normal,a₁,w₁,hq,Steps.trans harr (.one step_inScope)⟩
   |exit id=>exact⟨.exit id,a₁,w₁,hq,fun k' hk=>harr k' (by grind [exitTo])⟩
   |goto l' =>obtain⟨rfl,m',hlt,hJ'⟩:=hq;obtain⟨e₂,a₂,w₂,hq₂,harr₂⟩:=ih m' hlt a₁ w₁ hJ';exact⟨e₂,a₂,w₂,hq₂,.of_steps (harr _ hg) harr₂⟩
   |ret=>exact⟨_,a₁,w₁,hq,harr⟩
   |panic ch=>exact⟨_,a₁,w₁,hq,harr⟩
   |outgrown=>exact⟨_,a₁,w₁,hq,harr⟩
 obtain⟨e,a₁,w₁,hq,harr⟩:=first b (.inScope c::k) cs;cases e with
 |normal=>exact⟨.normal,a₁,w₁,hq,.head step_scope (Steps.trans harr (.one step_inScope))⟩
 |exit id=>exact⟨.exit id,a₁,w₁,hq,fun k' hk=> .head step_scope (harr k' (by grind [exitTo]))⟩
 |goto l' =>obtain⟨rfl,m,hJ⟩:=hq;obtain⟨e₂,a₂,w₂,hq₂,harr₂⟩:=key m a₁ w₁ hJ;exact⟨e₂,a₂,w₂,hq₂,.of_steps (.head step_scope (harr _ hg)) harr₂⟩
 |ret=>exact⟨_,a₁,w₁,hq,.of_steps (.one step_scope) harr⟩
 |panic ch=>exact⟨_,a₁,w₁,hq,.of_steps (.one step_scope) harr⟩
 |outgrown=>exact⟨_,a₁,w₁,hq,.of_steps (.one step_scope) harr⟩
theorem WP.scope{ρ:Env}{h:Heap}{K:Exit→Env→Heap→Prop}(l:Nat)(J:Nat→Env→Heap→Prop)(hf:findLabel c l=some rest)(first:WP P n c ρ h (KJump l (fun ρ h=>∃m,J m ρ h) K))
  (pass:∀m ρ h,J m ρ h→WP P n rest ρ h (KJump l (fun ρ' h' =>∃m',m' <m∧J m' ρ' h') K)):WP P n (.scope c) ρ h K:=by
 intro cx a h1 h2 h3;refine AN l (fun m a w=>∃c' ρ' h',c'.w=w∧Good c'∧Ext cx c'∧cu c' n ρ' a∧Sub h' c'.h∧J m ρ' h') hf (wp_mono (first cx a h1 h2 h3) fun e a w hq=>?_) ?_
 ·obtain⟨c2,ρ2,h2,rfl,g2,hE2,he2,hs2,hk⟩:=hq
  cases e with
  |goto l' =>obtain⟨e1,m,hI⟩:=hk;exact⟨e1,m,c2,ρ2,h2,rfl,g2,hE2,he2,hs2,hI⟩
  |_=>exact⟨c2,ρ2,h2,rfl,g2,hE2,he2,hs2,hk⟩
 ·rintro m a w ⟨c',ρ',h',rfl,g,hE,he,hs,hI⟩
  refine wp_mono (pass m ρ' h' hI c' a hs g he) fun e a w hq=>?_
  obtain⟨c2,ρ2,h2,rfl,g2,hE2,he2,hs2,hk⟩:=hq;cases e with
  |goto l' =>obtain⟨e1,m',hlt,hI'⟩:=hk;exact⟨e1,m',hlt,c2,ρ2,h2,rfl,g2,hE.trans hE2,he2,hs2,hI'⟩
  |_=>exact⟨c2,ρ2,h2,rfl,g2,hE.trans hE2,he2,hs2,hk⟩
theorem WP.loop{ρ:Env}{h:Heap}{K:Exit→Env→Heap→Prop}(I:Nat→Env→Heap→Prop)(m:Nat)(h0:I m ρ h)(round:∀m ρ h,I m ρ h→WP P n c ρ h (KSeq (fun ρ' h' =>∃m',m' <m∧I m' ρ' h') K)):
  WP P n (.loop c) ρ h K:=by
 intro cx a h1 h2 h3;refine CY (fun m a w=>∃c' ρ' h',c'.w=w∧Good c'∧Ext cx c'∧cu c' n ρ' a∧Sub h' c'.h∧I m ρ' h') ?_ m a cx.w ⟨cx,ρ,h,rfl,h2,.refl _,h3,h1,h0⟩
 rintro m a w ⟨c',ρ',h',rfl,g,hE,he,hs,hI⟩
 refine wp_mono (round m ρ' h' hI c' a hs g he) fun e a w hq=>?_
 obtain⟨c2,ρ2,h2,rfl,g2,hE2,he2,hs2,hk⟩:=hq;cases e with
 |normal=>obtain⟨m',hlt,hI'⟩:=hk;exact⟨m',hlt,c2,ρ2,h2,rfl,g2,hE.trans hE2,he2,hs2,hI'⟩
 |_=>exact⟨c2,ρ2,h2,rfl,g2,hE.trans hE2,he2,hs2,hk⟩
theorem WP.ops(hU:∀t,aP P U t){id:Nat}{ops:Array Oper}{ρ:Env}{h:Heap}{K:Exit→Env→Heap→Prop}(hk:kU P U n ops.toList ops.toList ρ h (K .normal)):WP P n (.region id ops false) ρ h K:=by intro cx a h1 h2 h3;refine wp_region_list ?_;have:=rT (K:=K) hU cx ops.toList ρ h hk cx a (.refl _) h1 h2 h3;simpa using this
theorem Rep.wf1{c:Cx}{x:AV}(h:Rep c x u):wf1 x:=by
 cases x with
 |s l=>exact h.nY.2
 |sl xs p=>obtain⟨a,cap,sz,val,_,hs⟩:=h.iO;have:=hs.hc;have:=hs.hm;simp only[Ab.wf1];omega
 |_=>trivial
theorem Rep.wf{c:Cx}{x:AV}(h:Rep c x u):wfA x:=by
 cases x with
 |agg cs=>
  obtain⟨vs,_,_,hr,_⟩:=h.pz;intro x hx;obtain⟨i,hi,rfl⟩:=List.mem_iff_getElem.1 hx
  grind [wf1]
 |pe y off=>
  obtain⟨b,o,val,_,_,_,hr,_⟩:=h.vH;intro x hx;obtain⟨i,hi,rfl⟩:=List.mem_iff_getElem.1 hx
  grind [wf1]
 |_=>exact h.wf1
theorem cu.wf{c:Cx}{ρ:Env}{a:Act}(h:cu c n ρ a):Wf ρ:=fun t x hx=>(h.rep t x hx).wf
theorem Eg{ρ:Env}{d:Nat}{x:AV}(hd:lk ρ d=some x):lk ((d,x)::ρ)=lk ρ:=by grind [lk]
theorem qv(hU:∀t,aP P U t){all:List Oper}{h:Heap}{K:Env→Prop}:∀(l:List Oper) (ρ:Env),mu P U n all l ρ h K→dList P all.toArray h (fun F=>∃ρ,lk ρ=F∧K ρ) l (lk ρ)
 | [],ρ,hk=>⟨ρ,rfl,hk⟩
 |o::os,ρ,hk=>by
  obtain⟨hd,hk⟩:=hk;have yes:∀ρ',cL all.toArray (lk ρ) o=some true→lk ρ' =lk ρ→(iX P U ρ' h o fun X=>mu P U n all os (put ρ' o.dst X) h K)→wz P all.toArray h o (dList P all.toArray h (fun F=>∃ρ,lk ρ=F∧K ρ) os) (lk ρ):=by intro ρ' hw hl hv;obtain⟨X,hQ,hX⟩:=Ht hU hv;have:=qv hU os _ hQ;rw[sY,hl]at this;rw[hl]at hX;exact .inl ⟨hw,X,hX,this⟩
  have no:∀ρ',cL all.toArray (lk ρ) o=some false→lk ρ' =lk ρ→mu P U n all os (put ρ' o.dst (.v undef)) h K→wz P all.toArray h o (dList P all.toArray h (fun F=>∃ρ,lk ρ=F∧K ρ) os) (lk ρ):=by intro ρ' hw hl hv;have:=qv hU os _ hv;rw[sY,hl]at this;exact .inr ⟨hw,this⟩
  unfold j8 at hk;split at hk
  ·rename_i hg
   exact yes ρ (by grind [cL]) rfl hk
  ·rename_i g want hg
   split at hk
   ·rename_i d hd'
    have hd2:((all.toArray)[g]?).bind (·.dst)=some d:=by grind [qx]
    split at hk
    ·rename_i t ht
     have hw:cL all.toArray (lk ρ) o=some (t==want):=by grind [cL]
     by_cases e:t=want
     ·exact yes _ ad4 (by grind [Eg]) (hk.1 e)
     ·have e' :t= !want:=by cases t<;>cases want<;>simp_all
      exact no _ ad4 (by grind [Eg]) (hk.2 e')
    ·rename_i vs ht
     refine no ρ ?_ rfl hk
     grind [cL]
    ·exact aeq
   ·exact aeq
theorem WP.any(hm:P.follows .mixedOrders=true){id:Nat}{ops:Array Oper}{ρ:Env}{h:Heap}{K:Exit→Env→Heap→Prop}(hk:∀c0 c a,Ext c0 c→Sub h c.h→Good c→mW c n (lk ρ) a→wpAny P .any ops (WPK n K c0) ops.size (Array.replicate ops.size false) a c.w):WP P n (.region id ops true) ρ h K:=by
 intro cx a h1 h2 h3;have hE:Ext cx {cx with w:={cx.w with drawn:=cx.w.drawn+1}}:=Ext.draw rfl rfl rfl rfl
 exact wp_region_any hm (hk cx {cx with w:={cx.w with drawn:=cx.w.drawn+1}} a hE h1 (h2.draw rfl rfl rfl rfl) ⟨h3.size,h3.defers,fun t x hx=>(h3.rep t x hx).mono hE⟩)
theorem xF{ops:Array Oper}{K:Exit→Env→Heap→Prop}{c:Cx}{h:Heap}{a:Act}(hE:Ext c0 c)(hs:Sub h c.h)(g:Good c)(he:mW c n F a)(hz:xY .any ops none listed)(hK:∃ρ,lk ρ=F∧K .normal ρ h):wpAny P .any ops (WPK n K c0) 0 listed a c.w:=by obtain⟨ρ',rfl,hK⟩:=hK;exact⟨by simpa[xY,FY]using hz,c,ρ',h,rfl,g,hE,⟨he.1,he.2.1,he.2.2⟩,hs,hK⟩
theorem DA(hU:∀t,aP P U t){ops:Array Oper}{K:Exit→Env→Heap→Prop}{z:Nat}{oz:Oper}(hoz:ops.toList.getLast? =some oz)(hgz:oz.guard=none)(hzz:ops[z]? =some oz)(hdst:∀o∈ops.toList,eY n o.dst=true){c:Cx}{h:Heap}{a:Act}(hE:Ext c0 c)(hs:Sub h c.h)(g:Good c)(he:mW c n F a)
  (hz:xY .any ops (some z) listed) (hK:∃ρ,lk ρ=F∧qC P U ops.toList h (K .normal) ρ):wpAny P .any ops (WPK n K c0) 1 listed a c.w:=by
 obtain⟨ρ',rfl,hK⟩:=hK;simp only[xY,FY,Bool.and_eq_true,beq_iff_eq,List.isEmpty_iff]at hz;refine⟨fun e=>(by rw[hz.1]at e;cases e),fun i hi=>?_⟩
 rw[hz.1]at hi;obtain rfl:i=z:=ad4;refine wpOp_mono (fun a w hh=>⟨hz.2,hh⟩) ?_
 unfold qC at hK;rw[hoz]at hK;have he' :cu c n ρ' a:=⟨he.1,he.2.1,he.2.2⟩;have hdz:eY n oz.dst=true:=ad4;have hu:=nD hU hK hs g he';unfold wpOp;rw[hzz];simp only;rw[if_pos (by grind [Region.wanted])]
 left
 have next:∀u w',fh c (fun X h' =>K .normal (put ρ' oz.dst X) h') u w'→WPK n K c0 .normal (a.put oz.dst u) w' :=by
  rintro u w' ⟨c',x,h',rfl,g',hE',hr,hs',hK⟩
  exact⟨c',_,h',rfl,g',hE.trans hE',(he'.mono hE').put hdz hr,hs',hK⟩
 unfold Oper.wp;generalize (execOp a.eval oz).run P c.w=r at hu;cases r with
 |ok nx w' =>exact ait
 |halt x w' =>exact hu.elim
theorem WP.draw(hU:∀t,aP P U t)(hm:P.follows .mixedOrders=true){id:Nat}{ops:Array Oper}{ρ:Env}{h:Heap}{K:Exit→Env→Heap→Prop}(hdst:∀o∈ops.toList,eY n o.dst=true)(hB:zg ops=true)
  (hk:mu P U n ops.toList ops.toList ρ h (fun ρ=>K .normal ρ h)):WP P n (.region id ops true) ρ h K:=
 WP.any hm fun c0 c a hE h1 h2 h3=>by
 have hd:=yw (md:=.any) (ops:=ops) (z:=none) (fun k e=>aet) ops.toList 0 (Array.replicate ops.size false) (lk ρ) h (.none _ _ _) aea (by grind [zg]) (by simpa using qv hU ops.toList ρ hk)
 simpa using yx (m:=0) hdst (fun listed c F g a k1 k2 k3 k4 he hq=>xF k1 k2 k3 k4 he hq) _ _ c _ h a hE h1 h2 h3 hd
theorem WP.Dw(hU:∀t,aP P U t)(hm:P.follows .mixedOrders=true){id:Nat}{ops:Array Oper}{ρ:Env}{h:Heap}{K:Exit→Env→Heap→Prop}{t:Ord}{Post:Env→Heap→Prop}(hdst:∀o∈ops.toList,eY n o.dst=true)(hsub:Sub hl h)
  (hB:kC .any ops none t (Array.replicate ops.size false)=true) (hlen:t.len=ops.size)
  (hk:mc P U n ops.toList hl t ρ h Post) (hp:∀ρ h,Post ρ h→K .normal ρ h):WP P n (.region id ops true) ρ h K:=
 WP.any hm fun c0 c a hE h1 h2 h3=>by
 have hd:=lq (md:=.any) (all:=ops.toList) (z:=none) hU (yB fun k e=>aet) t (Array.replicate ops.size false) ρ h (.none _ _ _) hB hk
 have:=pQ (m:=0) hdst (fun listed c F h a k1 k2 k3 k4 he ⟨ρ,e,hq⟩=>xF k1 k2 k3 k4 he ⟨ρ,e,hp _ _ hq⟩) _ _ c _ h a hE h1 (fun i k hi=>h1 _ _ (hsub _ _ hi)) h2 h3 hd
 rw[hlen,Nat.zero_add]at this;exact aeE
theorem WP.Vd(hU:∀t,aP P U t)(hm:P.follows .mixedOrders=true){id:Nat}{ops:Array Oper}{ρ:Env}{h:Heap}{K:Exit→Env→Heap→Prop}(hdst:∀o∈ops.toList,eY n o.dst=true)(hsub:Sub hl h)
  (hB:xS .any ops l1 l2=true) (hk:eu P U n ops.toList hl l1 ρ h (fun ρ h=>∃hm2,Sub hm2 h∧eu P U n ops.toList hm2 l2 ρ h (K .normal))):WP P n (.region id ops true) ρ h K:=
 WP.any hm fun c0 c a hE h1 h2 h3=>by
 simp only[xS,Bool.and_eq_true,List.all_eq_true,beq_iff_eq]at hB;obtain⟨⟨⟨⟨b1,b2⟩,b3⟩,b4⟩,b5⟩:=hB;have hcl:=Closed.none .any ops ops.size;have hd:=jN (md:=.any) 0 l1 (Array.replicate ops.size false) (lk ρ) h (L0 b2 b3) hcl b1 (jC (fun F h hh=>⟨rfl,hh⟩) l1 _ h (dV hU l1 ρ h hk))
 rw[Nat.zero_add]at hd;have:=pQ (m:=l2.length) hdst (fun listed c F h a k1 k2 k3 k4 he hR=>by
  subst he;obtain⟨ρ',rfl,hm2,hs2,hk2⟩:=hR;have ha:=lq (md:=.any) (all:=ops.toList) (z:=none) (hm:=hm2) hU (yB fun k e=>aet) (.seq l2) _ ρ' h (ji l1 _ hcl b1) b4 hk2
  have:=pQ (m:=0) hdst (fun listed c F h a k1 k2 k3 k4 he hq=>xF k1 k2 k3 k4 he hq) _ _ c _ h a k1 k2 (fun i k hi=>k2 _ _ (hs2 _ _ hi)) k3 k4 ha
  rwa [Nat.zero_add]at this) _ _ c _ h a hE h1 (fun i k hi=>h1 _ _ (hsub _ _ hi)) h2 h3 hd
 rw[b5]at this;exact aeE
theorem WP.Vc(hU:∀t,aP P U t)(hm:P.follows .mixedOrders=true){id:Nat}{ops:Array Oper}{ρ:Env}{h:Heap}{K:Exit→Env→Heap→Prop}(hdst:∀o∈ops.toList,eY n o.dst=true)(hsub:Sub hl h)
  (hB:MC .any ops l1 l2=true) (hk:eu P U n ops.toList hl l1 ρ h (fun ρ h=>eu P U n ops.toList (fun _=>none) l2 ρ h (K .normal))):WP P n (.region id ops true) ρ h K:=
 WP.any hm fun c0 c a hE h1 h2 h3=>by
 simp only[MC,kC,Bool.and_eq_true,beq_iff_eq,List.all_eq_true]at hB;obtain⟨⟨⟨b1,b2,b5⟩,b3⟩,b4⟩:=hB;have hcl:=Closed.none .any ops ops.size;have hd2:nh P ops (yZ hl l1) (fun F h=>∃ρ,lk ρ=F∧K .normal ρ h) (l1++l2) (lk ρ) h:=
  Bg _ _ _ _ (yP (fun F h ⟨ρ',e,hk2⟩=>by subst e;exact yP (fun _ _ hh=>hh) l2 _ h (fun i hi=>by have:=b4 i hi;unfold yZ;rw[if_neg (by simpa using this)]) (dV hU l2 ρ' h hk2)) l1 _ h (fun i hi=>by unfold yZ;rw[if_pos (List.contains_iff_mem.2 hi)]) (dV hU l1 ρ h hk))
 have ha:=jN (md:=.any) (E:=xY .any ops none) 0 _ _ _ _ (fun i _=>yB (fun k e=>aet) i) hcl b2 (jC (fun F h hh=>⟨b5,hh⟩) _ _ h hd2)
 rw[Nat.zero_add]at ha;have:=Gt b1 hdst (fun listed c F h a k1 k2 k3 k4 he hq=>xF k1 k2 k3 k4 he hq) _ _ c _ h a hcl hE h1 (fun i k hi=>h1 _ _ (hsub _ _ hi)) h2 h3 ha
 rw[b3,Nat.zero_add]at this;exact aeE
theorem yY:∀ {l:List Oper},sD l=true→∃o,l.getLast? =some o∧o.guard=none
 | [o],h=>⟨o,rfl,by simp_all [sD,Bool.and_eq_true]⟩
 |_::b::r,h=>by
  obtain⟨o,h1,h2⟩:=yY (l:=b::r) h
  grind
theorem WP.Vf(hU:∀t,aP P U t)(hm:P.follows .mixedOrders=true){id:Nat}{ops:Array Oper}{ρ:Env}{h:Heap}{K:Exit→Env→Heap→Prop}{l:Ord}(hdst:∀o∈ops.toList,eY n o.dst=true)(hsub:Sub hl h)
  (hz:Fs .any ops l.len=true) (hg:(ops.toList.getLast?.map fun o=>o.guard.isNone)=some true) (hB:kC .any ops (some l.len) l (Array.replicate ops.size false)=true) (hlen:l.len+1=ops.size)
  (hk:mc P U n ops.toList hl l ρ h (fun ρ h=>qC P U ops.toList h (K .normal) ρ)):WP P n (.region id ops true) ρ h K:=
 WP.any hm fun c0 c a hE h1 h2 h3=>by
 obtain⟨oz,hoz,hgz⟩:=Option.map_eq_some_iff.1 hg;have hzz:ops[l.len]? =some oz:=by grind
 have hd:=lq (md:=.any) (all:=ops.toList) (z:=some l.len) hU (yB fun k e=>by cases e;exact hz) l (Array.replicate ops.size false) ρ h (.none _ _ _) hB hk
 have:=pQ (m:=1) hdst (fun listed c F h a k1 k2 k3 k4 he hq=>DA hU hoz (by simpa using hgz) hzz hdst k1 k2 k3 k4 he hq) _ _ c _ h a hE h1 (fun i k hi=>h1 _ _ (hsub _ _ hi)) h2 h3 hd
 rw[Nat.add_comm,hlen]at this;exact aeE
theorem WP.Ve(hU:∀t,aP P U t)(hm:P.follows .mixedOrders=true){id:Nat}{ops:Array Oper}{ρ:Env}{h:Heap}{K:Exit→Env→Heap→Prop}(hdst:∀o∈ops.toList,eY n o.dst=true)(hl:sD ops.toList=true)(hB:MG ops=true)
  (hk:mu P U n ops.toList ops.toList.dropLast ρ h (qC P U ops.toList h (K .normal))):WP P n (.region id ops true) ρ h K:=
 WP.any hm fun c0 c a hE h1 h2 h3=>by
 obtain⟨oz,hoz,hgz⟩:=yY hl;unfold MG at hB;rw[Bool.and_eq_true]at hB;have hpos:0<ops.size:=by grind
 have hz:ops[ops.size - 1]? =some oz:=by grind
 have hlen:ops.toList.dropLast.length=ops.size - 1:=aea;have hd:=yw (md:=.any) (ops:=ops) (z:=some (ops.size - 1)) (fun k e=>by cases e;exact hB.1) ops.toList.dropLast 0 (Array.replicate ops.size false) (lk ρ) h (.none _ _ _) ad4 ad4 (by simpa using qv hU ops.toList.dropLast ρ hk)
 have:=yx (m:=1) hdst (fun listed c F g a k1 k2 k3 k4 he hq=>DA hU hoz hgz hz hdst k1 k2 k3 k4 he hq) _ _ c _ h a hE h1 h2 h3 hd
 rw[hlen,Nat.add_comm,Nat.sub_add_cancel hpos]at this;exact aeE
theorem dU(hU:∀t,aP P U t)(hm:P.follows .mixedOrders=true):∀(c:Code) (ρ:Env) (h:Heap) (K:Exit→Env→Heap→Prop),aW P U n c ρ h K→WP P n c ρ h K
 |.skip,ρ,h,K,hk=>fun cx a h1 h2 h3=>wp_skip ⟨cx,ρ,h,rfl,h2,.refl _,h3,h1,hk⟩
 |.region id ops draw,ρ,h,K,hk=>by
  simp only[aW]at hk;cases draw with
  |true=>
   simp only[if_true]at hk;split at hk
   ·rename_i hl
    obtain⟨hb,hk⟩:=hk;rw[Bool.and_eq_true,List.all_eq_true]at hb;rw[Bool.and_eq_true]at hl;exact WP.Ve hU hm hb.2 hl.1 hb.1 hk
   ·split at hk
    ·obtain⟨hb,hk⟩:=hk
     rw[List.all_eq_true]at hb;rcases hk with⟨h1,hk⟩|⟨hm',t,Post,h1,h2,h3,hk,hp⟩|⟨hm',l1,l2,h1,h2,hk⟩|⟨hm',l,h1,h2,h4,h5,h6,hk⟩|⟨hm',l1,l2,h1,h2,hk⟩
     ·exact WP.draw hU hm hb h1 hk
     ·exact WP.Dw hU hm hb h1 h2 h3 hk hp
     ·exact WP.Vd hU hm hb h1 h2 hk
     ·exact WP.Vf hU hm hb h1 h2 h4 h5 h6 hk
     ·exact WP.Vc hU hm hb h1 h2 hk
    ·obtain⟨hb,hk⟩:=hk
     rw[Bool.and_eq_true,List.all_eq_true]at hb;exact WP.draw hU hm hb.2 hb.1 hk
  |false=>exact WP.ops hU ad4
 |.seq a b,ρ,h,K,hk=>by
  simp only[aW]at hk;refine WP.seq ((dU hU hm a ρ h _ hk).weaken fun e ρ' h' hh=>?_)
  cases e with
  |normal=>exact dU hU hm b ρ' h' K hh
  |_=>exact hh
 |.cond c a b,ρ,h,K,hk=>by
  simp only[aW]at hk;obtain⟨y,hy,hk⟩:=aJ hk;split at hk
  ·rename_i t
   intro cx ac h1 h2 h3;have hv:=(aH h3 hy).bZ;exact wp_cond_split hv (fun e=>dU hU hm a ρ h K (hk.1 e) cx ac h1 h2 h3) (fun e=>dU hU hm b ρ h K (hk.2 e) cx ac h1 h2 h3)
  ·exact aeq
 |.block id c,ρ,h,K,hk=>WP.block (dU hU hm c ρ h _ (by grind [aW]))
 |.loop c,ρ,h,K,hk=>by simp only[aW]at hk;intro cx a h1 h2 h3;obtain⟨I,m,h0,hr⟩:=hk h3.wf;exact WP.loop I m h0 (fun m ρ h hI=>dU hU hm c ρ h _ (hr m ρ h hI)) cx a h1 h2 h3
 |.exit id,ρ,h,K,hk=>fun cx a h1 h2 h3=>wp_exit ⟨cx,ρ,h,rfl,h2,.refl _,h3,h1,ag6⟩
 |.ret,ρ,h,K,hk=>fun cx a h1 h2 h3=>wp_ret ⟨cx,ρ,h,rfl,h2,.refl _,h3,h1,ag6⟩
 |.label l,ρ,h,K,hk=>fun cx a h1 h2 h3=>wp_label ⟨cx,ρ,h,rfl,h2,.refl _,h3,h1,ag6⟩
 |.goto l,ρ,h,K,hk=>fun cx a h1 h2 h3=>wp_goto ⟨cx,ρ,h,rfl,h2,.refl _,h3,h1,ag6⟩
 |.rangeFunc ..,_,_,_,hk=>by simp[aW]at hk
 |.scope c,ρ,h,K,hk=>by simp only[aW]at hk;obtain⟨l,rest,J,hf,h1,h2⟩:=hk;exact WP.scope l J hf (dU hU hm c ρ h _ h1) h2
 |.refuse _,_,_,_,hk=>by simp[aW]at hk
def tq(ρ:Env)(h:Heap)(U:TypeId→TI):List ResultVar→(List AV→Prop)→Prop
 | [],k=>k []
 |.tmp t::r,k=>match lk ρ t with
  |some x=>tq ρ h U r fun xs=>k (x::xs)
  |none=>False
 |.cell t ty::r,k=>match lk ρ t with
  |some (.ptr id off)=>match h id with
   |some (.obj cs _)=>(U ty).sz≠0∧(U ty).k≠ .other∧iN cs off (U ty) fun x=>tq ρ h U r fun xs=>k (x::xs)
   |_=>False
  |_=>False
def au(xs:List AV):AV:=match xs with
 | [x]=>x
 |xs=> .tup xs
inductive Weak:AV→AV→Prop where
 |refl (x:AV):Weak x x
 |sl (xs:List AV) (p:Perm):Weak (.sl xs p) (.sl xs .no)
 |agg (xs ys:List AV) (hl:xs.length=ys.length) (h:∀i (h1:i<xs.length) (h2:i<ys.length),Weak xs[i] ys[i]):Weak (.agg xs) (.agg ys)
 |tup (xs ys:List AV) (hl:xs.length=ys.length) (h:∀i (h1:i<xs.length) (h2:i<ys.length),Weak xs[i] ys[i]):Weak (.tup xs) (.tup ys)
 |deep (xs ys:List AV) (p:Perm) (hl:xs.length=ys.length) (hc:∀i (h1:i<xs.length) (h2:i<ys.length),xs[i].cells.length=ys[i].cells.length)
   (h:∀i (h1:i<xs.length) (h2:i<ys.length) j (h3:j<xs[i].cells.length) (h4:j<ys[i].cells.length),Weak xs[i].cells[j] ys[i].cells[j]):Weak (.sl xs p) (.sl ys .no)
theorem Rep.weak{c:Cx}{x y:AV}(hw:Weak x y):∀ {u:Value},Rep c x u→Rep c y u:=by
 induction hw with
 |refl x=>simp
 |sl xs p=>intro u h;obtain⟨a,cap,sz,val,rfl,hs⟩:=h.iO;exact .sl xs .no a cap sz val hs.hc hs.hm hs.h0 hs.hs hs.hz hs.hf hs.hr hs.ho trivial
 |agg xs ys hl h ih=>intro u hu;obtain⟨vs,rfl,h1,h2,h3⟩:=hu.pz;exact .agg ys vs ad3 ad4 ad4
 |tup xs ys hl h ih=>intro u hu;obtain⟨vs,rfl,h1,h2⟩:=hu.CU;exact .tup ys vs ad3 ad4
 |deep xs ys p hl hc h ih=>
  intro u hu;obtain⟨a,cap,sz,val,rfl,hs⟩:=hu.iO;rw[hl];exact .sl ys .no a cap sz val (by rw[←hl];exact hs.hc) hs.hm hs.h0 hs.hs (fun i hi=>by rw[←hc i ad3 hi];exact hs.hz i ad3) (fun q hq i j hi hj=>hs.hf q hq i j ad3 hj)
   (fun i hi j hj=>ih i ad3 hi j ad4 hj (hs.hr i ad3 j ad4)) (fun i j hi hj=>hs.ho i j ad3 hj) trivial
theorem tr(hU:∀t,aP P U t){c:Cx}{ρ:Env}{h:Heap}{a:Act}(hs:Sub h c.h)(g:Good c)(he:cu c n ρ a):∀(rs:List ResultVar) (k:List AV→Prop),tq ρ h U rs k→
  ∃(xs:List AV) (vs:List Value),k xs∧vs.length=xs.length∧(∀i (h1:i<xs.length) (h2:i<vs.length),Rep c xs[i] vs[i])∧
   (rs.mapM fun(r:ResultVar)=>match r with|.tmp t=>(pure (a.tmps.getD t undef):Sem Value)|.cell q t=>do loadVar t (←asAddr (a.tmps.getD q undef))).run P c.w= .ok vs c.w
 | [],k,hk=>⟨[],[],hk,rfl,fun i h=>aeV,aea⟩
 |.tmp t::r,k,hk=>by
  simp only[tq]at hk;split at hk
  ·rename_i x hx
   obtain⟨xs,vs,h1,h2,h3,h4⟩:=tr hU hs g he r _ hk;refine⟨x::xs,a.tmps.getD t undef::vs,h1,ad4,fun i hi1 hi2=>?_,?_⟩
   ·cases i with
    |zero=>exact he.rep _ _ hx
    |succ i=>exact h3 i ad4 ad4
   simp_all
  grind
 |.cell t ty::r,k,hk=>by
  simp only[tq]at hk;split at hk
  ·rename_i id off hx
   split at hk
   ·rename_i cs t' hid
    obtain⟨hz,ht,hk⟩:=hk;obtain⟨x,hk,hX⟩:=tg (P:=P) hU hz ht hk;obtain⟨xs,vs,h1,h2,h3,h4⟩:=tr hU hs g he r _ hk;obtain⟨hu,_⟩:=(he.rep _ _ hx).lH;obtain⟨us,u1,u2,u3⟩:=g.obj id cs t' (hs _ _ hid);obtain⟨v,v1,v2⟩:=hX c (c.φ id).block 0 (fun j=>us.getD j undef) (fun j hj=>by simp_all [World.cell?]) (fun j hj=>(u3 j hj).1) (fun j hj=>(u3 j hj).2)
    rw[Nat.zero_add]at v1;refine⟨x::xs,v::vs,h1,ad4,fun i hi1 hi2=>?_,?_⟩
    ·cases i with
     |zero=>exact v2
     |succ i=>exact h3 i ad4 ad4
    simp_all [asAddr,undef,none]
   grind
  grind
def yD(args:List AV):Env:=args.zipIdx.map fun p=>(p.2,p.1)
theorem zh:∀(args:List AV) (k t:Nat),lk ((args.zipIdx k).map fun p=>(p.2,p.1)) t=if k≤t then args[t - k]? else none
 | [],k,t=>by simp[lk]
 |x::r,k,t=>by
  have ih:=zh r (k+1) t;simp only[List.zipIdx_cons,List.map_cons,lk,ih]
  by_cases e:k=t
  ·subst e;simp
  ·rw[if_neg e]
   by_cases h:k≤t
   ·rw[if_pos ad3,if_pos h]
    rw[show t - k=(t - (k+1))+1 by omega]
    rfl
   ·rw[if_neg ad3,if_neg h]
def wh(U:TypeId→TI)(rs:List ResultVar)(Q:AV→Heap→Prop)(e:Exit)(ρ:Env)(h:Heap):Prop:=
 (match e with|.ret|.normal=>True|_=>False)∧tq ρ h U rs fun xs=>∃y h',Weak (au xs) y∧Sub h' h∧Q y h'
theorem ai.MY(hU:∀t,aP P U t){f:FuncId}{args:List AV}{h:Heap}{Q:AV→Heap→Prop}(hf:P.funcs[f]? =some fn)(hb:fn.body=some c)
  (hn : (fn.name == "runtime.NumGoroutine") = false) (hl : args.length ≤ fn.ntmps)
  (hk:(∀x∈args,wfA x)→WP P fn.ntmps c (yD args) h (wh U fn.results.toList Q)):ai P f args h Q:=by
 intro cx vs hs g hv hr;refine .inl ⟨⟨fn,hf,hn,ad4⟩,calls_of_wp hf hb ?_⟩;have hwf:∀x∈args,wfA x:=fun x hx=>by obtain⟨i,hi,rfl⟩:=List.mem_iff_getElem.1 hx;exact(hr i hi).wf
 have hw:=hk hwf;have he:cu cx fn.ntmps (yD args) {tmps:=vs++Array.replicate (fn.ntmps - vs.size) undef,defers:=[]}:=by
  refine⟨ad4,rfl,fun t x hx=>?_⟩
  have:=zh args 0 t;simp only[Nat.zero_le,if_true,Nat.sub_zero]at this;have e:lk (yD args) t=args[t]? :=this;rw[e]at hx;obtain⟨hi,rfl⟩:=List.getElem?_eq_some_iff.1 hx;have h1:=hr t hi;have h2:t<vs.size:=ad3;have e2:(vs++Array.replicate (fn.ntmps - vs.size) undef).getD t undef=vs.getD t undef:=by
   rw[Array.getD,dif_pos ad4,Array.getD,dif_pos h2]
   simp_all
  simp only[e2];exact h1
 refine wp_mono (hw cx _ hs g he) fun e a w hq=>?_
 obtain⟨c',ρ',h',rfl,g',hE,he',hs',hk1,hk2⟩:=hq;obtain⟨xs,us,⟨y,h'',hwk,hsub,hQ⟩,hl',hr',hrun⟩:=tr hU hs' g' he' _ _ hk2;have hres:∃u,(results fn a.tmps).run P c'.w= .ok u c'.w∧Rep c' (au xs) u:=by
  have hrun' :(fn.results.mapM fun(r:ResultVar)=>match r with|.tmp t=>(pure (a.tmps.getD t undef):Sem Value)|.cell q t=>do loadVar t (←asAddr (a.tmps.getD q undef))).run P c'.w= .ok us.toArray c'.w:=by simp_all [Array.mapM_eq_mapM_toList,Sem.run_map]
  have hres0:(results fn a.tmps).run P c'.w= .ok (if h:us.toArray.size=1 then us.toArray[0]else .tuple us.toArray) c'.w:=by
   have e0:results fn a.tmps=(fn.results.mapM fun(r:ResultVar)=>match r with|.tmp t=>(pure (a.tmps.getD t undef):Sem Value)|.cell q t=>do loadVar t (←asAddr (a.tmps.getD q undef)))>>=fun vs=>pure (if h:vs.size=1 then vs[0]else .tuple vs):=rfl
   rw[e0,Sem.run_bind,hrun'];rfl
  by_cases h1:us.length=1
  ·obtain⟨u,rfl⟩:=List.length_eq_one_iff.1 h1
   obtain⟨x,rfl⟩:=List.length_eq_one_iff.1 (hl'.symm.trans h1);refine⟨u,?_,hr' 0 aea aea⟩
   grind
  ·refine⟨.tuple us.toArray,?_,?_⟩
   ·grind
   ·have:au xs= .tup xs:=by
     cases xs with
     |nil=>rfl
     |cons x r=>cases r with
      |nil=>grind
      |cons y q=>rfl
    rw[this];refine .tup xs _ ad3 fun i hi=>?_
    have:=hr' i hi ad3;simpa[show i<us.length by omega]using this
 obtain⟨u,hu1,hu2⟩:=hres;have fin:a.defers= []∧∃v,(results fn a.tmps).run P c'.w= .ok v c'.w∧∃u,Ending.returned v= .returned u∧fh cx Q u c'.w:=
  ⟨he'.defers,u,hu1,u,rfl,c',y,h'',rfl,g',hE,hu2.weak hwk,fun id k hk=>hs' _ _ (hsub _ _ hk),hQ⟩
 cases e with
 |normal=>exact fin
 |ret=>exact fin
 |_=>exact hk1.elim
theorem ai.VX(hU:∀t,aP P U t)(hm:P.follows .mixedOrders=true){f:FuncId}{args:List AV}{h:Heap}{Q:AV→Heap→Prop}(hf:P.funcs[f]? =some fn)(hb:fn.body=some c)
  (hn : (fn.name == "runtime.NumGoroutine") = false) (hl : args.length ≤ fn.ntmps)
  (hk:(∀x∈args,wfA x)→aW P U fn.ntmps c (yD args) h (wh U fn.results.toList Q)):ai P f args h Q:=
 ai.MY hU hf hb hn hl fun hw=>dU hU hm c _ h _ (hk hw)
end
def Ak:AV→Value→Bool
 |.v (.int k n),.int k' m=>decide (k=k') && decide (n=m)
 |.v (.bool a),.bool b=>a==b
 |.s [],.string b=>b.data.toList.isEmpty
 |.sl [] .full,.slice none 0 0=>true
 |.v (.pointer none),.pointer none=>true
 |.v .nilIface,.nilIface=>true
 |.v .nilFunc,.nilFunc=>true
 |.v (.map none),.map none=>true
 |.v (.complex k a b),.complex k' a' b' =>decide (k=k') && a==a' && b==b'
 |_,_=>false
theorem tG{x:AV}{v:Value}(h:Ak x v=true)(c:Cx):Rep c x v∧v.oneCell' =true:=by
 unfold Ak at h;split at h
 ·simp at h;obtain⟨rfl,rfl⟩:=h;exact⟨.v _,rfl⟩
 ·simp at h;subst h;exact⟨.v _,rfl⟩
 ·rename_i b
  have e:b=⟨([]:List UInt8).toArray⟩:=by
   apply ByteArray.ext
   grind
  subst e;exact⟨.s [] ad6,rfl⟩
 ·exact⟨zL c (.slice none 0 0),rfl⟩
 ·exact ah3
 ·exact ah3
 ·exact ah3
 ·exact ah3
 ·simp at h;obtain⟨⟨rfl,rfl⟩,rfl⟩:=h;exact⟨.v _,rfl⟩
 grind
def vX:List AV→List Value→Bool
 | [],[]=>true
 |x::xs,v::vs=>Ak x v && vX xs vs
 |_,_=>false
theorem xk:∀ {xs:List AV} {vs:List Value},vX xs vs=true→xs.length=vs.length∧∀i (h1:i<xs.length) (h2:i<vs.length),Ak xs[i] vs[i]=true
 | [],[],_=>aea
 |x::xs,v::vs,h=>by
  simp only[vX,Bool.and_eq_true]at h;obtain⟨h1,h2⟩:=xk h.2
  grind
 | [],_::_,h=>by grind [vX]
 |_::_,[],h=>by grind [vX]
def N7:AV→Value→Bool
 |.agg xs,.agg vs=>vX xs vs.toList
 |x,v=>Ak x v
theorem K7{x:AV}{v:Value}(h:N7 x v=true)(c:Cx):Rep c x v:=by
 unfold N7 at h;split at h
 ·rename_i xs vs
  obtain⟨h1,h2⟩:=xk h;have hl:vs.size=xs.length:=ad4;refine .agg xs vs hl (fun i hi=>?_) (fun i hi=>?_)
  ·have:=(tG (h2 i hi ad3) c).1
   simpa[show i<vs.size by omega]using this
  ·have:=(tG (h2 i hi ad3) c).2
   simpa[show i<vs.size by omega]using this
 ·exact(tG h c).1
def LR(P:Program)(U:TypeId→TI)(t:TypeId):Bool:=
 match (U t).k,P.underlying t with
 |.int k,some (.int k')=>decide (k' =k)
 |.bool,some .bool=>true
 |.str,some .string=>true
 |.slice e,some (.slice e')=>decide (e' =e)
 |.strct fs,some (.struct fields)=>decide (fields.toList.map (fun f=>(f.offset,f.type))=fs) && fs.all fun p=>(U p.2).sz !=0
 |.ptr e,some (.pointer e')=>decide (e' =e)
 |.arr n e,some (.array n' e')=>decide (n' =n) && decide (e' =e)
 |.iface,some (.interface _)=>true
 |.cplx k,some (.complex k')=>decide (k' =k)
 |.map k e,some (.map k' e')=>decide (k' =k) && decide (e' =e)
 |.other,_=>true
 |_,_=>false
def Mm(P:Program)(U:TypeId→TI)(t:TypeId):Bool:=
 (U t).sz==0||match P.info? t with
  |some i=>i.size==(U t).sz && i.bytes==(U t).bytes && match i.zero with
   |some z=>z.cells.size==(U t).sz && N7 (U t).zero z
   |none=>false
  |none=>false
def NV(P:Program)(U:TypeId→TI)(t:TypeId):Bool:=match (U t).k with
 |.strct []=>match P.info? t with
  |some i=>match i.zero with
   |some (.agg vs)=>vs.isEmpty && i.size==0
   |_=>false
  |none=>false
 |_=>true
def Tb:TK→TK→Bool
 |.int a,.int b=>decide (a=b)
 |.bool,.bool=>true
 |.str,.str=>true
 |.cplx a,.cplx b=>decide (a=b)
 |_,_=>false
theorem PY{a b:TK}(h:Tb a b=true):a=b:=by
 unfold Tb at h
 grind
def uQ:List TK→List TK→Bool
 | [],[]=>true
 |x::xs,y::ys=>Tb x y && uQ xs ys
 |_,_=>false
theorem uS:∀ {a b:List TK},uQ a b=true→a=b
 | [],[],_=>rfl
 | [],_::_,h=>aeV
 |_::_,[],h=>aeV
 |x::xs,y::ys,h=>by simp only[uQ,Bool.and_eq_true]at h;rw[PY h.1,uS h.2]
def z7(U:TypeId→TI)(r:Nat):List (Nat×TypeId)→Nat→List TK→Bool
 | [],_,l=>l.isEmpty
 |f::fs,o,l=>match (U f.2).eq with
  |some (r',l')=>f.1==o && decide (r' <r) && uQ (l.take l'.length) l' && z7 U r fs (o+l'.length) (l.drop l'.length)
  |none=>false
theorem xe{U:TypeId→TI}{r:Nat}:∀ {fs:List (Nat×TypeId)} {o:Nat} {l:List TK},z7 U r fs o l=true→Fe U r fs o l
 | [],o,l,h=>by grind [z7,Fe]
 |f::fs,o,l,h=>by
  unfold z7 at h;split at h
  ·rename_i r' l' he
   simp only[Bool.and_eq_true,beq_iff_eq,decide_eq_true_eq]at h;obtain⟨⟨⟨h1,h2⟩,h3⟩,h4⟩:=h;exact⟨h1,r',l',he,h2,uS h3,xe h4⟩
  grind
def eqB(P:Program)(U:TypeId→TI)(t:TypeId):Bool:=match (U t).eq with
 |none=>true
 |some (r,l)=>l.length==(U t).sz && !l.isEmpty && decide (r<100) && match (U t).k with
  |.int k=>uQ l [.int k]
  |.bool=>uQ l [.bool]
  |.str=>uQ l [.str]
  |.cplx k=>uQ l [.cplx k]
  | .strct fs => !P.stoodInHeld t && !P.eqGuardType P.depth t && (P.fieldsOf t).toList.all (fun f => f.name != "_") && z7 U r fs 0 l
  |.arr n e=> !P.eqGuardType P.depth t && match (U e).eq with
   |some (r',l')=>decide (r' <r) && uQ l (List.replicate n l').flatten
   |none=>false
  |_=>false
theorem L3{P:Program}{U:TypeId→TI}{t:TypeId}(h:eqB P U t=true):∀r l,(U t).eq=some (r,l)→Of P U t r l:=by
 intro r l he;unfold eqB at h;rw[he]at h;simp only[Bool.and_eq_true,beq_iff_eq,decide_eq_true_eq,Bool.not_eq_true']at h;obtain⟨⟨⟨h1,h2⟩,h3⟩,h4⟩:=h;refine⟨h1,(by intro e;rw[e]at h2;cases h2),h3,?_⟩
 cases hk:(U t).k<;>rw[hk]at h4<;>simp only at h4⊢<;>first|exact uS h4|(cases h4)|skip
 ·simp only[Bool.and_eq_true,Bool.not_eq_true',List.all_eq_true]at h4
  obtain⟨⟨⟨g1,g2⟩,g3⟩,g4⟩:=h4;exact⟨g1,g2,fun f hf=>by simpa using g3 f (by simpa using hf),xe g4⟩
 ·simp only[Bool.and_eq_true,Bool.not_eq_true']at h4
  obtain⟨g1,g2⟩:=h4;split at g2
  ·rename_i r' l' he'
   simp only[Bool.and_eq_true,decide_eq_true_eq]at g2;exact⟨g1,r',l',he',g2.1,uS g2.2⟩
  ·cases g2
theorem Ll{P:Program}{U:TypeId→TI}{t:TypeId}(h1:LR P U t=true)(h2:Mm P U t=true)(h3:NV P U t=true)(h4:eqB P U t=true):aP P U t:=by
 refine⟨?_,fun hz=>?_,fun hz=>?_,L3 h4⟩
 ·unfold LR at h1
  grind
 ·unfold Mm at h2
  simp only[Bool.or_eq_true,beq_iff_eq,hz,false_or]at h2;split at h2
  ·rename_i i hi
   simp only[Bool.and_eq_true,beq_iff_eq]at h2;obtain⟨⟨h3,h4⟩,h5⟩:=h2;split at h5
   ·simp_all [Bool.and_eq_true,beq_iff_eq,K7]
   grind
  grind
 ·unfold NV at h3
  grind
theorem IZ{P:Program}{U:TypeId→TI}(N:Nat)(h:(List.range N).all (fun t=>LR P U t && Mm P U t && NV P U t && eqB P U t)=true)(h' :∀t,N≤t→U t=⟨.other,0,0,default,none⟩):∀t,aP P U t:=by
 intro t
 by_cases ht:t<N
 ·simp_all [List.all_eq_true,Bool.and_eq_true,Ll]
 ·have:=h' t ad4
  exact⟨ad4,fun hz=>ad4,fun hz=>ad4,fun r l he=>ad4⟩
section
variable {sz m:Nat}{I:Nat→Env→Heap→Prop}{c:Code}
variable {P : Program} {U : TypeId → TI} {n : Nat} {ρ : Env} {h : Heap}
def aE{α:Type}(o:Option α)(k:α→Prop):Prop:=match o with
 |some y=>k y
 |none=>False
@[congr] theorem Qt{α:Type}{o o' :Option α}{k:α→Prop}(e:o=o'):aE o k=aE o' k:=by rw[e]
theorem dN{α:Type}(y:α)(k:α→Prop):aE (some y) k=k y:=(rfl)
def Br(t:Bool)(A B:Prop):Prop:=(t=true→A)∧(t=false→B)
@[congr] theorem UF{t t' :Bool}{A B:Prop}(e:t=t'):Br t A B=Br t' A B:=by rw[e]
attribute [go_sem] dN
@[go_sem] theorem Wv(A B:Prop):Br true A B=A:=by simp[Br]
theorem UG(A B:Prop):Br false A B=B:=by simp[Br]
def atH(Q:AV→Heap→Prop)(h:Heap)(r:AV):Prop:=Q r h
theorem XO(Q:AV→Heap→Prop)(h:Heap)(r:AV):atH Q h r=Q r h:=(rfl)
def atK(t:TK)(k:TK→Prop):Prop:=k t
@[congr] theorem TS{t t' :TK}{k:TK→Prop}(e:t=t'):atK t k=atK t' k:=by rw[e]
theorem WI(x:IntKind)(k:TK→Prop):atK (.int x) k=k (.int x):=(rfl)
theorem WK(k:TK→Prop):atK .str k=k .str:=(rfl)
theorem TT(x:TypeId)(k:TK→Prop):atK (.slice x) k=k (.slice x):=(rfl)
theorem TU(x:List (Nat×TypeId))(k:TK→Prop):atK (.strct x) k=k (.strct x):=(rfl)
def fC(xs:List AV)(m:Int)(sz:Nat)(k:AV→Prop):Prop:=Idx xs m fun b=>b.cells.length=sz∧k (.pe b 0)
theorem fC.at{xs:List AV}{k:AV→Prop}(j:Nat)(hj:j<xs.length)(hz:xs[j].cells.length=sz)(hk:k (.pe xs[j] 0)):fC xs (j:Int) sz k:=⟨ad3,xs[j],aea,hz,hk⟩
def Oi(l:List UInt8)(m:Int)(k:AV→Prop):Prop:=Idx l m fun b=>k (aN b)
theorem Oi.at{l:List UInt8}{k:AV→Prop}(j:Nat)(hj:j<l.length)(hk:k (aN l[j])):Oi l (j:Int) k:=⟨ad3,l[j],aea,hk⟩
@[congr] theorem Rg{f f' :FuncId}{a a' :List AV}{h h' :Heap}{Q:AV→Heap→Prop}(h0:f=f')(h1:a=a')(h2:h=h'):ai P f a h Q=ai P f' a' h' Q:=by grind
theorem Xo(k:Nat)(x:AV)(r:Env)(t:Nat):lk ((k,x)::r) t=if k=t then some x else lk r t:=(rfl)
theorem QI(d:Nat)(x:AV)(r:Env)(t:Nat):lk (put r (some d) x) t=if d=t then some x else lk r t:=(rfl)
theorem QH(x:AV)(r:Env)(t:Nat):lk (put r none x) t=lk r t:=(rfl)
theorem Ym(args:List AV)(t:Nat):lk (yD args) t=args[t]? :=by have:=zh args 0 t;exact aeE
theorem Vx{α:Type}(x:α)(r:List α):(x::r)[0]? =some x:=(rfl)
attribute [go_sem] UG WI WK TT TU Vx
attribute [go_sem↓] XO Xo QI QH Ym
theorem Vw{α:Type}(x:α)(r:List α)(i:Nat):(x::r)[i+1]? =r[i]? :=by simp
theorem Yd(t:Nat):ev ρ (.tmp t)=lk ρ t:=(rfl)
theorem Yb(k:IntKind)(m:Int):ev ρ (.const (.int k m))=some (.v (.int k m)):=(rfl)
theorem W2(b:Bool):ev ρ (.const (.bool b))=some (.b b):=(rfl)
theorem Yc(a:Option Addr):ev ρ (.const (.pointer a))=some (.v (.pointer a)):=(rfl)
theorem W3(k:FloatKind)(a b:Nat):ev ρ (.const (.complex k a b))=some (.v (.complex k a b)):=(rfl)
theorem Vl(k:FloatKind)(a:Nat):ev ρ (.const (.float k a))=some (.v (.float k a)):=(rfl)
theorem QD:ev ρ (.const (.slice none 0 0))=some (.sl [] .full):=(rfl)
theorem W5:ev ρ (.const (.string ⟨#[]⟩))=some (.s []):=(rfl)
theorem W6(a0:UInt8):ev ρ (.const (.string ⟨#[a0]⟩))=some (.s [a0]):=(rfl)
theorem W7(a0 a1:UInt8):ev ρ (.const (.string ⟨#[a0,a1]⟩))=some (.s [a0,a1]):=(rfl)
theorem W8(a0 a1 a2:UInt8):ev ρ (.const (.string ⟨#[a0,a1,a2]⟩))=some (.s [a0,a1,a2]):=(rfl)
theorem W9(a0 a1 a2 a3:UInt8):ev ρ (.const (.string ⟨#[a0,a1,a2,a3]⟩))=some (.s [a0,a1,a2,a3]):=(rfl)
theorem Xa(a0 a1 a2 a3 a4:UInt8):ev ρ (.const (.string ⟨#[a0,a1,a2,a3,a4]⟩))=some (.s [a0,a1,a2,a3,a4]):=(rfl)
theorem Xb(a0 a1 a2 a3 a4 a5:UInt8):ev ρ (.const (.string ⟨#[a0,a1,a2,a3,a4,a5]⟩))=some (.s [a0,a1,a2,a3,a4,a5]):=(rfl)
theorem Xc(a0 a1 a2 a3 a4 a5 a6:UInt8):ev ρ (.const (.string ⟨#[a0,a1,a2,a3,a4,a5,a6]⟩))=some (.s [a0,a1,a2,a3,a4,a5,a6]):=(rfl)
theorem Xd(a0 a1 a2 a3 a4 a5 a6 a7:UInt8):ev ρ (.const (.string ⟨#[a0,a1,a2,a3,a4,a5,a6,a7]⟩))=some (.s [a0,a1,a2,a3,a4,a5,a6,a7]):=(rfl)
theorem Vm(a0 a1 a2 a3 a4 a5 a6 a7 a8 a9:UInt8):ev ρ (.const (.string ⟨#[a0,a1,a2,a3,a4,a5,a6,a7,a8,a9]⟩))=some (.s [a0,a1,a2,a3,a4,a5,a6,a7,a8,a9]):=(rfl)
theorem Vn(a0 a1 a2 a3 a4 a5 a6 a7 a8 a9 a10:UInt8):ev ρ (.const (.string ⟨#[a0,a1,a2,a3,a4,a5,a6,a7,a8,a9,a10]⟩))=some (.s [a0,a1,a2,a3,a4,a5,a6,a7,a8,a9,a10]):=(rfl)
theorem Vo(a0 a1 a2 a3 a4 a5 a6 a7 a8 a9 a10 a11:UInt8):ev ρ (.const (.string ⟨#[a0,a1,a2,a3,a4,a5,a6,a7,a8,a9,a10,a11]⟩))=some (.s [a0,a1,a2,a3,a4,a5,a6,a7,a8,a9,a10,a11]):=(rfl)
theorem Vp(a0 a1 a2 a3 a4 a5 a6 a7 a8 a9 a10 a11 a12:UInt8):ev ρ (.const (.string ⟨#[a0,a1,a2,a3,a4,a5,a6,a7,a8,a9,a10,a11,a12]⟩))=some (.s [a0,a1,a2,a3,a4,a5,a6,a7,a8,a9,a10,a11,a12]):=(rfl)
theorem Vq(a0 a1 a2 a3 a4 a5 a6 a7 a8 a9 a10 a11 a12 a13 a14 a15:UInt8):ev ρ (.const (.string ⟨#[a0,a1,a2,a3,a4,a5,a6,a7,a8,a9,a10,a11,a12,a13,a14,a15]⟩))=some (.s [a0,a1,a2,a3,a4,a5,a6,a7,a8,a9,a10,a11,a12,a13,a14,a15]):=(rfl)
theorem Vr(a0 a1 a2 a3 a4 a5 a6 a7 a8 a9 a10 a11 a12 a13 a14 a15 a16:UInt8):ev ρ (.const (.string ⟨#[a0,a1,a2,a3,a4,a5,a6,a7,a8,a9,a10,a11,a12,a13,a14,a15,a16]⟩))=some (.s [a0,a1,a2,a3,a4,a5,a6,a7,a8,a9,a10,a11,a12,a13,a14,a15,a16]):=(rfl)
theorem W4(f:FuncId):ev ρ (.func f)=some (.fn f []):=(rfl)
def Qx(x:Option AV)(r:Option (List AV)):Option (List AV):=match x,r with
 |some y,some ys=>some (y::ys)
 |_,_=>none
theorem RI(y:AV)(ys:List AV):Qx (some y) (some ys)=some (y::ys):=(rfl)
theorem Xe:evs ρ []=some []:=(rfl)
theorem Vs(x:Operand)(r:List Operand):evs ρ (x::r)=Qx (ev ρ x) (evs ρ r):=(rfl)
theorem cc(x:Operand)(k:AV→Prop):withv ρ x k=aE (ev ρ x) k:=by grind [withv,aE,ev]
theorem gY(xs:List Operand)(k:List AV→Prop):withvs ρ xs k=aE (evs ρ xs) k:=by grind [withvs,aE,evs]
theorem YG(K:Exit→Env→Heap→Prop):aW P U n .skip ρ h K=K .normal ρ h:=(rfl)
theorem V0(id:Nat)(l:List Oper)(K:Exit→Env→Heap→Prop):aW P U n (.region id l.toArray false) ρ h K=kU P U n l l ρ h (K .normal):=(rfl)
def tH(P:Program)(U:TypeId→TI)(n:Nat)(b:Code)(K:Exit→Env→Heap→Prop):Exit→Env→Heap→Prop:=KSeq (fun ρ h=>aW P U n b ρ h K) K
theorem abU(a b:Code)(K:Exit→Env→Heap→Prop):aW P U n (.seq a b) ρ h K=aW P U n a ρ h (tH P U n b K):=(rfl)
theorem Ok(b:Code)(K:Exit→Env→Heap→Prop):tH P U n b K .normal ρ h=aW P U n b ρ h K:=(rfl)
theorem TF(b:Code)(K:Exit→Env→Heap→Prop):tH P U n b K .ret ρ h=K .ret ρ h:=(rfl)
theorem Rn(b:Code)(K:Exit→Env→Heap→Prop)(i:Nat):tH P U n b K (.exit i) ρ h=K (.exit i) ρ h:=(rfl)
theorem Ro(b:Code)(K:Exit→Env→Heap→Prop)(i:Nat):tH P U n b K (.goto i) ρ h=K (.goto i) ρ h:=(rfl)
def nF(P:Program)(U:TypeId→TI)(n:Nat)(a b:Code)(ρ:Env)(h:Heap)(K:Exit→Env→Heap→Prop)(y:AV):Prop:=match y with
 |.v (.bool t)=>(t=true→aW P U n a ρ h K)∧(t=false→aW P U n b ρ h K)
 |_=>False
attribute [go_sem] Vw RI
attribute [go_sem↓] Yd Yb W2 Yc W3 Vl QD W5 W6 W7 W8 W9 Xa Xb Xc Xd Vm Vn Vo Vp Vq Vr W4 Xe Vs cc gY YG V0 abU Ok TF Rn Ro
@[go_sem↓] theorem Re(a b:Code)(K:Exit→Env→Heap→Prop):nF P U n a b ρ h K (.b true)=aW P U n a ρ h K:=by simp[nF]
theorem Qh(a b:Code)(K:Exit→Env→Heap→Prop):nF P U n a b ρ h K (.b false)=aW P U n b ρ h K:=by simp[nF]
theorem nF.intro{a b:Code}{K:Exit→Env→Heap→Prop}{t:Bool}(h1:t=true→aW P U n a ρ h K)(h2:t=false→aW P U n b ρ h K):nF P U n a b ρ h K (.b t):=⟨h1,h2⟩
theorem nF.no{a b:Code}{K:Exit→Env→Heap→Prop}{t:Bool}(e:t=false)(h1:aW P U n b ρ h K):nF P U n a b ρ h K (.b t):=⟨fun h=>absurd (e.symm.trans h) aea,fun _=>h1⟩
attribute [go_sem↓] Qh
theorem Yz(c:Operand)(a b:Code)(K:Exit→Env→Heap→Prop):aW P U n (.cond c a b) ρ h K=aE (ev ρ c) (nF P U n a b ρ h K):=by
 simp only[aW,withv];cases ev ρ c with
 |none=>rfl
 |some y=>rfl
theorem XA(id:Nat)(c:Code)(K:Exit→Env→Heap→Prop):aW P U n (.block id c) ρ h K=aW P U n c ρ h (KBlock id K):=(rfl)
def oJ(P:Program)(U:TypeId→TI)(n:Nat)(c:Code)(ρ:Env)(h:Heap)(K:Exit→Env→Heap→Prop):Prop:=Ld (fun ρ h K=>aW P U n c ρ h K) ρ h K
def KRound(I:Nat→Env→Heap→Prop)(m:Nat)(K:Exit→Env→Heap→Prop):Exit→Env→Heap→Prop:=KSeq (fun ρ' h' =>∃m',m' <m∧I m' ρ' h') K
theorem Rm{K:Exit→Env→Heap→Prop}:KRound I m K .ret ρ h=K .ret ρ h:=(rfl)
theorem Qm{K:Exit→Env→Heap→Prop}(i:Nat):KRound I m K (.exit i) ρ h=K (.exit i) ρ h:=(rfl)
theorem oJ.intro{K:Exit→Env→Heap→Prop}(I:Nat→Env→Heap→Prop)(m:Nat)(h0:I m ρ h)(hr:∀m ρ h,I m ρ h→aW P U n c ρ h (KRound I m K)):oJ P U n c ρ h K:=fun _=>⟨I,m,h0,hr⟩
theorem oJ.wf{K:Exit→Env→Heap→Prop}(hk:Wf ρ→oJ P U n c ρ h K):oJ P U n c ρ h K:=fun hw=>hk hw hw
theorem YF(c:Code)(K:Exit→Env→Heap→Prop):aW P U n (.loop c) ρ h K=oJ P U n c ρ h K:=(rfl)
theorem TD(l:Nat)(J:Env→Heap→Prop)(K:Exit→Env→Heap→Prop):KJump l J K .ret ρ h=K .ret ρ h:=(rfl)
attribute [go_sem↓] Yz XA Rm Qm YF TD
theorem Rk(l:Nat)(J:Env→Heap→Prop)(K:Exit→Env→Heap→Prop):KJump l J K (.goto l) ρ h=J ρ h:=by simp[KJump]
theorem YC(id:Nat)(K:Exit→Env→Heap→Prop):aW P U n (.exit id) ρ h K=K (.exit id) ρ h:=(rfl)
theorem abT(K:Exit→Env→Heap→Prop):aW P U n .ret ρ h K=K .ret ρ h:=(rfl)
theorem XD(l:Nat)(K:Exit→Env→Heap→Prop):aW P U n (.label l) ρ h K=K .normal ρ h:=(rfl)
theorem YE(l:Nat)(K:Exit→Env→Heap→Prop):aW P U n (.goto l) ρ h K=K (.goto l) ρ h:=(rfl)
theorem N9(id:Nat)(K:Exit→Env→Heap→Prop):KBlock id K .normal ρ h=K .normal ρ h:=(rfl)
theorem Ri(id:Nat)(K:Exit→Env→Heap→Prop):KBlock id K .ret ρ h=K .ret ρ h:=(rfl)
theorem Ql(id:Nat)(K:Exit→Env→Heap→Prop)(j:Nat):KBlock id K (.exit j) ρ h=if j=id then K .normal ρ h else K (.exit j) ρ h:=(rfl)
theorem abS(all:List Oper)(K:Env→Heap→Prop):kU P U n all [] ρ h K=K ρ h:=(rfl)
def KOps(P:Program)(U:TypeId→TI)(n:Nat)(all os:List Oper)(K:Env→Heap→Prop)(ρ:Env)(d:Option Tmp)(x:AV)(h:Heap):Prop:=kU P U n all os (put ρ d x) h K
theorem Wy(all os:List Oper)(K:Env→Heap→Prop)(d:Option Tmp)(x:AV):KOps P U n all os K ρ d x h=kU P U n all os (put ρ d x) h K:=(rfl)
theorem YA(all:List Oper)(d:Option Tmp)(op:Op)(t:TypeId)(p:String)(a:Array Edge)(os:List Oper)(K:Env→Heap→Prop):
  kU P U n all (⟨d,op,t,p,a,none⟩::os) ρ h K=(eY n d=true∧bg P U ρ h ⟨d,op,t,p,a,none⟩ (KOps P U n all os K ρ d)):=(rfl)
attribute [go_sem↓] Rk YC abT XD YE N9 Ri Ql abS Wy YA
@[go_sem] theorem R7(d:Nat):(eY n (some d)=true)=(d<n):=by simp[eY]
theorem R6:(eY n none=true)=True:=by simp[eY]
def gB(d:Nat)(w:Bool)(ρ:Env)(yes no:Env→Prop)(x:AV):Prop:=match x with
 |.v (.bool t)=>if w then Br t (yes ((d,.b true)::ρ)) (no ((d,.b false)::ρ))else Br t (no ((d,.b true)::ρ)) (yes ((d,.b false)::ρ))
 |.v (.tuple _)=>no ρ
 |_=>False
theorem R5(d:Option Tmp)(op:Op)(t:TypeId)(p:String)(a:Array Edge)(g:Option (Nat×Bool))(os:List Oper):qx (⟨d,op,t,p,a,g⟩::os) 0=d:=(rfl)
theorem R3(o:Oper)(os:List Oper)(i:Nat):qx (o::os) (i+1)=qx os i:=(rfl)
attribute [go_sem] R6
attribute [go_sem↓] R5 R3
theorem vn(all:List Oper)(g:Nat)(w:Bool)(yes no:Env→Prop):j8 all ρ (some (g,w)) yes no=aE (qx all g) fun d=>aE (lk ρ d) fun x=>gB d w ρ yes no x:=by
 simp only[j8];cases qx all g with
 |none=>rfl
 |some d=>
  simp only[dN];cases lk ρ d with
  |none=>rfl
  |some x=>cases x with
   |v u=>cases u<;>first|rfl|(rename_i t;cases w<;>cases t<;>simp[aE,gB,Br])
   |_=>rfl
def jw(P:Program)(U:TypeId→TI)(n:Nat)(all os:List Oper)(ρ:Env)(h:Heap)(K:Env→Heap→Prop)(w:Bool)(d:Option Tmp)(op:Op)(t:TypeId)(p:String)(a:Array Edge)(s:Nat)(x:AV):Prop:=
 gB s w ρ (fun ρ=>bg P U ρ h ⟨d,op,t,p,a,none⟩ (KOps P U n all os K ρ d)) (fun ρ=>kU P U n all os (put ρ d (.v undef)) h K) x
section
variable {all os : List Oper} {K : Env → Heap → Prop} {d : Option Tmp} {op : Op} {t : TypeId} {p : String} {a : Array Edge} {s : Nat}
@[go_sem↓] theorem Tx:jw P U n all os ρ h K true d op t p a s (.b true)=bg P U ((s,.b true)::ρ) h ⟨d,op,t,p,a,none⟩ (KOps P U n all os K ((s,.b true)::ρ) d):=by simp[jw,gB,Br]
@[go_sem↓] theorem Tw:jw P U n all os ρ h K true d op t p a s (.b false)=kU P U n all os (put ((s,.b false)::ρ) d (.v undef)) h K:=by simp[jw,gB,Br]
@[go_sem↓] theorem Tv:jw P U n all os ρ h K false d op t p a s (.b true)=kU P U n all os (put ((s,.b true)::ρ) d (.v undef)) h K:=by simp[jw,gB,Br]
theorem Tu:jw P U n all os ρ h K false d op t p a s (.b false)=bg P U ((s,.b false)::ρ) h ⟨d,op,t,p,a,none⟩ (KOps P U n all os K ((s,.b false)::ρ) d):=by simp[jw,gB,Br]
theorem Oh(w:Bool):jw P U n all os ρ h K w d op t p a s (.v undef)=kU P U n all os (put ρ d (.v undef)) h K:=(rfl)
theorem jw.intro{w b:Bool}(h1:b=true→jw P U n all os ρ h K w d op t p a s (.b true))(h2:b=false→jw P U n all os ρ h K w d op t p a s (.b false)):jw P U n all os ρ h K w d op t p a s (.b b):=by
 cases b
 ·grind
 grind
attribute [go_sem↓] Tu Oh
end
@[go_sem↓] theorem XB(all:List Oper)(d:Option Tmp)(op:Op)(t:TypeId)(p:String)(a:Array Edge)(g:Nat)(w:Bool)(os:List Oper)(K:Env→Heap→Prop):
  kU P U n all (⟨d,op,t,p,a,some (g,w)⟩::os) ρ h K=(eY n d=true∧aE (qx all g) fun s=>aE (lk ρ s) (jw P U n all os ρ h K w d op t p a s)):=by
 have:=vn (ρ:=ρ) all g w (fun ρ=>bg P U ρ h ⟨d,op,t,p,a,none⟩ (KOps P U n all os K ρ d)) (fun ρ=>kU P U n all os (put ρ d (.v undef)) h K)
 rw[show(fun s=>aE (lk ρ s) (jw P U n all os ρ h K w d op t p a s))=fun d_1=>aE (lk ρ d_1) fun x=>gB d_1 w ρ (fun ρ=>bg P U ρ h ⟨d,op,t,p,a,none⟩ (KOps P U n all os K ρ d)) (fun ρ=>kU P U n all os (put ρ d (.v undef)) h K) x from rfl,←this]
 rfl
variable {d : Option Tmp} {t : TypeId} {p : String} {a : Array Edge} {g : Option (Nat × Bool)} {Q : AV → Heap → Prop}
theorem Ys(x:Operand):bg P U ρ h ⟨d,.move x,t,p,a,g⟩ Q=aE (ev ρ x) (atH Q h):=(cc x _)
theorem VV(x:Operand):bg P U ρ h ⟨d,.assign x,t,p,a,g⟩ Q=aE (ev ρ x) (atH Q h):=(cc x _)
def Nd(ρ:Env)(x z:Operand)(k:AV→Prop)(y:AV):Prop:=match y with
 |.v (.bool true)=>aE (ev ρ x) k
 |.v (.bool false)=>aE (ev ρ z) k
 |_=>False
theorem SQ(x z:Operand)(k:AV→Prop):Nd ρ x z k (.b true)=aE (ev ρ x) k:=(rfl)
theorem QV(x z:Operand)(k:AV→Prop):Nd ρ x z k (.b false)=aE (ev ρ z) k:=(rfl)
attribute [go_sem↓] Ys VV SQ QV
theorem Yt(x y z:Operand):bg P U ρ h ⟨d,.pick x y z,t,p,a,g⟩ Q=aE (ev ρ x) (Nd ρ y z (atH Q h)):=by
 simp only[bg,pv,cc]
 congr 1
def QN(k:AV→Prop)(y:AV):Prop:=match y with
 |.ptr .. |.pe .. |.fn .. =>k y
 |_=>False
theorem Um(i o:Nat)(k:AV→Prop):QN k (.ptr i o)=k (.ptr i o):=(rfl)
attribute [go_sem↓] Yt Um
theorem SI(x:Operand):bg P U ρ h ⟨d,.nilCheck x,t,p,a,g⟩ Q=aE (ev ρ x) (QN (atH Q h)):=by
 simp only[bg,pv,cc]
 congr 1
@[congr] theorem RE{op:BinOp}{ty:TypeId}{x x' y y' :AV}{K:AV→Prop}(e1:x=x')(e2:y=y'):cw U op ty x y K=cw U op ty x' y' K:=by grind
attribute [go_sem↓] SI
theorem vD(op:BinOp)(ty ty' :TypeId)(x y:Operand)(hy:GF y=false):bg P U ρ h ⟨d,.binOp op ty x y ty',t,p,a,g⟩ Q=aE (ev ρ x) fun u=>aE (ev ρ y) fun v=>cw U op ty u v (atH Q h):=by simp only[bg,pv,cc,hy];rfl
theorem Xs(op:BinOp)(ty ty' :TypeId)(x:Operand)(y:Tmp):bg P U ρ h ⟨d,.binOp op ty x (.tmp y) ty',t,p,a,g⟩ Q=aE (ev ρ x) fun u=>aE (ev ρ (.tmp y)) fun v=>cw U op ty u v (atH Q h):=vD _ _ _ _ _ rfl
theorem Up(op:BinOp)(ty ty' :TypeId)(x:Operand)(ik:IntKind)(im:Int):bg P U ρ h ⟨d,.binOp op ty x (.const (.int ik im)) ty',t,p,a,g⟩ Q=aE (ev ρ x) fun u=>cw U op ty u (.v (.int ik im)) (atH Q h):=vD _ _ _ _ _ rfl
theorem Un(op:BinOp)(ty ty' :TypeId)(x:Operand)(ik:FloatKind)(im jm:Nat):bg P U ρ h ⟨d,.binOp op ty x (.const (.complex ik im jm)) ty',t,p,a,g⟩ Q=aE (ev ρ x) fun u=>cw U op ty u (.v (.complex ik im jm)) (atH Q h):=vD _ _ _ _ _ rfl
theorem Uo(op:BinOp)(ty ty' :TypeId)(x:Operand)(ik:FloatKind)(im:Nat):bg P U ρ h ⟨d,.binOp op ty x (.const (.float ik im)) ty',t,p,a,g⟩ Q=aE (ev ρ x) fun u=>cw U op ty u (.v (.float ik im)) (atH Q h):=vD _ _ _ _ _ rfl
theorem Us(op:BinOp)(ty ty' :TypeId)(x:Operand)(b:ByteArray):bg P U ρ h ⟨d,.binOp op ty x (.const (.string b)) ty',t,p,a,g⟩ Q=aE (ev ρ x) fun u=>aE (ev ρ (.const (.string b))) fun v=>cw U op ty u v (atH Q h):=vD _ _ _ _ _ rfl
theorem Ur(op:BinOp)(ty ty' :TypeId)(x:Operand)(b:Option Addr):bg P U ρ h ⟨d,.binOp op ty x (.const (.pointer b)) ty',t,p,a,g⟩ Q=aE (ev ρ x) fun u=>cw U op ty u (.v (.pointer b)) (atH Q h):=vD _ _ _ _ _ rfl
def SG(h:Heap)(op:BinOp)(x:AV)(Q:AV→Heap→Prop)(tk:TK):Prop:=match tk,op,x with
 |.slice _,.eql,.sl xs _=>∀b:Bool,(xs≠ []→b=false)→Q (.b b) h
 |.slice _,.neq,.sl xs _=>∀b:Bool,(xs≠ []→b=true)→Q (.b b) h
 |.slice _,.eql,.oa .. =>Q (.b false) h
 |.slice _,.neq,.oa .. =>Q (.b true) h
 |.slice _,.eql,.ob .. =>Q (.b false) h
 |.slice _,.neq,.ob .. =>Q (.b true) h
 |_,_,_=>False
attribute [go_sem↓] Xs Up Un Uo Us Ur
@[go_sem↓] theorem Uq(op:BinOp)(ty ty' :TypeId)(x:Operand)(l k:Nat):bg P U ρ h ⟨d,.binOp op ty x (.const (.slice none l k)) ty',t,p,a,g⟩ Q=aE (ev ρ x) fun u=>atK (U ty).k (SG h op u Q):=by simp only[bg,GF,cc,atK,if_true];rfl
section
variable {ty : TypeId} {K : AV → Prop}
@[go_sem] theorem abr(k:IntKind)(x y:Int):cw U .add ty (.v (.int k x)) (.v (.int k y)) K=K (.v (.int k (k.wrap (x+y)))):=by simp[cw,fY,qQ]
@[go_sem] theorem abC(k:IntKind)(x y:Int):cw U .sub ty (.v (.int k x)) (.v (.int k y)) K=K (.v (.int k (k.wrap (x - y)))):=by simp[cw,fY,qQ]
@[go_sem] theorem aby(k:IntKind)(x y:Int):cw U .mul ty (.v (.int k x)) (.v (.int k y)) K=K (.v (.int k (k.wrap (x*y)))):=by simp[cw,fY,qQ]
@[go_sem] theorem abA(k:IntKind)(x y:Int):cw U .quo ty (.v (.int k x)) (.v (.int k y)) K=(y≠0∧K (.v (.int k (k.wrap (x.tdiv y))))):=by simp[cw,fY,qQ]
@[go_sem] theorem abB(k:IntKind)(x y:Int):cw U .rem ty (.v (.int k x)) (.v (.int k y)) K=(y≠0∧K (.v (.int k (x.tmod y)))):=by simp[cw,fY,qQ]
@[go_sem] theorem Lv(k:IntKind)(x y:Int):cw U .and ty (.v (.int k x)) (.v (.int k y)) K=K (.v (.int k (k.wrap (BitVec.ofInt k.bits x &&& BitVec.ofInt k.bits y).toNat))):=by simp[cw,fY,qQ]
@[go_sem] theorem UX(k:IntKind)(x y:Int):cw U .or ty (.v (.int k x)) (.v (.int k y)) K=K (.v (.int k (k.wrap (BitVec.ofInt k.bits x|||BitVec.ofInt k.bits y).toNat))):=by simp[cw,fY,qQ]
@[go_sem] theorem Qs(k:IntKind)(x y:Int):cw U .xor ty (.v (.int k x)) (.v (.int k y)) K=K (.v (.int k (k.wrap (BitVec.ofInt k.bits x ^^^ BitVec.ofInt k.bits y).toNat))):=by simp[cw,fY,qQ]
@[go_sem] theorem abt(k:IntKind)(x y:Int):cw U .eql ty (.v (.int k x)) (.v (.int k y)) K=K (.b (x==y)):=by simp[cw,fY,qQ]
@[go_sem] theorem abz(k:IntKind)(x y:Int):cw U .neq ty (.v (.int k x)) (.v (.int k y)) K=K (.b (x !=y)):=by simp[cw,fY,qQ]
@[go_sem] theorem abx(k:IntKind)(x y:Int):cw U .lss ty (.v (.int k x)) (.v (.int k y)) K=K (.b (decide (x<y))):=by simp[cw,fY,qQ]
@[go_sem] theorem abw(k:IntKind)(x y:Int):cw U .leq ty (.v (.int k x)) (.v (.int k y)) K=K (.b (decide (x≤y))):=by simp[cw,fY,qQ]
@[go_sem] theorem abv(k:IntKind)(x y:Int):cw U .gtr ty (.v (.int k x)) (.v (.int k y)) K=K (.b (decide (y<x))):=by simp[cw,fY,qQ]
theorem abu(k:IntKind)(x y:Int):cw U .geq ty (.v (.int k x)) (.v (.int k y)) K=K (.b (decide (y≤x))):=by simp[cw,fY,qQ]
theorem Qr(k k' :IntKind)(x y:Int):cw U .shl ty (.v (.int k x)) (.v (.int k' y)) K=(0≤y∧K (.v (.int k (k.wrap (x*2 ^ (min y.toNat k.bits)))))):=(rfl)
theorem Lw(k k' :IntKind)(x y:Int):cw U .shr ty (.v (.int k x)) (.v (.int k' y)) K=(0≤y∧K (.v (.int k (x.fdiv (2 ^ (min y.toNat k.bits)))))):=(rfl)
theorem XV(x y:List UInt8):cw U .add ty (.s x) (.s y) K=(x.length+y.length<lim∧K (.s (x++y))):=(rfl)
theorem XW(x y:List UInt8):cw U .eql ty (.s x) (.s y) K=K (.b (x==y)):=(rfl)
theorem XZ(x y:List UInt8):cw U .neq ty (.s x) (.s y) K=K (.b (!(x==y))):=(rfl)
theorem WL(k k' :FloatKind)(x y:Nat)(op:BinOp):cw U op ty (.v (.float k x)) (.v (.float k' y)) K=gy op (.float k x) (.float k' y) K:=(rfl)
theorem XT(k k' :FloatKind)(x y z w:Nat)(op:BinOp):cw U op ty (.v (.complex k x y)) (.v (.complex k' z w)) K=gy op (.complex k x y) (.complex k' z w) K:=(rfl)
theorem oX{op:BinOp}{x y r:Value}(h:∀(P:Program) (ty:TypeId) (w:World),(binOp op ty x y).run P w= .ok r w)(K:AV→Prop):gy op x y K=K (.v r):=propext ⟨fun⟨r',h',hk⟩=>by have e:=(h default 0 default).symm.trans (h' default 0 default);cases e;exact hk,fun hk=>⟨r,h,hk⟩⟩
theorem XY(x y:List UInt8):cw U .lss ty (.s x) (.s y) K=K (.b (Op.bytesLess x y)):=(rfl)
theorem XX(x y:List UInt8):cw U .geq ty (.s x) (.s y) K=K (.b (!(Op.bytesLess x y))):=(rfl)
def eqK(tk:TK)(e:Option (Nat×List TK))(xs ys:List AV)(k:Bool→Prop):Prop:=match e with
 |some (_,l)=>tk.agg=true∧cF l xs∧cF l ys∧k (eqL xs ys)
 |none=>False
@[congr] theorem Ud{tk tk' :TK}{e e' :Option (Nat×List TK)}{xs ys:List AV}{k:Bool→Prop}(h1:tk=tk')(h2:e=e'):eqK tk e xs ys k=eqK tk' e' xs ys k:=by grind
attribute [go_sem] abu Qr Lw XV XW XZ WL XT XY XX
@[go_sem] theorem abJ(fs:List (Nat×TypeId))(r:Nat)(l:List TK)(xs ys:List AV)(k:Bool→Prop):eqK (.strct fs) (some (r,l)) xs ys k=(cF l xs∧cF l ys∧k (eqL xs ys)):=by simp[eqK,TK.agg]
@[go_sem] theorem XQ(xs ys:List AV):cw U .eql ty (.agg xs) (.agg ys) K=eqK (U ty).k (U ty).eq xs ys fun b=>K (.b b):=by simp only[cw,Ly,eqK];grind
theorem XR(xs ys:List AV):cw U .neq ty (.agg xs) (.agg ys) K=eqK (U ty).k (U ty).eq xs ys fun b=>K (.b (!b)):=by simp only[cw,Ly,eqK];grind
theorem Td(xs:List AV):cF [] xs=(xs= []):=(rfl)
theorem Q5(t:TK)(ts:List TK)(x:AV)(xs:List AV):cF (t::ts) (x::xs)=(qU t x∧cF ts xs):=(rfl)
theorem U2(k k' :IntKind)(n:Int):qU (.int k) (.v (.int k' n))=(k' =k):=(rfl)
theorem U0(b:Bool):qU .bool (.b b)=True:=(rfl)
theorem U1(k k' :FloatKind)(a b:Nat):qU (.cplx k) (.v (.complex k' a b))=(k' =k):=(rfl)
theorem U3(l:List UInt8):qU .str (.s l)=True:=(rfl)
theorem WZ:eqL [] []=true:=(rfl)
theorem Vk(x y:AV)(xs ys:List AV):eqL (x::xs) (y::ys)=(eqC x y && eqL xs ys):=(rfl)
theorem abH(k k' :IntKind)(n m:Int):eqC (.v (.int k n)) (.v (.int k' m))=(n==m):=(rfl)
theorem abG(b c:Bool):eqC (.b b) (.b c)=(b==c):=(rfl)
theorem abI(l m:List UInt8):eqC (.s l) (.s m)=(l==m):=(rfl)
def tkB(k:TK)(A:Prop):Prop:=k= .bool∧A
def tkP(k:TK)(A:Prop):Prop:=(∃e,k= .ptr e)∧A
@[congr] theorem UA{k k' :TK}{A:Prop}(e:k=k'):tkB k A=tkB k' A:=by rw[e]
@[congr] theorem UB{k k' :TK}{A:Prop}(e:k=k'):tkP k A=tkP k' A:=by rw[e]
attribute [go_sem] XR Td Q5 U2 U0 U1 U3 WZ Vk abH abG abI
@[go_sem] theorem V9(A:Prop):tkB .bool A=A:=by simp[tkB]
theorem XH(e:TypeId)(A:Prop):tkP (.ptr e) A=A:=by simp[tkP]
theorem XS(x y:Bool):cw U .neq ty (.b x) (.b y) K=tkB (U ty).k (K (.b (!(x==y)))):=by grind [cw,OB,tkB]
attribute [go_sem] XH XS
@[go_sem] theorem XU(i o:Nat):cw U .eql ty (.ptr i o) (.v (.pointer none)) K=tkP (U ty).k (K (.b false)):=by simp only[cw,OC,Pn,tkP];grind
end
def unA(op:UnOp)(y:AV)(k:AV→Prop):Prop:=match op,y with
 |.not,.v (.bool b)=>k (.b (!b))
 |.neg,.v (.int kk n)=>k (.v (.int kk (kk.wrap (0 - n))))
 |.xor,.v (.int kk n)=>k (.v (.int kk (kk.wrap (BitVec.ofInt kk.bits (if kk.signed then -1 else kk.max) ^^^ BitVec.ofInt kk.bits n).toNat)))
 |_,_=>False
@[congr] theorem UD{op:UnOp}{y y' :AV}{k:AV→Prop}(e:y=y'):unA op y k=unA op y' k:=by rw[e]
theorem XK(b:Bool)(k:AV→Prop):unA .not (.b b) k=k (.b (!b)):=(rfl)
theorem xV(kk:IntKind)(m:Int)(k:AV→Prop):unA .xor (.v (.int kk m)) k=k (.v (.int kk (kk.wrap (BitVec.ofInt kk.bits (if kk.signed then -1 else kk.max) ^^^ BitVec.ofInt kk.bits m).toNat))):=(rfl)
attribute [go_sem] XK xV
theorem Yv(op:UnOp)(ty:TypeId)(x:Operand):bg P U ρ h ⟨d,.unOp op ty x,t,p,a,g⟩ Q=aE (ev ρ x) fun y=>unA op y (atH Q h):=by
 simp only[bg,pv,cc]
 congr 1
def cvA(U:TypeId→TI)(s d:TK)(y:AV)(k:AV→Prop):Prop:=match s,d,y with
 |.int _,.int kk,.v (.int _ n)=>k (.v (.int kk (kk.wrap n)))
 |.str,.str,.s l=>k (.s l)
 |.slice e,.str,.sl xs _=>(U e).k= .int .u8∧∃l:List UInt8,xs=l.map aN∧k (.s l)
 |.str,.slice e,.s l=>(U e).k= .int .u8∧k (.sl (l.map aN) .no)
 |.cplx _,.cplx kk,.v (.complex kf a b)=>kf=kk∧k (.v (.complex kk a b))
 |_,_,_=>False
@[congr] theorem T4{s s' d d' :TK}{y y' :AV}{k:AV→Prop}(e1:s=s')(e2:d=d')(e:y=y'):cvA U s d y k=cvA U s' d' y' k:=by grind
theorem X5(k0 kk k1:IntKind)(m:Int)(k:AV→Prop):cvA U (.int k0) (.int kk) (.v (.int k1 m)) k=k (.v (.int kk (kk.wrap m))):=(rfl)
attribute [go_sem↓] Yv
attribute [go_sem] X5
theorem abE(e:TypeId)(l:List UInt8)(pm:Perm)(k:AV→Prop):cvA U (.slice e) .str (.sl (l.map aN) pm) k=((U e).k= .int .u8∧k (.s l)):=by
 simp only[cvA]
 congr 1
 apply propext;constructor
 ·rintro⟨l',e1,hk⟩
  have:l=l' :=by
   have inj:∀(x y:List UInt8),x.map aN=y.map aN→x=y:=by
    intro x
    induction x with
    |nil=>simp
    |cons b r ih=>
     intro y e;cases y with
     |nil=>grind
     |cons b' r' =>
      simp only[List.map_cons,List.cons.injEq,aN,AV.v.injEq,Value.int.injEq,true_and,Int.natCast_inj]at e
      grind [UInt8.toNat_inj]
   exact inj _ _ e1
  rw[this];exact hk
 grind
theorem u8m(k:TK)(X:Prop):(match k with|.int .u8=>X|_=>False)=(k= .int .u8∧X):=by grind
attribute [go_sem] abE
@[go_sem↓] theorem Uu(s e:TypeId)(x:Operand):bg P U ρ h ⟨d,.convert s e x,t,p,a,g⟩ Q=aE (ev ρ x) fun y=>cvA U (U s).k (U e).k y (atH Q h):=by
 simp only[bg,pv,cc]
 congr 1
 funext y
 generalize (U s).k=ks;generalize (U e).k=ke;cases ks<;>cases ke<;>cases y<;>(first|rfl|(rename_i u;cases u<;>rfl)|skip)
 ·simp only[cvA]
  exact u8m _ _
 ·simp only[cvA]
  exact u8m _ _
end
attribute [go_sem] true_and and_true List.length_cons List.length_nil List.drop_succ_cons List.drop_zero List.drop_nil List.take_succ_cons List.take_zero List.take_nil List.append_nil List.cons_append List.nil_append List.map_cons List.map_nil ne_eq not_false_eq_true reduceCtorEq Nat.zero_add Nat.add_zero
section
variable {P : Program} {U : TypeId → TI} {n : Nat} {ρ : Env} {h : Heap}
variable {d : Option Tmp} {t : TypeId} {p : String} {a : Array Edge} {g : Option (Nat × Bool)} {Q : AV → Heap → Prop} {k : AV → Prop}
theorem WB(x:IntKind):TK.agg (.int x)=false:=(rfl)
theorem pE(x y:TypeId):TK.agg (.map x y)=false:=(rfl)
theorem UQ:TK.agg .bool=false:=(rfl)
theorem WD:TK.agg .str=false:=(rfl)
theorem TP(x:TypeId):TK.agg (.slice x)=false:=(rfl)
theorem TQ(x:List (Nat×TypeId)):TK.agg (.strct x)=true:=(rfl)
theorem WC(x:TypeId):TK.agg (.ptr x)=false:=(rfl)
theorem UR(x:FloatKind):TK.agg (.cplx x)=false:=(rfl)
theorem TX(cs:List AV):AV.cells (.agg cs)=cs:=(rfl)
theorem WO(x:Value):AV.cells (.v x)= [.v x]:=(rfl)
theorem WN(x:List UInt8):AV.cells (.s x)= [.s x]:=(rfl)
theorem U6(x:List AV)(q:Perm):AV.cells (.sl x q)= [.sl x q]:=(rfl)
theorem TY(i o:Nat):AV.cells (.ptr i o)= [.ptr i o]:=(rfl)
theorem U5(i o l:Nat):AV.cells (.oa i o l)= [.oa i o l]:=(rfl)
theorem Ui(cs:List AV):bD (.agg cs)=true:=(rfl)
theorem Xk(x:Value):bD (.v x)=false:=(rfl)
theorem Xj(x:List UInt8):bD (.s x)=false:=(rfl)
theorem VD(x:List AV)(q:Perm):bD (.sl x q)=false:=(rfl)
theorem Xf(cs:List AV)(m:Nat):fit (.agg cs) m=(cs.length=m):=(rfl)
attribute [go_sem] WB pE UQ WD TP TQ WC UR TX WO WN U6 TY U5 Ui Xk Xj VD Xf
@[go_sem] theorem Xg(x:IntKind)(i:Int)(m:Nat):fit (.v (.int x i)) m=(m=1):=by simp[fit,Value.oneCell']
@[go_sem] theorem Vt(i:Bool)(m:Nat):fit (.b i) m=(m=1):=by simp[fit,Value.oneCell']
theorem Vu(x:FloatKind)(i j:Nat)(m:Nat):fit (.v (.complex x i j)) m=(m=1):=by simp[fit,Value.oneCell']
theorem abK(l:List UInt8)(m:Nat):fit (.s l) m=(m=1):=(rfl)
theorem Yg(l:List AV)(q:Perm)(m:Nat):fit (.sl l q) m=(m=1):=(rfl)
theorem Xh(i o:Nat)(m:Nat):fit (.ptr i o) m=(m=1):=(rfl)
theorem Yf(i o l:Nat)(m:Nat):fit (.oa i o l) m=(m=1):=(rfl)
theorem Vv(m:Nat):fits m []=True:=(rfl)
theorem Uf(m:Nat)(y:AV)(r:List AV):fits m (y::r)=(fit y m∧fits m r):=(rfl)
attribute [go_sem] Vu abK Yg Xh Yf Vv Uf
theorem Ez(cs:List AV)(off:Nat)(i:TI):iN cs off i k=Br i.k.agg (off+i.sz≤cs.length∧k (.agg ((cs.drop off).take i.sz))) (aE cs[off]? k):=by
 unfold iN;cases i.k.agg with
 |true=>simp[Br]
 |false=>grind [Br,aE]
theorem Ls(y:AV)(off:Nat)(i:TI):atA y off i k=if off=0∧y.cells.length=i.sz∧bD y=i.k.agg then k y else iN y.cells off i k:=(rfl)
def F2(U:TypeId→TI)(f:Nat)(y:AV)(k:AV→Prop)(tk:TK):Prop:=match tk,y with
 |.strct fs,.agg cs=>aE fs[f]? fun q=>(U q.2).sz≠0∧(U q.2).k≠ .other∧iN cs q.1 (U q.2) k
 |_,_=>False
theorem Ue(f:Nat)(cs:List AV)(fs:List (Nat×TypeId)):F2 U f (.agg cs) k (.strct fs)=aE fs[f]? fun q=>(U q.2).sz≠0∧(U q.2).k≠ .other∧iN cs q.1 (U q.2) k:=(rfl)
attribute [go_sem↓] Ez Ls Ue
theorem Xu(ty:TypeId)(x:Operand)(f:Nat):bg P U ρ h ⟨d,.field ty x f,t,p,a,g⟩ Q=aE (ev ρ x) fun y=>atK (U ty).k (F2 U f y (atH Q h)):=by
 simp only[bg,pv,cc,atK]
 congr 1
 funext y
 cases (U ty).k<;>cases y<;>simp only[F2]
 rename_i fs cs
 cases fs[f]? <;>rfl
def NQ(y:AV)(i:Nat)(k:AV→Prop):Prop:=match y with
 |.tup vs=>aE vs[i]? k
 |_=>False
@[congr] theorem Tc{y y' :AV}{i:Nat}(e:y=y'):NQ y i k=NQ y' i k:=by rw[e]
theorem XI(vs:List AV)(i:Nat):NQ (.tup vs) i k=aE vs[i]? k:=(rfl)
attribute [go_sem↓] Xu XI
theorem Uv(x:Operand)(i:Nat):bg P U ρ h ⟨d,.extract x i,t,p,a,g⟩ Q=aE (ev ρ x) fun y=>NQ y i (atH Q h):=by
 simp only[bg,pv,cc]
 grind [NQ,aE,atH]
def IP(tk:TK)(y z:AV)(k:AV→Prop):Prop:=match tk,y,z with
 |.str,.s l,.v (.int _ n)=>Oi l n k
 |_,_,_=>False
@[congr] theorem Q2{tk tk' :TK}{y y' z z' :AV}(e0:tk=tk')(e1:y=y')(e2:z=z'):IP tk y z k=IP tk' y' z' k:=by grind
theorem V8(l:List UInt8)(x:IntKind)(m:Int):IP .str (.s l) (.v (.int x m)) k=Oi l m k:=(rfl)
attribute [go_sem↓] Uv V8
theorem Xv(ty:TypeId)(x i:Operand):bg P U ρ h ⟨d,.index ty x i,t,p,a,g⟩ Q=aE (ev ρ x) fun y=>aE (ev ρ i) fun z=>IP (U ty).k y z (atH Q h):=by
 simp only[bg,pv,cc]
 congr 1
def yG(U:TypeId→TI)(f:Nat)(y:AV)(k:AV→Prop)(tk:TK):Prop:=match tk with
 |.strct fs=>aE fs[f]? fun q=>(U q.2).sz≠0∧match y with
  |.ptr id o=>k (.ptr id (o+q.1))
  |.pe z o=>k (.pe z (o+q.1))
  |_=>False
 |_=>False
theorem F1(f id o:Nat)(fs:List (Nat×TypeId)):yG U f (.ptr id o) k (.strct fs)=aE fs[f]? fun q=>(U q.2).sz≠0∧k (.ptr id (o+q.1)):=(rfl)
theorem Jo(f o:Nat)(z:AV)(fs:List (Nat×TypeId)):yG U f (.pe z o) k (.strct fs)=aE fs[f]? fun q=>(U q.2).sz≠0∧k (.pe z (o+q.1)):=(rfl)
attribute [go_sem↓] Xv F1 Jo
theorem QO(ty:TypeId)(x:Operand)(f:Nat):bg P U ρ h ⟨d,.fieldAddr ty x f,t,p,a,g⟩ Q=aE (ev ρ x) fun y=>atK (U ty).k (yG U f y (atH Q h)):=by
 simp only[bg,pv,cc,atK]
 congr 1
 funext y
 cases (U ty).k<;>simp only[yG]
 rename_i fs
 cases fs[f]? with
 |none=>rfl
 |some q=>rfl
def pT(U:TypeId→TI)(y z:AV)(k:AV→Prop)(tk:TK):Prop:=match tk,y,z with
 |.slice e,.sl xs _,.v (.int _ n)=>(U e).sz≠0∧fC xs n (U e).sz k
 |.slice e,.oa id off len,.v (.int _ n)=>(U e).sz≠0∧0≤n∧n<len∧k (.ptr id (off+n.toNat*(U e).sz))
 |.arr len e,.ptr id off,.v (.int _ n)=>(U e).sz≠0∧0≤n∧n<len∧k (.ptr id (off+n.toNat*(U e).sz))
 |.slice e,.ob id off len _ sz,.v (.int _ n)=>(U e).sz≠0∧sz=(U e).sz∧0≤n∧n<len∧k (.ptr id (off+n.toNat*sz))
 |_,_,_=>False
theorem Bj(id off len cap sz:Nat)(x:IntKind)(m:Int)(e:TypeId):pT U (.ob id off len cap sz) (.v (.int x m)) k (.slice e)=((U e).sz≠0∧sz=(U e).sz∧0≤m∧m<len∧k (.ptr id (off+m.toNat*sz))):=(rfl)
theorem vp(xs:List AV)(q:Perm)(x:IntKind)(m:Int)(e:TypeId):pT U (.sl xs q) (.v (.int x m)) k (.slice e)=((U e).sz≠0∧fC xs m (U e).sz k):=(rfl)
theorem Bi(id off len:Nat)(x:IntKind)(m:Int)(e:TypeId):pT U (.oa id off len) (.v (.int x m)) k (.slice e)=((U e).sz≠0∧0≤m∧m<len∧k (.ptr id (off+m.toNat*(U e).sz))):=(rfl)
attribute [go_sem↓] QO Bj vp Bi
theorem QS(ty:TypeId)(x i:Operand):bg P U ρ h ⟨d,.indexAddr ty x i,t,p,a,g⟩ Q=aE (ev ρ x) fun y=>aE (ev ρ i) fun z=>atK (U ty).k (pT U y z (atH Q h)):=by
 simp only[bg,pv,cc,atK]
 congr 1
def qI(b:Blk)(f:List AV→TypeId→Prop):Prop:=match b with
 |.obj cs t=>f cs t
 |_=>False
@[congr] theorem SJ{b b' :Blk}{f:List AV→TypeId→Prop}(e:b=b'):qI b f=qI b' f:=by rw[e]
theorem CE(cs:List AV)(t:TypeId)(f:List AV→TypeId→Prop):qI (.obj cs t) f=f cs t:=(rfl)
def nT(U:TypeId→TI)(h:Heap)(ty:TypeId)(y:AV)(k:AV→Prop):Prop:=match y with
 |.ptr id off=>aE (h id) fun b=>qI b fun cs _=>iN cs off (U ty) k
 |.pe z off=>atA z off (U ty) k
 |_=>False
@[congr] theorem QJ{ty:TypeId}{y y' :AV}(e:y=y'):nT U h ty y k=nT U h ty y' k:=by rw[e]
theorem J4(ty:TypeId)(id off:Nat):nT U h ty (.ptr id off) k=aE (h id) fun b=>qI b fun cs _=>iN cs off (U ty) k:=(rfl)
theorem MH(ty:TypeId)(z:AV)(off:Nat):nT U h ty (.pe z off) k=atA z off (U ty) k:=(rfl)
attribute [go_sem↓] QS CE J4 MH
theorem Yr(ty:TypeId)(x:Operand):bg P U ρ h ⟨d,.load ty x,t,p,a,g⟩ Q=((U ty).sz≠0∧(U ty).k≠ .other∧aE (ev ρ x) fun y=>nT U h ty y (atH Q h)):=by
 simp only[bg,pv,cc]
 congr 1
 congr 1
 congr 1
 funext y
 cases y with
 |ptr id off=>simp only[nT];exact aiq
 |_=>rfl
def Gl(y:AV)(f:Int→Prop):Prop:=match y with
 |.v (.int _ m)=>f m
 |_=>False
@[congr] theorem Sp{y y' :AV}{f:Int→Prop}(e:y=y'):Gl y f=Gl y' f:=by rw[e]
theorem nR(x:IntKind)(m:Int)(f:Int→Prop):Gl (.v (.int x m)) f=f m:=(rfl)
theorem mS(m:Nat)(f:Int→Prop):eO ρ none m f=f m:=(rfl)
attribute [go_sem↓] Yr nR mS
theorem fU(x:Operand)(m:Nat)(f:Int→Prop):eO ρ (some x) m f=aE (ev ρ x) fun y=>Gl y f:=by
 simp only[eO,cc]
 congr 1
def ie(U:TypeId→TI)(ρ:Env)(y:AV)(lo hi mx:Option Operand)(k:AV→Prop)(tk:TK):Prop:=match y with
 |.s l=>tk= .str∧mx=none∧eO ρ lo 0 fun a=>eO ρ hi l.length fun b=>0≤a∧a≤b∧b≤l.length∧k (.s (pG l a b lo.isSome hi.isSome))
 |.sl xs p=>match tk with
  |.slice e=>(U e).sz≠0∧(lo.isSome=true→∀z∈xs,z.cells.length=(U e).sz)∧match mx with
   |none=>eO ρ lo 0 fun a=>eO ρ hi xs.length fun b=>0≤a∧a≤b∧b≤xs.length∧k (.sl (pG xs a b lo.isSome hi.isSome) (Ao xs p lo.isSome hi.isSome))
   |some m=>hi.isSome=true∧eO ρ lo 0 fun a=>eO ρ hi xs.length fun b=>eO ρ (some m) 0 fun c=>0≤a∧a≤b∧b=c∧c≤xs.length∧k (.sl (pG xs a b lo.isSome true) .full)
  |_=>False
 |.oa id off len=>match tk with
  |.slice e=>(U e).sz≠0∧(lo.isSome=true→(U e).sz=1)∧mx=none∧eO ρ lo 0 fun a=>eO ρ hi len fun b=>0≤a∧a≤b∧b≤len∧k (.oa id (off+a.toNat*(U e).sz) (b.toNat - a.toNat))
  |_=>False
 |.ob id off len cap sz=>match tk with
  |.slice e=>(U e).sz≠0∧sz=(U e).sz∧match mx with
   |none=>eO ρ lo 0 fun a=>eO ρ hi len fun b=>0≤a∧a≤b∧b≤cap∧k (.ob id (off+a.toNat*sz) (b.toNat - a.toNat) (cap - a.toNat) sz)
   |some m=>hi.isSome=true∧eO ρ lo 0 fun a=>eO ρ hi len fun b=>eO ρ (some m) 0 fun c=>0≤a∧a≤b∧b≤c∧c≤cap∧k (.ob id (off+a.toNat*sz) (b.toNat - a.toNat) (c.toNat - a.toNat) sz)
  |_=>False
 |_=>False
theorem BP(id off len cap sz:Nat)(lo hi:Option Operand)(e:TypeId):ie U ρ (.ob id off len cap sz) lo hi none k (.slice e)=((U e).sz≠0∧sz=(U e).sz∧eO ρ lo 0 fun a=>eO ρ hi len fun b=>0≤a∧a≤b∧b≤cap∧k (.ob id (off+a.toNat*sz) (b.toNat - a.toNat) (cap - a.toNat) sz)):=(rfl)
attribute [go_sem↓] fU BP
@[go_sem↓] theorem V7(l:List UInt8)(lo hi:Option Operand):ie U ρ (.s l) lo hi none k .str=eO ρ lo 0 fun a=>eO ρ hi l.length fun b=>0≤a∧a≤b∧b≤l.length∧k (.s (pG l a b lo.isSome hi.isSome)):=by simp[ie]
@[go_sem↓] theorem rM(xs:List AV)(q:Perm)(hi:Option Operand)(e:TypeId):ie U ρ (.sl xs q) none hi none k (.slice e)=((U e).sz≠0∧eO ρ hi xs.length fun b=>0≤b∧b≤xs.length∧k (.sl (pG xs 0 b false hi.isSome) (Ao xs q false hi.isSome))):=by simp[ie,eO]
@[go_sem↓] theorem rN(xs:List AV)(q:Perm)(lo:Operand)(hi:Option Operand)(e:TypeId):ie U ρ (.sl xs q) (some lo) hi none k (.slice e)=((U e).sz≠0∧Sized (U e).sz xs∧eO ρ (some lo) 0 fun a=>eO ρ hi xs.length fun b=>0≤a∧a≤b∧b≤xs.length∧k (.sl (pG xs a b true hi.isSome) (Ao xs q true hi.isSome))):=by simp[ie,Sized]
theorem si(id off len:Nat)(lo hi:Option Operand)(e:TypeId):ie U ρ (.oa id off len) lo hi none k (.slice e)=((U e).sz≠0∧(lo.isSome=true→(U e).sz=1)∧eO ρ lo 0 fun a=>eO ρ hi len fun b=>0≤a∧a≤b∧b≤len∧k (.oa id (off+a.toNat*(U e).sz) (b.toNat - a.toNat))):=by simp[ie]
theorem mF{α:Type}(xs:List α)(a b:Int):pG xs a b true false=xs.drop a.toNat:=(rfl)
theorem tO{α:Type}(xs:List α)(a b:Int):pG xs a b false true=xs.take b.toNat:=(rfl)
theorem OI{α:Type}(xs:List α)(a b:Int):pG xs a b true true=(xs.drop a.toNat).take (b.toNat - a.toNat):=(rfl)
theorem WS(xs:List AV)(a b:Bool):Ao xs .no a b= .no:=by cases xs<;>cases a<;>cases b<;>rfl
theorem T3(xs:List AV):Ao xs .full true false= .full:=by cases xs<;>rfl
attribute [go_sem↓] si
attribute [go_sem] mF tO OI WS T3
@[go_sem↓] theorem Xw(ty:TypeId)(x:Operand)(lo hi mx:Option Operand):bg P U ρ h ⟨d,.slice ty x lo hi mx,t,p,a,g⟩ Q=aE (ev ρ x) fun y=>atK (U ty).k (ie U ρ y lo hi mx (atH Q h)):=by
 simp only[bg,pv,cc,atK]
 congr 1
end
section
variable {P : Program} {U : TypeId → TI} {n : Nat} {ρ : Env} {h : Heap}
variable {d : Option Tmp} {t : TypeId} {p : String} {a : Array Edge} {g : Option (Nat × Bool)} {Q : AV → Heap → Prop} {k : AV → Prop}
def Le(h:Heap)(b:Blk)(Q:AV→Heap→Prop):Prop:=∀id,h id=none→Q (.ptr id 0) (upd h id (some b))
def XM(h:Heap)(xs:List AV)(b:Blk)(Q:AV→Heap→Prop):Prop:=∀id,h id=none→Q (.sl xs (.own id)) (upd h id (some b))
def oI(U:TypeId→TI)(h:Heap)(xs ys:List AV)(e:TypeId)(Q:AV→Heap→Prop):Prop:=
 (∀id,h id=none→Q (.sl (xs++ys) (.own id)) (upd h id (some (.spare (xs.length+ys.length) (U e).sz))))∨
  ((U e).sz=1∧fit (U e).zero 1∧bD (U e).zero=false∧(∀z∈xs++ys,bD z=false)∧∀id m,h id=none→Q (.oa id 0 (xs.length+ys.length)) (upd h id (some (.obj (xs++ys++List.replicate m (U e).zero) e))))∨
  (fit (U e).zero (U e).sz∧kS h (aq xs++aq ys) (xs.length+ys.length) (U e).sz e Q)
@[congr] theorem Qf{h h' :Heap}{xs xs' ys ys' :List AV}{e:TypeId}(e0:h=h')(e1:xs=xs')(e2:ys=ys'):oI U h xs ys e Q=oI U h' xs' ys' e Q:=by grind
theorem oI.own{xs ys:List AV}{e:TypeId}(hk:XM h (xs++ys) (.spare (xs.length+ys.length) (U e).sz) Q):oI U h xs ys e Q:=.inl hk
theorem oI.oa{xs ys:List AV}{e:TypeId}(h1:(U e).sz=1)(h2:fit (U e).zero 1)(h3:bD (U e).zero=false)(h4:∀z∈xs++ys,bD z=false)
  (hk:∀id m,h id=none→Q (.oa id 0 (xs.length+ys.length)) (upd h id (some (.obj (xs++ys++List.replicate m (U e).zero) e)))):oI U h xs ys e Q:=.inr (.inl ⟨h1,h2,h3,h4,hk⟩)
theorem oI.ob{xs ys:List AV}{e:TypeId}(h1:fit (U e).zero (U e).sz)(hk:kS h (aq xs++aq ys) (xs.length+ys.length) (U e).sz e Q):oI U h xs ys e Q:=.inr (.inr ⟨h1,hk⟩)
def sI(U:TypeId→TI)(h:Heap)(xs ys:List AV)(e:TypeId)(Q:AV→Heap→Prop):Prop:=(ys= []→Q (.sl xs .full) h)∧(ys≠ []→oI U h xs ys e Q)
@[congr] theorem Oe{h h' :Heap}{xs xs' ys ys' :List AV}{e:TypeId}(e0:h=h')(e1:xs=xs')(e2:ys=ys'):sI U h xs ys e Q=sI U h' xs' ys' e Q:=by grind
theorem Qe(xs:List AV)(y:AV)(r:List AV)(e:TypeId):sI U h xs (y::r) e Q=oI U h xs (y::r) e Q:=by simp[sI]
theorem gC{α:Type}(f:Nat→α)(i:Nat)(x:α):upd f i x i=x:=ah f i x
theorem aj{α:Type}(f:Nat→α)(i j:Nat)(x:α)(e:¬j=i):upd f i x j=f j:=ag f x e
theorem oc{α:Type}(f:Nat→α)(i:Nat)(x y:α):upd (upd f i x) i y=upd f i y:=by grind [upd]
def ru:List (Nat×Operand)→Nat→Bool
 | [],_=>true
 |(i,_)::r,k=>i==k && ru r (k+1)
attribute [go_sem↓] Qe
attribute [go_sem] gC aj oc
theorem Bk:∀(l:List (Nat×Operand)) (k:Nat),ru l k=true↔l.map (·.1)=List.range' k l.length
 | [],k=>by simp[ru]
 |(i,x)::r,k=>by simp[ru,Bk r (k+1),List.range'_succ]
@[go_sem] theorem Uh(k:Nat):ru [] k=true:=(rfl)
@[go_sem] theorem Sn(i:Nat)(x:Operand)(r:List (Nat×Operand))(k:Nat):(ru ((i,x)::r) k=true)=(i=k∧ru r (k+1)=true):=by simp[ru]
theorem JW(l:List (Nat×Operand))(m:Nat):(l.map (·.1)=List.range m)=(ru l 0=true∧l.length=m):=by
 apply propext;rw[Bk,List.range_eq_range'];constructor
 ·intro e
  have:=congrArg List.length e;simp at this;exact⟨ad4,this⟩
 grind
def bsK(U:TypeId→TI)(ρ:Env)(len:Nat)(parts:List (Nat×Operand))(k:AV→Prop)(tk:TK):Prop:=match tk with
 |.slice e=>(U e).sz≠0∧len*(U e).sz≤16777216∧(ru parts 0=true∧parts.length=len)∧aE (evs ρ (parts.map (·.2))) fun xs=>fits (U e).sz xs∧k (.sl xs .full)
 |_=>False
@[go_sem↓] theorem X1(len:Nat)(parts:List (Nat×Operand))(e:TypeId):bsK U ρ len parts k (.slice e)=((U e).sz≠0∧len*(U e).sz≤16777216∧(ru parts 0=true∧parts.length=len)∧aE (evs ρ (parts.map (·.2))) fun xs=>fits (U e).sz xs∧k (.sl xs .full)):=(rfl)
theorem Pv(ty:TypeId)(len:Nat)(parts:List (Nat×Operand)):bg P U ρ h ⟨d,.buildSlice ty len parts.toArray,t,p,a,g⟩ Q=atK (U ty).k (bsK U ρ len parts (atH Q h)):=by
 simp only[bg,pv,atK];cases (U ty).k<;>simp only[bsK,gY,JW]
 rfl
def Rx(k:AV→Prop)(cs:List AV):Prop:=k (.agg cs)
theorem WA(cs:List AV):Rx k cs=k (.agg cs):=(rfl)
def Hz(z:AV):Option (List AV):=match z with
 |.agg cs=>some cs
 |_=>none
theorem TO(cs:List AV):Hz (.agg cs)=some cs:=(rfl)
def bK(U:TypeId→TI)(ρ:Env)(ty:TypeId)(parts:List (Nat×Operand))(k:AV→Prop)(tk:TK):Prop:=match tk with
 |.strct fs=>(U ty).sz≠0∧aE (Hz (U ty).zero) fun cs0=>withps U ρ fs parts cs0 (Rx k)
 |_=>False
theorem abq(ty:TypeId)(parts:List (Nat×Operand))(fs:List (Nat×TypeId)):bK U ρ ty parts k (.strct fs)=((U ty).sz≠0∧aE (Hz (U ty).zero) fun cs0=>withps U ρ fs parts cs0 (Rx k)):=(rfl)
def bU(U:TypeId→TI)(ρ:Env)(ty:TypeId)(parts:List (Nat×Operand))(k:AV→Prop)(b:Bool):Prop:=match b with
 |true=>parts= []∧k (.agg [])
 |false=>atK (U ty).k (bK U ρ ty parts k)
theorem adQ(ty:TypeId)(parts:List (Nat×Operand)):bU U ρ ty parts k true=(parts= []∧k (.agg [])):=(rfl)
theorem adP(ty:TypeId)(parts:List (Nat×Operand)):bU U ρ ty parts k false=atK (U ty).k (bK U ρ ty parts k):=(rfl)
theorem VI:isUnit (.strct [])=true:=(rfl)
theorem VH(f:Nat×TypeId)(fs:List (Nat×TypeId)):isUnit (.strct (f::fs))=false:=(rfl)
theorem VG(x:IntKind):isUnit (.int x)=false:=(rfl)
theorem VE:isUnit .bool=false:=(rfl)
theorem Sr:isUnit .str=false:=(rfl)
theorem Uj(e:TypeId):isUnit (.slice e)=false:=(rfl)
theorem VF(x:FloatKind):isUnit (.cplx x)=false:=(rfl)
attribute [go_sem↓] Pv WA abq adQ adP
attribute [go_sem] TO VI VH VG VE Sr Uj VF
theorem MW(ty:TypeId)(parts:List (Nat×Operand)):(match (U ty).k with
  |.strct fs=>(U ty).sz≠0∧∃cs0,(U ty).zero= .agg cs0∧withps U ρ fs parts cs0 fun cs=>(atH Q h) (.agg cs)
  |_=>False)=atK (U ty).k (bK U ρ ty parts (atH Q h)):=by
 congr 1
 cases hz:(U ty).zero<;>simp[Hz,aE]
 rfl
theorem Xt(ty:TypeId)(parts:List (Nat×Operand)):bg P U ρ h ⟨d,.build ty parts.toArray,t,p,a,g⟩ Q=bU U ρ ty parts (atH Q h) (isUnit (U ty).k):=by
 simp only[bg,pv];cases isUnit (U ty).k
 ·simp only[bU,Bool.false_eq_true,if_false]
  exact MW ty parts
 rfl
@[congr] theorem Od{fs:List (Nat×TypeId)}{ps:List (Nat×Operand)}{cs cs' :List AV}{k:List AV→Prop}(e:cs=cs'):withps U ρ fs ps cs k=withps U ρ fs ps cs' k:=by rw[e]
theorem Tm(fs:List (Nat×TypeId))(cs:List AV)(k:List AV→Prop):withps U ρ fs [] cs k=k cs:=(rfl)
attribute [go_sem↓] Xt
attribute [go_sem] Tm
theorem Q9(fs:List (Nat×TypeId))(i:Nat)(x:Operand)(r:List (Nat×Operand))(cs:List AV)(k:List AV→Prop):
  withps U ρ fs ((i,x)::r) cs k=aE fs[i]? fun q=>(U q.2).sz≠0∧aE (ev ρ x) fun y=>fit y (U q.2).sz∧q.1+(U q.2).sz≤cs.length∧withps U ρ fs r (over cs q.1 y.cells) k:=by
 simp only[withps,cc];cases fs[i]? <;>rfl
theorem Xy(cs:List AV)(o:Nat)(xs:List AV):over cs o xs=cs.take o++xs++cs.drop (o+xs.length):=(rfl)
attribute [go_sem] Q9 Xy
section
variable {ty : TypeId} {y : AV}
end
def VP(f:FuncId)(k:AV→Prop)(ys:List AV):Prop:=k (.fn f ys)
@[go_sem↓] theorem Xp(f:FuncId)(ys:List AV):VP f k ys=k (.fn f ys):=(rfl)
theorem SH(f:FuncId)(cap:List Operand):bg P U ρ h ⟨d,.makeFunc (.func f) #[] cap.toArray,t,p,a,g⟩ Q=aE (evs ρ cap) (VP f (atH Q h)):=by simp only[bg,pv,gY];rfl
def fnA(y:AV)(f:FuncId→List AV→Prop):Prop:=match y with
 |.fn g cap=>f g cap
 |_=>False
@[congr] theorem Ug{y y' :AV}{f:FuncId→List AV→Prop}(e:y=y'):fnA y f=fnA y' f:=by rw[e]
theorem Yh(g:FuncId)(cap:List AV)(f:FuncId→List AV→Prop):fnA (.fn g cap) f=f g cap:=(rfl)
attribute [go_sem↓] SH Yh
theorem Yo(q:Operand)(args:List Operand)(ts:Array TypeId):bg P U ρ h ⟨d,.call ⟨.value q,args.toArray,ts⟩,t,p,a,g⟩ Q=aE (ev ρ q) fun y=>fnA y fun f cap=>aE (evs ρ args) fun ys=>ai P f (ys++cap) h Q:=by
 simp only[bg,cc,gY]
 congr 1
def xx(y:AV)(k:AV→Prop)(tk:TK):Prop:=match tk,y with
 |.str,.s l=>k (.i l.length)
 |.slice _,.sl xs _=>k (.i xs.length)
 |.slice _,.oa _ _ len=>k (.i len)
 |.slice _,.ob _ _ len _ _=>k (.i len)
 |_,_=>False
def Pc(k:AV→Prop)(b:Blk):Prop:=match b with
 |.mp m=>k (.i m.length)
 |_=>False
@[congr] theorem Sw{b b' :Blk}(e:b=b'):Pc k b=Pc k b' :=by rw[e]
def Sx(h:Heap)(y:AV)(k:AV→Prop)(tk:TK):Prop:=match tk,y with
 |.map _ _,.mp id=>aE (h id) (Pc k)
 |tk,y=>xx y k tk
theorem VL(y:AV):Sx h y k .str=xx y k .str:=(rfl)
theorem Sy(y:AV)(e:TypeId):Sx h y k (.slice e)=xx y k (.slice e):=(rfl)
theorem Xm(i o l c s:Nat)(e:TypeId):xx (.ob i o l c s) k (.slice e)=k (.i l):=(rfl)
theorem Yl(l:List UInt8):xx (.s l) k .str=k (.i l.length):=(rfl)
theorem Xn(xs:List AV)(q:Perm)(e:TypeId):xx (.sl xs q) k (.slice e)=k (.i xs.length):=(rfl)
attribute [go_sem↓] Yo VL Sy Xm Yl Xn
theorem abP(x:Operand)(ty:TypeId):bg P U ρ h ⟨d,.call ⟨.builtin .len, #[x], #[ty]⟩,t,p,a,g⟩ Q=aE (ev ρ x) fun y=>atK (U ty).k (Sx h y (atH Q h)):=by
 simp only[bg,pv,pvB,cc,atK]
 congr 1
 funext y
 cases (U ty).k with
 |map a b=>
  cases y with
  |mp id=>
   show(match h id with
    |some (.mp m)=>Q (.i m.length) h
    |_=>False)=aE (h id) (Pc (atH Q h))
   exact aiq
  |_=>rfl
 |_=>cases y<;>rfl
def UZ(y:AV)(k:AV→Prop)(tk:TK):Prop:=match tk,y with
 |.slice _,.sl xs .full=>k (.i xs.length)
 |.slice _,.ob _ _ _ cap _=>k (.i cap)
 |_,_=>False
theorem WM(i o l c s:Nat)(e:TypeId):UZ (.ob i o l c s) k (.slice e)=k (.i c):=(rfl)
attribute [go_sem↓] abP WM
theorem abO(x:Operand)(ty:TypeId):bg P U ρ h ⟨d,.call ⟨.builtin .cap, #[x], #[ty]⟩,t,p,a,g⟩ Q=aE (ev ρ x) fun y=>atK (U ty).k (UZ y (atH Q h)):=by
 simp only[bg,pv,pvB,cc,atK]
 congr 1
@[congr] theorem SD{ys ys' :List AV}(e:ys=ys'):El ys k=El ys' k:=by rw[e]
@[congr] theorem SA{ys ys' :List AV}(e:ys=ys'):Aw ys k=Aw ys' k:=by rw[e]
attribute [go_sem↓] abO
@[go_sem] theorem VO(x:IntKind)(i j:Int):El [.v (.int x i),.v (.int x j)] k=k (.v (.int x (if j<i then j else i))):=by simp[El]
theorem VN(x:IntKind)(i j:Int):Aw [.v (.int x i),.v (.int x j)] k=k (.v (.int x (if i<j then j else i))):=by simp[Aw]
@[congr] theorem QX{ys ys' :List AV}(e:ys=ys'):zJ ys k=zJ ys' k:=by rw[e]
@[congr] theorem QG{ys ys' :List AV}(e:ys=ys'):yS ys k=yS ys' k:=by rw[e]
@[congr] theorem Qy{ys ys' :List AV}(e:ys=ys'):yt ys k=yt ys' k:=by rw[e]
theorem V1(x:FloatKind)(i j:Nat):zJ [.v (.complex x i j)] k=k (.v (.float x i)):=(rfl)
theorem VC(x:FloatKind)(i j:Nat):yS [.v (.complex x i j)] k=k (.v (.float x j)):=(rfl)
theorem U7(x y:FloatKind)(i j:Nat):yt [.v (.float x i),.v (.float y j)] k=(x=y∧k (.v (.complex x i j))):=(rfl)
theorem Gv{x y:FloatKind}{i j:Nat}{r:Value}(h:∀(P:Program) (ts:Array TypeId) (ty:TypeId) (w:World),(Builtin.max_ ts ty #[.float x i,.float y j]).run P w= .ok r w)(k:AV→Prop):Aw [.v (.float x i),.v (.float y j)] k=k (.v r):=propext ⟨fun⟨r',h',hk⟩=>by have e:=(h default #[] 0 default).symm.trans (h' default #[] 0 default);cases e;exact hk,fun hk=>⟨r,h,hk⟩⟩
attribute [go_sem] VN U7
attribute [go_sem↓] V1 VC
@[go_sem↓] theorem Yu(args:List Operand)(ts:Array TypeId):bg P U ρ h ⟨d,.call ⟨.builtin .real,args.toArray,ts⟩,t,p,a,g⟩ Q=aE (evs ρ args) fun ys=>zJ ys (atH Q h):=by simp only[bg,pv,pvB,gY];rfl
@[go_sem↓] theorem Yq(args:List Operand)(ts:Array TypeId):bg P U ρ h ⟨d,.call ⟨.builtin .imag,args.toArray,ts⟩,t,p,a,g⟩ Q=aE (evs ρ args) fun ys=>yS ys (atH Q h):=by simp only[bg,pv,pvB,gY];rfl
@[go_sem↓] theorem Ut(args:List Operand)(ts:Array TypeId):bg P U ρ h ⟨d,.call ⟨.builtin .complex,args.toArray,ts⟩,t,p,a,g⟩ Q=aE (evs ρ args) fun ys=>yt ys (atH Q h):=by simp only[bg,pv,pvB,gY];rfl
@[go_sem↓] theorem abR(args:List Operand)(ts:Array TypeId):bg P U ρ h ⟨d,.call ⟨.builtin .min,args.toArray,ts⟩,t,p,a,g⟩ Q=aE (evs ρ args) fun ys=>El ys (atH Q h):=by simp only[bg,pv,pvB,gY];rfl
theorem abQ(args:List Operand)(ts:Array TypeId):bg P U ρ h ⟨d,.call ⟨.builtin .max,args.toArray,ts⟩,t,p,a,g⟩ Q=aE (evs ρ args) fun ys=>Aw ys (atH Q h):=by simp only[bg,pv,pvB,gY];rfl
@[congr] theorem S0{e:TypeId}{y y' :AV}{f:List AV→Prop}(h1:y=y'):iP U e h y f=iP U e h y' f:=by rw[h1]
theorem XE(e:TypeId)(ys:List AV)(q:Perm)(f:List AV→Prop):iP U e h (.sl ys q) f=f ys:=(rfl)
theorem S1(e:TypeId)(l:List UInt8)(f:List AV→Prop):iP U e h (.s l) f=((U e).k= .int .u8∧(U e).sz=1∧f (l.map aN)):=(rfl)
def apK(U:TypeId→TI)(h:Heap)(x y:AV)(Q:AV→Heap→Prop)(tk:TK):Prop:=match tk,x with
 |.slice e,.sl xs .full=>(U e).sz≠0∧(U e).bytes≠0∧iP U e h y fun ys=>Sized (U e).sz xs∧Sized (U e).sz ys∧(xs.length+ys.length)*(U e).bytes≤140737488355328∧
   sI U h xs ys e Q
 |.slice e,.sl xs (.own id)=>(U e).sz≠0∧(U e).bytes≠0∧iP U e h y fun ys=>Sized (U e).sz xs∧Sized (U e).sz ys∧(xs.length+ys.length)*(U e).bytes≤140737488355328∧
   h id=some (.spare xs.length (U e).sz)∧Q (.sl (xs++ys) (.own id)) (upd h id (some (.spare (xs.length+ys.length) (U e).sz)))
 |.slice e,.oa id off len=>(U e).sz≠0∧(U e).bytes≠0∧(U e).sz=1∧iP U e h y fun ys=>Sized 1 ys∧(∀z∈ys,bD z=false)∧(len+ys.length)*(U e).bytes≤140737488355328∧aE (h id) fun b=>qI b fun cs t=>
   off+len≤cs.length∧(∀z∈(cs.drop off).take len,bD z=false)∧fit (U e).zero 1∧bD (U e).zero=false∧
     (off+(len+ys.length)≤cs.length→Q (.oa id off (len+ys.length)) (upd h id (some (.obj (over cs (off+len) ys) t))))∧
     (∀id' m,h id' =none→Q (.oa id' 0 (len+ys.length)) (upd h id' (some (.obj ((cs.drop off).take len++ys++List.replicate m (U e).zero) e))))
 |.slice e,.ob id off len cap sz=>(U e).sz≠0∧(U e).bytes≠0∧sz=(U e).sz∧iP U e h y fun ys=>Sized (U e).sz ys∧(len+ys.length)*(U e).bytes≤140737488355328∧aE (h id) fun b=>qI b fun cs t=>
   off+len*(U e).sz≤cs.length∧fit (U e).zero (U e).sz∧
     (len+ys.length≤cap→Q (.ob id off (len+ys.length) cap (U e).sz) (upd h id (some (.obj (over cs (off+len*(U e).sz) (aq ys)) t))))∧
     (cap<len+ys.length→kS h ((cs.drop off).take (len*(U e).sz)++aq ys) (len+ys.length) (U e).sz e Q)
 |_,_=>False
theorem qN(xs:List AV)(y:AV)(e:TypeId):apK U h (.sl xs .full) y Q (.slice e)=((U e).sz≠0∧(U e).bytes≠0∧iP U e h y fun ys=>Sized (U e).sz xs∧Sized (U e).sz ys∧(xs.length+ys.length)*(U e).bytes≤140737488355328∧
   sI U h xs ys e Q):=(rfl)
theorem Cf(xs:List AV)(y:AV)(id:Nat)(e:TypeId):apK U h (.sl xs (.own id)) y Q (.slice e)=((U e).sz≠0∧(U e).bytes≠0∧iP U e h y fun ys=>Sized (U e).sz xs∧Sized (U e).sz ys∧(xs.length+ys.length)*(U e).bytes≤140737488355328∧
   h id=some (.spare xs.length (U e).sz)∧Q (.sl (xs++ys) (.own id)) (upd h id (some (.spare (xs.length+ys.length) (U e).sz)))):=(rfl)
attribute [go_sem↓] abQ XE S1 qN Cf
theorem Fh(ts:TypeId)(x y:AV):rS U h ts x y Q=atK (U ts).k (apK U h x y Q):=by
 unfold rS atK;cases (U ts).k with
 |slice e=>
  cases x with
  |sl xs q=>
   cases q with
   |no=>
    simp only[apK];apply propext;constructor
    ·rintro⟨_,_,hk⟩
     obtain⟨ys,hh,_⟩:∃ys:List AV,(Sized (U e).sz xs∧Sized (U e).sz ys∧(xs.length+ys.length)*(U e).bytes≤140737488355328∧False)∧True:=by
      unfold iP at hk
      grind
     grind
    simp
   |full=>rfl
   |own id=>rfl
  |oa id off len=>
   refine congrArg (fun q=>(U e).sz≠0∧(U e).bytes≠0∧(U e).sz=1∧q) (congrArg (fun f=>iP U e h y f) (funext fun ys=>?_))
   exact aiq
  |ob id off len cap sz=>
   refine congrArg (fun q=>(U e).sz≠0∧(U e).bytes≠0∧sz=(U e).sz∧q) (congrArg (fun f=>iP U e h y f) (funext fun ys=>?_))
   exact aiq
  |_=>simp[apK]
 |_=>rfl
theorem TR(e:TypeId)(A B:Prop):apT A B (.slice e)=A:=(rfl)
theorem WG(A B:Prop):apT A B .str=A:=(rfl)
theorem WE(x:IntKind)(A B:Prop):apT A B (.int x)=B:=(rfl)
def Ox(U:TypeId→TI)(h:Heap)(x y:AV)(Q:AV→Heap→Prop)(tk:TK):Prop:=match tk,x,y with
 |.slice e,.ob id off len cap sz,.v (.int _ n)=>(U e).sz≠0∧(U e).bytes≠0∧sz=(U e).sz∧0<n∧(len+n.toNat)*(U e).bytes≤140737488355328∧fit (U e).zero (U e).sz∧cap<len+n.toNat∧aE (h id) fun b=>qI b fun cs _=>off+len*(U e).sz≤cs.length∧kS h ((cs.drop off).take (len*(U e).sz)++cQ (U e).zero n.toNat (U e).sz) (len+n.toNat) (U e).sz e Q
 |_,_,_=>False
theorem WH(id off len cap sz:Nat)(x:IntKind)(n:Int)(e:TypeId):Ox U h (.ob id off len cap sz) (.v (.int x n)) Q (.slice e)=((U e).sz≠0∧(U e).bytes≠0∧sz=(U e).sz∧0<n∧(len+n.toNat)*(U e).bytes≤140737488355328∧fit (U e).zero (U e).sz∧cap<len+n.toNat∧aE (h id) fun b=>qI b fun cs _=>off+len*(U e).sz≤cs.length∧kS h ((cs.drop off).take (len*(U e).sz)++cQ (U e).zero n.toNat (U e).sz) (len+n.toNat) (U e).sz e Q):=(rfl)
attribute [go_sem↓] TR WG WE WH
theorem NZ(ts:TypeId)(x y:AV):Fi U h ts x y Q=atK (U ts).k (Ox U h x y Q):=by
 unfold Fi atK;cases (U ts).k with
 |slice e=>
  cases x with
  |ob id off len cap sz=>
   cases y with
   |v u=>
    cases u with
    |int k n=>simp only[Ox];exact aiq
    |_=>rfl
   |_=>rfl
  |_=>rfl
 |_=>rfl
theorem VU(x y:Operand)(t1 t2:TypeId):bg P U ρ h ⟨d,.call ⟨.builtin .append, #[x,y], #[t1,t2]⟩,t,p,a,g⟩ Q=aE (ev ρ x) fun u=>aE (ev ρ y) fun v=>atK (U t2).k (apT (atK (U t1).k (apK U h u v Q)) (atK (U t1).k (Ox U h u v Q))):=by simp[bg,cc,Fh,NZ,atK]
def alU(U:TypeId→TI)(h:Heap)(ty:TypeId)(Q:AV→Heap→Prop)(b:Bool):Prop:=match b with
 |true=>Le h (.obj [] ty) Q
 |false=>(U ty).sz≠0∧fit (U ty).zero (U ty).sz∧Le h (.obj (U ty).zero.cells ty) Q
theorem abp(ty:TypeId):alU U h ty Q true=Le h (.obj [] ty) Q:=(rfl)
theorem abo(ty:TypeId):alU U h ty Q false=((U ty).sz≠0∧fit (U ty).zero (U ty).sz∧Le h (.obj (U ty).zero.cells ty) Q):=(rfl)
attribute [go_sem↓] VU abp abo
@[go_sem↓] theorem Xr(ty:TypeId):bg P U ρ h ⟨d,.alloc ty,t,p,a,g⟩ Q=alU U h ty Q (isUnit (U ty).k):=by simp only[bg];cases isUnit (U ty).k<;>rfl
theorem abN(ty:TypeId)(x:Operand):bg P U ρ h ⟨d,.box ty x,t,p,a,g⟩ Q=((U ty).sz≠0∧aE (ev ρ x) fun y=>fit y (U ty).sz∧Le h (.obj y.cells ty) Q):=by simp only[bg,cc];rfl
def stA(U:TypeId→TI)(h:Heap)(ty:TypeId)(q y:AV)(Q:AV→Heap→Prop):Prop:=match q with
 |.ptr id off=>aE (h id) fun b=>qI b fun cs t' =>fit y (U ty).sz∧off+(U ty).sz≤cs.length∧Q (.v undef) (upd h id (some (.obj (over cs off y.cells) t')))
 |_=>False
@[congr] theorem Uz{ty:TypeId}{q q' y y' :AV}(e1:q=q')(e2:y=y'):stA U h ty q y Q=stA U h ty q' y' Q:=by grind
theorem XF(ty:TypeId)(id off:Nat)(y:AV):stA U h ty (.ptr id off) y Q=aE (h id) fun b=>qI b fun cs t' =>fit y (U ty).sz∧off+(U ty).sz≤cs.length∧Q (.v undef) (upd h id (some (.obj (over cs off y.cells) t'))):=(rfl)
def utA(h:Heap)(u y:AV)(Q:AV→Heap→Prop):Prop:=y= .agg []∧match u with
 |.ptr .. =>Q (.v undef) h
 |_=>False
@[congr] theorem UE{u u' y y' :AV}(e1:u=u')(e2:y=y'):utA h u y Q=utA h u' y' Q:=by grind
attribute [go_sem↓] abN XF
theorem YO(i o:Nat):utA h (.ptr i o) (.agg []) Q=Q (.v undef) h:=by simp[utA]
def stU(U:TypeId→TI)(ρ:Env)(h:Heap)(ty:TypeId)(q x:Operand)(Q:AV→Heap→Prop)(b:Bool):Prop:=match b with
 |true=>aE (ev ρ q) fun u=>aE (ev ρ x) fun y=>utA h u y Q
 |false=>(U ty).sz≠0∧aE (ev ρ q) fun u=>aE (ev ρ x) fun y=>stA U h ty u y Q
theorem abW(ty:TypeId)(q x:Operand):stU U ρ h ty q x Q true=aE (ev ρ q) fun u=>aE (ev ρ x) fun y=>utA h u y Q:=(rfl)
theorem abV(ty:TypeId)(q x:Operand):stU U ρ h ty q x Q false=((U ty).sz≠0∧aE (ev ρ q) fun u=>aE (ev ρ x) fun y=>stA U h ty u y Q):=(rfl)
attribute [go_sem↓] YO abW abV
theorem Xx(ty:TypeId)(q x:Operand):bg P U ρ h ⟨d,.store ty q x,t,p,a,g⟩ Q=stU U ρ h ty q x Q (isUnit (U ty).k):=by
 simp only[bg,cc];cases isUnit (U ty).k
 case true=>rfl
 simp only[stU,Bool.false_eq_true,if_false]
 congr 1
 congr 1
 funext u
 congr 1
 funext y
 cases u<;>simp only[stA]
 rename_i id off
 exact aiq
def nJ(xs:List AV)(h:Heap)(Q:AV→Heap→Prop):Prop:=∃y h',Weak (au xs) y∧Sub h' h∧Q y h'
@[congr] theorem Qo{xs xs' :List AV}{h h' :Heap}{Q:AV→Heap→Prop}(e1:xs=xs')(e2:h=h'):nJ xs h Q=nJ xs' h' Q:=by grind
attribute [go_sem↓] Xx
@[go_sem↓] theorem TV(rs:List ResultVar):wh U rs Q .ret ρ h=tq ρ h U rs fun xs=>nJ xs h Q:=by simp[wh,nJ]
theorem OD(rs:List ResultVar):wh U rs Q .normal ρ h=tq ρ h U rs fun xs=>nJ xs h Q:=by simp[wh,nJ]
theorem V2(f:List AV→Prop):tq ρ h U [] f=f []:=(rfl)
attribute [go_sem↓] OD V2
theorem V3(i:Tmp)(r:List ResultVar)(f:List AV→Prop):tq ρ h U (.tmp i::r) f=aE (lk ρ i) fun x=>tq ρ h U r fun xs=>f (x::xs):=by simp only[tq];cases lk ρ i<;>rfl
def Dj(U:TypeId→TI)(h:Heap)(ty:TypeId)(y:AV)(k:AV→Prop):Prop:=match y with
 |.ptr id off=>aE (h id) fun b=>qI b fun cs _=>(U ty).sz≠0∧(U ty).k≠ .other∧iN cs off (U ty) k
 |_=>False
@[congr] theorem Qv{ty:TypeId}{y y' :AV}(e:y=y'):Dj U h ty y k=Dj U h ty y' k:=by rw[e]
theorem TW(ty:TypeId)(id off:Nat):Dj U h ty (.ptr id off) k=aE (h id) fun b=>qI b fun cs _=>(U ty).sz≠0∧(U ty).k≠ .other∧iN cs off (U ty) k:=(rfl)
attribute [go_sem↓] V3 TW
theorem Ux(i:Tmp)(ty:TypeId)(r:List ResultVar)(f:List AV→Prop):tq ρ h U (.cell i ty::r) f=aE (lk ρ i) fun y=>Dj U h ty y fun x=>tq ρ h U r fun xs=>f (x::xs):=by
 simp only[tq];cases lk ρ i with
 |none=>rfl
 |some y=>
  cases y<;>simp only[dN,Dj]
  rename_i id off
  exact aiq
theorem nJ.mk{xs:List AV}{h h' :Heap}{Q:AV→Heap→Prop}(y:AV)(hw:Weak (au xs) y)(hs:Sub h' h)(hq:Q y h'):nJ xs h Q:=⟨y,h',hw,hs,hq⟩
theorem nJ.same{xs:List AV}{h h' :Heap}{Q:AV→Heap→Prop}(hs:Sub h' h)(hq:Q (au xs) h'):nJ xs h Q:=⟨_,h',.refl _,hs,hq⟩
theorem Sub.refl(h:Heap):Sub h h:=fun _ _ e=>e
theorem Sub.trans{a b c:Heap}(h1:Sub a b)(h2:Sub b c):Sub a c:=fun i k e=>h2 i k (h1 i k e)
theorem Sub.new{a b:Heap}(hs:Sub a b){id:Nat}(hid:b id=none)(k:Option Blk):Sub a (Ab.upd b id k):=fun j l e=>by
 by_cases ej:j=id
 ·subst ej;rw[hs _ _ e]at hid;grind
 ·rw[ag _ _ ej];exact hs _ _ e
theorem Sub.none{a b:Heap}(hs:Sub a b){id:Nat}(hid:b id=none):a id=none:=by
 cases hh:a id with
 |none=>rfl
 |some k=>rw[hs _ _ hh]at hid;omega
attribute [go_sem↓] Ux
theorem ai.body(hU:∀t,aP P U t)(hm:P.follows .mixedOrders=true){f:FuncId}{fn:Func}{c:Code}{args:List AV}{h:Heap}{Q:AV→Heap→Prop}(hf:P.funcs[f]? =some fn)(hb:fn.body=some c)
  (hn : (fn.name == "runtime.NumGoroutine") = false) (m : Nat) (hm' : fn.ntmps = m) (rs : List ResultVar) (hr : fn.results.toList = rs) (hl : args.length ≤ m)
  (hk:(∀x∈args,wfA x)→aW P U m c (yD args) h (wh U rs Q)):ai P f args h Q:=by
 subst hm';subst hr
 exact ai.VX hU hm hf hb hn hl hk
end
section
variable {P : Program} {U : TypeId → TI} {n : Nat} {ρ : Env} {h : Heap}
variable {d : Option Tmp} {t : TypeId} {p : String} {a : Array Edge} {g : Option (Nat × Bool)} {Q : AV → Heap → Prop} {k : AV → Prop}
def dsts(n:Nat):List Oper→Bool
 | []=>true
 |o::os=>eY n o.dst && dsts n os
theorem pH(l:List Oper):dsts n l=l.all fun o=>eY n o.dst:=by induction l with
 |nil=>rfl
 |cons o os ih=>grind [dsts]
@[go_sem] theorem Vg:(dsts n []=true)=True:=by simp[dsts]
theorem T6(o:Oper)(os:List Oper):(dsts n (o::os)=true)=(eY n o.dst=true∧dsts n os=true):=by simp[dsts]
def C1(ops:Array Oper):Prop:=zg ops=true
theorem C1.of{ops:Array Oper}(h:zg ops=true):C1 ops:=h
def FO(k:AV→Prop)(x:AV)(_:Heap):Prop:=k x
theorem T0(x:AV):FO k x h=k x:=(rfl)
def KDr(P:Program)(U:TypeId→TI)(n:Nat)(all os:List Oper)(h:Heap)(K:Env→Prop)(ρ:Env)(d:Option Tmp)(x:AV):Prop:=mu P U n all os (put ρ d x) h K
theorem XL(all os:List Oper)(K:Env→Prop)(x:AV):KDr P U n all os h K ρ d x=mu P U n all os (put ρ d x) h K:=(rfl)
def atN(K:Exit→Env→Heap→Prop)(h:Heap)(ρ:Env):Prop:=K .normal ρ h
theorem XP(K:Exit→Env→Heap→Prop):atN K h ρ=K .normal ρ h:=(rfl)
def Lc(ops:Array Oper):Prop:=MG ops=true
theorem Lc.of{ops:Array Oper}(h:MG ops=true):Lc ops:=h
attribute [go_sem] T6
attribute [go_sem↓] T0 XL XP
attribute [go_sem] Bool.not_false Bool.not_true Cw Option.isNone_none Option.isNone_some Bool.and_true Bool.true_and Bool.and_false Bool.false_and List.dropLast_singleton
theorem Gs(o o' :Oper)(r:List Oper):sD (o::o' ::r)=sD (o' ::r):=(rfl)
theorem Ap(o o' :Oper)(r:List Oper):(o::o' ::r).dropLast=o::(o' ::r).dropLast:=(rfl)
theorem Uk(o:Oper)(K:Env→Heap→Prop):qC P U [o] h K ρ=bg P U ρ h o (fun X h' =>K (put ρ o.dst X) h'):=(rfl)
theorem Sv(o o' :Oper)(r:List Oper)(K:Env→Heap→Prop):qC P U (o::o' ::r) h K ρ=qC P U (o' ::r) h K ρ:=(rfl)
def IW(l:List Oper)(k:List Oper→Prop):Prop:=k l
@[congr] theorem Q8{l l' :List Oper}{k:List Oper→Prop}(e:l=l'):IW l k=IW l' k:=by rw[e]
theorem Tl(o:Oper)(r:List Oper)(k:List Oper→Prop):IW (o::r) k=k (o::r):=(rfl)
attribute [go_sem] Gs Ap Tl
attribute [go_sem↓] Uk Sv
section
variable (l : List Oper)
theorem S8:oF []=true:=(rfl)
theorem Fa(o:Oper):oF (o::l)=(!dJ o.op && oF l):=(rfl)
attribute [go_sem] S8 Fa
end
section
variable (x y z : Operand) (ty ty' : TypeId)
theorem Ua:dJ (.move x)=false:=(rfl)
theorem QC:dJ (.assign x)=false:=(rfl)
theorem Ub:dJ (.pick x y z)=false:=(rfl)
theorem Oc:dJ (.nilCheck x)=false:=(rfl)
theorem R9(op:BinOp):dJ (.binOp op ty x y ty')=false:=(rfl)
theorem Uc(op:UnOp):dJ (.unOp op ty x)=false:=(rfl)
theorem OQ:dJ (.convert ty ty' x)=false:=(rfl)
theorem OR(f:Nat):dJ (.extract x f)=false:=(rfl)
theorem Sb:dJ (.index ty x y)=false:=(rfl)
theorem LY(f:Nat):dJ (.fieldAddr ty x f)=false:=(rfl)
theorem LZ:dJ (.indexAddr ty x y)=false:=(rfl)
theorem T9:dJ (.load ty x)=false:=(rfl)
theorem Sc(lo hi mx:Option Operand):dJ (.slice ty x lo hi mx)=false:=(rfl)
theorem La(m:Nat)(ps:Array (Nat×Operand)):dJ (.buildSlice ty m ps)=false:=(rfl)
theorem Sa(ps:Array (Nat×Operand)):dJ (.build ty ps)=false:=(rfl)
theorem Vh(aa:Array Operand)(ts:Array TypeId):dJ (.call ⟨.builtin .len,aa,ts⟩)=false:=(rfl)
theorem Vj(aa:Array Operand)(ts:Array TypeId):dJ (.call ⟨.builtin .min,aa,ts⟩)=false:=(rfl)
theorem Vi(aa:Array Operand)(ts:Array TypeId):dJ (.call ⟨.builtin .max,aa,ts⟩)=false:=(rfl)
theorem T7(aa:Array Operand)(ts:Array TypeId):dJ (.call ⟨.value x,aa,ts⟩)=true:=(rfl)
theorem QB(aa:Array Operand)(ts:Array TypeId):dJ (.call ⟨.builtin .append,aa,ts⟩)=true:=(rfl)
theorem T8(aa:Array Operand)(ts:Array TypeId):dJ (.call ⟨.builtin .copy,aa,ts⟩)=true:=(rfl)
theorem R8:dJ (.alloc ty)=true:=(rfl)
theorem Sd:dJ (.store ty x y)=true:=(rfl)
attribute [go_sem] Ua QC Ub Oc R9 Uc OQ OR Sb LY LZ T9 Sc La Sa Vh Vj Vi T7 QB T8 R8 Sd
end
def nH(P:Program)(U:TypeId→TI)(n:Nat)(l:List Oper)(ρ:Env)(h:Heap)(K:Exit→Env→Heap→Prop):Prop:=Q7 P U n l.toArray ρ h (K .normal)
theorem nH.quiet{l:List Oper}{K:Exit→Env→Heap→Prop}(hB:zg l.toArray=true)(hk:dsts n l=true∧mu P U n l l ρ h (atN K h)):nH P U n l ρ h K:=
 ⟨by grind [pH],.inl ⟨hB,hk.2⟩⟩
theorem nH.calls{l:List Oper}{K:Exit→Env→Heap→Prop}(hm:Heap)(os:List Nat)(hs:Sub hm h)(hB:kC .any l.toArray none (.seq os) (Array.replicate l.toArray.size false)=true)(hl:os.length=l.toArray.size)
  (hk:dsts n l=true∧eu P U n l hm os ρ h (K .normal)):nH P U n l ρ h K:=
 ⟨by grind [pH],.inr (.inl ⟨hm,.seq os,_,hs,hB,hl,hk.2,fun _ _ h=>h⟩)⟩
def Rv(P:Program)(U:TypeId→TI)(n:Nat)(l:List Oper)(o2:List Nat)(K:Exit→Env→Heap→Prop)(ρ:Env)(h:Heap):Prop:=∃hm2,Sub hm2 h∧eu P U n l hm2 o2 ρ h (K .normal)
theorem nH.tree{l:List Oper}{K:Exit→Env→Heap→Prop}(hm:Heap)(t:Ord)(hs:Sub hm h)(hB:kC .any l.toArray none t (Array.replicate l.toArray.size false)=true)(hl:t.len=l.toArray.size)
  (hk:dsts n l=true∧mc P U n l hm t ρ h (K .normal)):nH P U n l ρ h K:=
 ⟨by grind [pH],.inr ad4⟩
theorem nH.stage{l:List Oper}{K:Exit→Env→Heap→Prop}(hm:Heap)(o1 o2:List Nat)(hs:Sub hm h)(hB:xS .any l.toArray o1 o2=true)
  (hk:dsts n l=true∧eu P U n l hm o1 ρ h (Rv P U n l o2 K)):nH P U n l ρ h K:=
 ⟨by grind [pH],.inr (.inr (.inl ⟨hm,o1,o2,hs,hB,hk.2⟩))⟩
def Hy(P:Program)(U:TypeId→TI)(l:List Oper)(K:Exit→Env→Heap→Prop)(ρ:Env)(h:Heap):Prop:=qC P U l h (K .normal) ρ
theorem TG(o:Oper)(K:Exit→Env→Heap→Prop):Hy P U [o] K ρ h=bg P U ρ h o (fun X h' =>K .normal (put ρ o.dst X) h'):=(rfl)
theorem Rp(o o' :Oper)(r:List Oper)(K:Exit→Env→Heap→Prop):Hy P U (o::o' ::r) K ρ h=Hy P U (o' ::r) K ρ h:=(rfl)
theorem nH.last{l:List Oper}{K:Exit→Env→Heap→Prop}(hm:Heap)(os:List Nat)(hs:Sub hm h)(hz:Fs .any l.toArray os.length=true)(hg:(l.getLast?.map fun o=>o.guard.isNone)=some true)(hB:kC .any l.toArray (some os.length) (.seq os) (Array.replicate l.toArray.size false)=true)(hl:os.length+1=l.toArray.size)
  (hk:dsts n l=true∧eu P U n l hm os ρ h (Hy P U l K)):nH P U n l ρ h K:=
 ⟨by grind [pH],.inr (.inr (.inr (.inl ⟨hm,.seq os,hs,hz,hg,hB,hl,hk.2⟩)))⟩
def vZ(P:Program)(U:TypeId→TI)(n:Nat)(l:List Oper)(ρ:Env)(h:Heap)(K:Exit→Env→Heap→Prop)(b:Bool)(e:Bool):Prop:=match b,e with
 |true,_=>Lc l.toArray∧dsts n l=true∧mu P U n l l.dropLast ρ h (qC P U l h (K .normal))
 |false,true=>C1 l.toArray∧dsts n l=true∧mu P U n l l ρ h (atN K h)
 |false,false=>nH P U n l ρ h K
@[congr] theorem Qj{l:List Oper}{K:Exit→Env→Heap→Prop}{b b' e e' :Bool}(h1:b=b')(h2:e=e'):vZ P U n l ρ h K b e=vZ P U n l ρ h K b' e' :=by grind
theorem Rf(l:List Oper)(K:Exit→Env→Heap→Prop)(e:Bool):vZ P U n l ρ h K true e=(Lc l.toArray∧dsts n l=true∧IW l.dropLast fun l' =>mu P U n l l' ρ h (qC P U l h (K .normal))):=(rfl)
theorem Qk(l:List Oper)(K:Exit→Env→Heap→Prop):vZ P U n l ρ h K false true=(C1 l.toArray∧dsts n l=true∧mu P U n l l ρ h (atN K h)):=(rfl)
theorem Tr(l:List Oper)(K:Exit→Env→Heap→Prop):vZ P U n l ρ h K false false=nH P U n l ρ h K:=(rfl)
def tv(l:List Oper):Bool:=sD l && oF l.dropLast
attribute [go_sem↓] TG Rp Rf Qk Tr
theorem S7(o:Oper):tv [o]=(Cw o.op && o.guard.isNone):=by simp[tv,sD,oF]
theorem Q1(o o' :Oper)(r:List Oper):tv (o::o' ::r)=(!dJ o.op && tv (o' ::r)):=by grind [tv,Gs,Ap,Fa,dJ]
attribute [go_sem] S7 Q1
theorem YB(id:Nat)(l:List Oper)(K:Exit→Env→Heap→Prop):aW P U n (.region id l.toArray true) ρ h K=vZ P U n l ρ h K (tv l) (oF l):=by
 simp only[aW,if_true,tv];cases hb:(sD l && oF l.dropLast)with
 |true=>simp[if_true,Bool.and_eq_true,vZ,Lc,pH,and_assoc]
 |false=>
  cases he:oF l with
  |true=>simp only[Bool.false_eq_true,if_false,Bool.and_eq_true,vZ,C1,pH,and_assoc,Bool.true_eq_false];rfl
  |false=>rfl
def sn(P:Program)(U:TypeId→TI)(n:Nat)(all:List Oper)(hm:Heap)(is:List Nat)(K:Env→Heap→Prop)(ρ:Env)(d:Option Tmp)(X:AV)(h:Heap):Prop:=eu P U n all hm is (put ρ d X) h K
theorem Ww(all:List Oper)(hm:Heap)(is:List Nat)(K:Env→Heap→Prop)(d:Option Tmp)(X:AV):sn P U n all hm is K ρ d X h=eu P U n all hm is (put ρ d X) h K:=(rfl)
def Rj(P:Program)(U:TypeId→TI)(n:Nat)(all:List Oper)(hm:Heap)(is:List Nat)(K:Env→Heap→Prop)(ρ:Env)(d:Option Tmp)(X:AV)(h:Heap):Prop:=Sub hm h∧eu P U n all hm is (put ρ d X) h K
theorem Wx(all:List Oper)(hm:Heap)(is:List Nat)(K:Env→Heap→Prop)(d:Option Tmp)(X:AV):Rj P U n all hm is K ρ d X h=(Sub hm h∧eu P U n all hm is (put ρ d X) h K):=(rfl)
theorem abL(all:List Oper)(hm:Heap)(K:Env→Heap→Prop):eu P U n all hm [] ρ h K=K ρ h:=(rfl)
def mD(P:Program)(U:TypeId→TI)(n:Nat)(all:List Oper)(hm:Heap)(is:List Nat)(K:Env→Heap→Prop)(ρ:Env)(h:Heap)(o:Oper)(e:Bool):Prop:=match e with
 |true=>bg P U ρ h o (Rj P U n all hm is K ρ o.dst)
 |false=>pv U ρ hm o.op fun X=>eu P U n all hm is (put ρ o.dst X) h K
@[congr] theorem Rs{all:List Oper}{hm:Heap}{is:List Nat}{K:Env→Heap→Prop}{o:Oper}{e e' :Bool}(he:e=e'):mD P U n all hm is K ρ h o e=mD P U n all hm is K ρ h o e' :=by rw[he]
def iH(k:AV→Heap→Prop)(h:Heap)(x:AV)(_:Heap):Prop:=k x h
theorem TZ(k:AV→Heap→Prop)(h h' :Heap)(x:AV):iH k h x h' =k x h:=(rfl)
theorem TM(all:List Oper)(hm:Heap)(is:List Nat)(K:Env→Heap→Prop)(op:Op):mD P U n all hm is K ρ h ⟨d,op,t,p,a,g⟩ true=bg P U ρ h ⟨d,op,t,p,a,g⟩ (Rj P U n all hm is K ρ d):=(rfl)
def notNil:Op→Bool
 |.binOp _ _ _ y _=> !GF y
 |_=>true
attribute [go_sem↓] YB Ww Wx abL TZ TM
theorem PA{hm:Heap}{op:Op}{k:AV→Heap→Prop}(h1:dJ op=false)(h2:notNil op=true):bg P U ρ hm ⟨d,op,t,p,a,g⟩ (iH k h)=pv U ρ hm op fun X=>k X h:=by
 cases op with
 |call c=>
  obtain⟨cal,args,ts⟩:=c;cases cal with
  |value q=>grind [dJ]
  |builtin b=>cases b<;>first|rfl|grind [dJ]
  |_=>rfl
 |binOp op ty x y ty' =>simp only[notNil,Bool.not_eq_true']at h2;simp only[bg,h2];rfl
 |alloc=>grind [dJ]
 |box=>grind [dJ]
 |store=>grind [dJ]
 |makeSlice=>grind [dJ]
 |makeMap=>grind [dJ]
 |mapUpdate=>grind [dJ]
 |_=>rfl
theorem dK{all:List Oper}{hm:Heap}{is:List Nat}{K:Env→Heap→Prop}{op:Op}(h1:dJ op=false)(h2:notNil op=true):
  mD P U n all hm is K ρ h ⟨d,op,t,p,a,g⟩ false=bg P U ρ hm ⟨d,op,t,p,a,g⟩ (iH (sn P U n all hm is K ρ d) h):=by
 rw[PA h1 h2];rfl
section
variable (all : List Oper) (hm : Heap) (is : List Nat) (K : Env → Heap → Prop) (x y z : Operand) (ty ty' : TypeId)
theorem TJ:mD P U n all hm is K ρ h ⟨d,.move x,t,p,a,g⟩ false=bg P U ρ hm ⟨d,.move x,t,p,a,g⟩ (iH (sn P U n all hm is K ρ d) h):=dK rfl rfl
theorem Qn:mD P U n all hm is K ρ h ⟨d,.assign x,t,p,a,g⟩ false=bg P U ρ hm ⟨d,.assign x,t,p,a,g⟩ (iH (sn P U n all hm is K ρ d) h):=dK rfl rfl
theorem TL:mD P U n all hm is K ρ h ⟨d,.pick x y z,t,p,a,g⟩ false=bg P U ρ hm ⟨d,.pick x y z,t,p,a,g⟩ (iH (sn P U n all hm is K ρ d) h):=dK rfl rfl
theorem Oa:mD P U n all hm is K ρ h ⟨d,.nilCheck x,t,p,a,g⟩ false=bg P U ρ hm ⟨d,.nilCheck x,t,p,a,g⟩ (iH (sn P U n all hm is K ρ d) h):=dK rfl rfl
theorem Om(f:Nat):mD P U n all hm is K ρ h ⟨d,.extract x f,t,p,a,g⟩ false=bg P U ρ hm ⟨d,.extract x f,t,p,a,g⟩ (iH (sn P U n all hm is K ρ d) h):=dK rfl rfl
theorem Lf(f:Nat):mD P U n all hm is K ρ h ⟨d,.fieldAddr ty x f,t,p,a,g⟩ false=bg P U ρ hm ⟨d,.fieldAddr ty x f,t,p,a,g⟩ (iH (sn P U n all hm is K ρ d) h):=dK rfl rfl
theorem Lg:mD P U n all hm is K ρ h ⟨d,.indexAddr ty x y,t,p,a,g⟩ false=bg P U ρ hm ⟨d,.indexAddr ty x y,t,p,a,g⟩ (iH (sn P U n all hm is K ρ d) h):=dK rfl rfl
theorem TH:mD P U n all hm is K ρ h ⟨d,.load ty x,t,p,a,g⟩ false=bg P U ρ hm ⟨d,.load ty x,t,p,a,g⟩ (iH (sn P U n all hm is K ρ d) h):=dK rfl rfl
theorem Rt(lo hi mx:Option Operand):mD P U n all hm is K ρ h ⟨d,.slice ty x lo hi mx,t,p,a,g⟩ false=bg P U ρ hm ⟨d,.slice ty x lo hi mx,t,p,a,g⟩ (iH (sn P U n all hm is K ρ d) h):=dK rfl rfl
theorem K9(m:Nat)(ps:Array (Nat×Operand)):mD P U n all hm is K ρ h ⟨d,.buildSlice ty m ps,t,p,a,g⟩ false=bg P U ρ hm ⟨d,.buildSlice ty m ps,t,p,a,g⟩ (iH (sn P U n all hm is K ρ d) h):=dK rfl rfl
theorem Rr(ps:Array (Nat×Operand)):mD P U n all hm is K ρ h ⟨d,.build ty ps,t,p,a,g⟩ false=bg P U ρ hm ⟨d,.build ty ps,t,p,a,g⟩ (iH (sn P U n all hm is K ρ d) h):=dK rfl rfl
theorem UN(aa:Array Operand)(ts:Array TypeId):mD P U n all hm is K ρ h ⟨d,.call ⟨.builtin .len,aa,ts⟩,t,p,a,g⟩ false=bg P U ρ hm ⟨d,.call ⟨.builtin .len,aa,ts⟩,t,p,a,g⟩ (iH (sn P U n all hm is K ρ d) h):=dK rfl rfl
theorem Rq(op:BinOp)(w:Tmp):mD P U n all hm is K ρ h ⟨d,.binOp op ty x (.tmp w) ty',t,p,a,g⟩ false=bg P U ρ hm ⟨d,.binOp op ty x (.tmp w) ty',t,p,a,g⟩ (iH (sn P U n all hm is K ρ d) h):=dK rfl rfl
theorem Ol(op:BinOp)(ik:IntKind)(im:Int):mD P U n all hm is K ρ h ⟨d,.binOp op ty x (.const (.int ik im)) ty',t,p,a,g⟩ false=bg P U ρ hm ⟨d,.binOp op ty x (.const (.int ik im)) ty',t,p,a,g⟩ (iH (sn P U n all hm is K ρ d) h):=dK rfl rfl
attribute [go_sem↓] TJ Qn TL Oa Om Lf Lg TH Rt K9 Rr UN Rq Ol
end
def B3(P:Program)(U:TypeId→TI)(n:Nat)(all:List Oper)(hm:Heap)(is:List Nat)(ρ:Env)(h:Heap)(K:Env→Heap→Prop)(w:Bool)(o:Oper)(s:Nat)(x:AV):Prop:=
 gB s w ρ (fun ρ=>mD P U n all hm is K ρ h o (dJ o.op)) (fun ρ=>eu P U n all hm is (put ρ o.dst (.v undef)) h K) x
section
variable {all : List Oper} {hm : Heap} {is : List Nat} {K : Env → Heap → Prop} {o : Oper} {s : Nat}
@[go_sem↓] theorem TC:B3 P U n all hm is ρ h K true o s (.b true)=mD P U n all hm is K ((s,.b true)::ρ) h o (dJ o.op):=by simp[B3,gB,Br]
end
def IN(P:Program)(U:TypeId→TI)(n:Nat)(all:List Oper)(hm:Heap)(is:List Nat)(ρ:Env)(h:Heap)(K:Env→Heap→Prop)(o:Oper):Prop:=match o.guard with
 |none=>mD P U n all hm is K ρ h o (dJ o.op)
 |some (gi,w)=>aE (qx all gi) fun s=>aE (lk ρ s) (B3 P U n all hm is ρ h K w o s)
theorem S4(all:List Oper)(hm:Heap)(is:List Nat)(K:Env→Heap→Prop)(op:Op):IN P U n all hm is ρ h K ⟨d,op,t,p,a,none⟩=mD P U n all hm is K ρ h ⟨d,op,t,p,a,none⟩ (dJ op):=(rfl)
theorem S5(all:List Oper)(hm:Heap)(is:List Nat)(K:Env→Heap→Prop)(op:Op)(gi:Nat)(w:Bool):IN P U n all hm is ρ h K ⟨d,op,t,p,a,some (gi,w)⟩=aE (qx all gi) fun s=>aE (lk ρ s) (B3 P U n all hm is ρ h K w ⟨d,op,t,p,a,some (gi,w)⟩ s):=(rfl)
attribute [go_sem↓] S4 S5
theorem Yi(all:List Oper)(hm:Heap)(i:Nat)(is:List Nat)(K:Env→Heap→Prop):eu P U n all hm (i::is) ρ h K=aE all[i]? (IN P U n all hm is ρ h K):=by
 simp only[eu];cases all[i]? with
 |none=>rfl
 |some o=>
  simp only[dN,IN];have e:∀ρ',Fj P U hm o ρ' h (fun X h' =>eu P U n all hm is (put ρ' o.dst X) h' K)=mD P U n all hm is K ρ' h o (dJ o.op):=fun ρ' =>by unfold Fj mD vcE;cases dJ o.op<;>rfl
  cases hg:o.guard with
  |none=>simp only[j8];exact e ρ
  |some gg=>rw[vn];simp only[e];rfl
@[congr] theorem Tt{f f' :FuncId}{a a' :List AV}{hm:Heap}{k:AV→Prop}(h0:f=f')(h1:a=a'):FnQ P f a hm k=FnQ P f' a' hm k:=by grind
attribute [go_sem↓] Yi
theorem Yy(hm:Heap)(q:Operand)(args:List Operand)(ts:Array TypeId)(k:AV→Prop):vcQ P U ρ hm ⟨d,.call ⟨.value q,args.toArray,ts⟩,t,p,a,g⟩ k=aE (ev ρ q) fun y=>fnA y fun f cap=>aE (evs ρ args) fun ys=>FnQ P f (ys++cap) hm k:=by
 simp only[vcQ,cc,gY]
 congr 1
def QStep(P:Program)(U:TypeId→TI)(n:Nat)(all:List Oper)(hm:Heap)(t:Ord)(ρ:Env)(h:Heap)(K:Env→Heap→Prop)(o:Oper):Prop:=o.guard=none∧vcQ P U ρ hm o fun X=>mc P U n all hm t (put ρ o.dst X) h K
attribute [go_sem↓] Yy
theorem UO(all:List Oper)(hm:Heap)(t' :Ord)(K:Env→Heap→Prop)(op:Op):QStep P U n all hm t' ρ h K ⟨d,op,t,p,a,none⟩=vcQ P U ρ hm ⟨d,op,t,p,a,none⟩ fun X=>mc P U n all hm t' (put ρ d X) h K:=by simp[QStep]
theorem abX(all:List Oper)(hm:Heap)(l:List Nat)(K:Env→Heap→Prop):mc P U n all hm (.seq l) ρ h K=eu P U n all hm l ρ h K:=(rfl)
attribute [go_sem↓] UO abX
theorem XG(all:List Oper)(hm:Heap)(l:List Nat)(i:Nat)(t' :Ord)(K:Env→Heap→Prop):mc P U n all hm (.quiet l i t') ρ h K=eu P U n all hm l ρ h fun ρ h=>aE all[i]? (QStep P U n all hm t' ρ h K):=by
 simp only[mc]
 congr 1
 funext ρ h
 cases all[i]? <;>rfl
theorem YJ(all:List Oper)(hm:Heap)(l is:List Nat)(t' :Ord)(K:Env→Heap→Prop):mc P U n all hm (.news l is t') ρ h K=eu P U n all hm l ρ h fun ρ h=>Sub hm h∧mM U all is∧sH P U all is ρ h fun ρ h=>mc P U n all hm t' ρ h K:=(rfl)
def QZ(U:TypeId→TI)(o:Oper):Prop:=zO U o.op
theorem V6(ty:TypeId):QZ U ⟨d,.alloc ty,t,p,a,g⟩=(isUnit (U ty).k=true∨(U ty).sz≠0∧fit (U ty).zero (U ty).sz):=(rfl)
theorem Uy(all:List Oper):mM U all []=True:=(rfl)
attribute [go_sem↓] XG YJ V6 Uy
theorem SY(all:List Oper)(i:Nat)(is:List Nat):mM U all (i::is)=(aE all[i]? (QZ U)∧mM U all is):=by simp only[mM];cases all[i]? <;>rfl
def NStep(P:Program)(U:TypeId→TI)(all:List Oper)(is:List Nat)(ρ:Env)(h:Heap)(K:Env→Heap→Prop)(o:Oper):Prop:=bg P U ρ h o fun X h' =>sH P U all is (put ρ o.dst X) h' K
theorem UL(all:List Oper)(is:List Nat)(K:Env→Heap→Prop)(op:Op):NStep P U all is ρ h K ⟨d,op,t,p,a,g⟩=bg P U ρ h ⟨d,op,t,p,a,g⟩ fun X h' =>sH P U all is (put ρ d X) h' K:=(rfl)
theorem Xq(all:List Oper)(K:Env→Heap→Prop):sH P U all [] ρ h K=K ρ h:=(rfl)
attribute [go_sem↓] SY UL Xq
theorem VR(all:List Oper)(i:Nat)(is:List Nat)(K:Env→Heap→Prop):sH P U all (i::is) ρ h K=aE all[i]? (NStep P U all is ρ h K):=by simp only[sH];cases all[i]? <;>rfl
theorem abF(all:List Oper)(K:Env→Prop):mu P U n all [] ρ h K=K ρ:=(rfl)
theorem Ya(all:List Oper)(op:Op)(os:List Oper)(K:Env→Prop):
  mu P U n all (⟨d,op,t,p,a,none⟩::os) ρ h K=(eY n d=true∧iX P U ρ h ⟨d,op,t,p,a,none⟩ (KDr P U n all os h K ρ d)):=(rfl)
def oh(P:Program)(U:TypeId→TI)(n:Nat)(all os:List Oper)(ρ:Env)(h:Heap)(K:Env→Prop)(w:Bool)(d:Option Tmp)(op:Op)(t:TypeId)(p:String)(a:Array Edge)(g:Option (Nat×Bool))(s:Nat)(x:AV):Prop:=
 gB s w ρ (fun ρ=>iX P U ρ h ⟨d,op,t,p,a,g⟩ (KDr P U n all os h K ρ d)) (fun ρ=>mu P U n all os (put ρ d (.v undef)) h K) x
attribute [go_sem↓] VR abF Ya
section
variable {all os : List Oper} {K : Env → Prop} {op : Op} {s : Nat}
@[go_sem↓] theorem TB:oh P U n all os ρ h K true d op t p a g s (.b true)=iX P U ((s,.b true)::ρ) h ⟨d,op,t,p,a,g⟩ (KDr P U n all os h K ((s,.b true)::ρ) d):=by simp[oh,gB,Br]
@[go_sem↓] theorem TA:oh P U n all os ρ h K true d op t p a g s (.b false)=mu P U n all os (put ((s,.b false)::ρ) d (.v undef)) h K:=by simp[oh,gB,Br]
@[go_sem↓] theorem Tz:oh P U n all os ρ h K false d op t p a g s (.b true)=mu P U n all os (put ((s,.b true)::ρ) d (.v undef)) h K:=by simp[oh,gB,Br]
@[go_sem↓] theorem Ty:oh P U n all os ρ h K false d op t p a g s (.b false)=iX P U ((s,.b false)::ρ) h ⟨d,op,t,p,a,g⟩ (KDr P U n all os h K ((s,.b false)::ρ) d):=by simp[oh,gB,Br]
end
theorem WY(all:List Oper)(op:Op)(gi:Nat)(w:Bool)(os:List Oper)(K:Env→Prop):
  mu P U n all (⟨d,op,t,p,a,some (gi,w)⟩::os) ρ h K=(eY n d=true∧aE (qx all gi) fun s=>aE (lk ρ s) (oh P U n all os ρ h K w d op t p a (some (gi,w)) s)):=by
 have:=vn (ρ:=ρ) all gi w (fun ρ=>iX P U ρ h ⟨d,op,t,p,a,some (gi,w)⟩ (KDr P U n all os h K ρ d)) (fun ρ=>mu P U n all os (put ρ d (.v undef)) h K)
 rw[show(fun s=>aE (lk ρ s) (oh P U n all os ρ h K w d op t p a (some (gi,w)) s))=fun d_1=>aE (lk ρ d_1) fun x=>gB d_1 w ρ (fun ρ=>iX P U ρ h ⟨d,op,t,p,a,some (gi,w)⟩ (KDr P U n all os h K ρ d)) (fun ρ=>mu P U n all os (put ρ d (.v undef)) h K) x from rfl,←this]
 rfl
def FnD(P:Program)(f:FuncId)(args:List AV)(h:Heap)(k:AV→Prop):Prop:=∃X,ai P f args h (fun x h' =>x=X∧h' =h)∧k X
@[congr] theorem Ts{f f' :FuncId}{a a' :List AV}{h h' :Heap}(h0:f=f')(h1:a=a')(h2:h=h'):FnD P f a h k=FnD P f' a' h' k:=by grind
attribute [go_sem↓] WY
theorem WT(q:Operand)(args:List Operand)(ts:Array TypeId):iX P U ρ h ⟨d,.call ⟨.value q,args.toArray,ts⟩,t,p,a,g⟩ k=aE (ev ρ q) fun y=>fnA y fun f cap=>aE (evs ρ args) fun ys=>FnD P f (ys++cap) h k:=by
 simp only[iX,cc,gY]
 congr 1
def opD(P:Program)(U:TypeId→TI)(ρ:Env)(h:Heap)(d:Option Tmp)(op:Op)(t:TypeId)(p:String)(a:Array Edge)(g:Option (Nat×Bool))(k:AV→Prop):Prop:=bg P U ρ h ⟨d,op,t,p,a,g⟩ (FO k)
theorem Yw(op:Op):opD P U ρ h d op t p a g k=bg P U ρ h ⟨d,op,t,p,a,g⟩ (FO k):=(rfl)
attribute [go_sem↓] WT Yw
section
theorem WV(x:Operand):iX P U ρ h ⟨d,.move x,t,p,a,g⟩ k=opD P U ρ h d (.move x) t p a g k:=(rfl)
theorem T5(x:Operand):iX P U ρ h ⟨d,.assign x,t,p,a,g⟩ k=opD P U ρ h d (.assign x) t p a g k:=(rfl)
theorem WW(x y z:Operand):iX P U ρ h ⟨d,.pick x y z,t,p,a,g⟩ k=opD P U ρ h d (.pick x y z) t p a g k:=(rfl)
theorem Qz(x:Operand):iX P U ρ h ⟨d,.nilCheck x,t,p,a,g⟩ k=opD P U ρ h d (.nilCheck x) t p a g k:=(rfl)
attribute [go_sem↓] WV T5 WW Qz
theorem Cl(op:BinOp)(ty ty' :TypeId)(x y:Operand)(hy:GF y=false):iX P U ρ h ⟨d,.binOp op ty x y ty',t,p,a,g⟩ k=opD P U ρ h d (.binOp op ty x y ty') t p a g k:=by simp only[iX,opD,bg,hy];rfl
theorem U8(op:BinOp)(ty ty' :TypeId)(x:Operand)(y:Tmp):iX P U ρ h ⟨d,.binOp op ty x (.tmp y) ty',t,p,a,g⟩ k=opD P U ρ h d (.binOp op ty x (.tmp y) ty') t p a g k:=Cl _ _ _ _ _ rfl
theorem RN(op:BinOp)(ty ty' :TypeId)(x:Operand)(ik:IntKind)(im:Int):iX P U ρ h ⟨d,.binOp op ty x (.const (.int ik im)) ty',t,p,a,g⟩ k=opD P U ρ h d (.binOp op ty x (.const (.int ik im)) ty') t p a g k:=Cl _ _ _ _ _ rfl
theorem RP(op:BinOp)(ty ty' :TypeId)(x:Operand)(b:Option Addr):iX P U ρ h ⟨d,.binOp op ty x (.const (.pointer b)) ty',t,p,a,g⟩ k=opD P U ρ h d (.binOp op ty x (.const (.pointer b)) ty') t p a g k:=Cl _ _ _ _ _ rfl
theorem WX(op:UnOp)(ty:TypeId)(x:Operand):iX P U ρ h ⟨d,.unOp op ty x,t,p,a,g⟩ k=opD P U ρ h d (.unOp op ty x) t p a g k:=(rfl)
theorem RQ(s e:TypeId)(x:Operand):iX P U ρ h ⟨d,.convert s e x,t,p,a,g⟩ k=opD P U ρ h d (.convert s e x) t p a g k:=(rfl)
theorem RT(x:Operand)(i:Nat):iX P U ρ h ⟨d,.extract x i,t,p,a,g⟩ k=opD P U ρ h d (.extract x i) t p a g k:=(rfl)
theorem Va(ty:TypeId)(x i:Operand):iX P U ρ h ⟨d,.index ty x i,t,p,a,g⟩ k=opD P U ρ h d (.index ty x i) t p a g k:=(rfl)
theorem OJ(ty:TypeId)(x:Operand)(f:Nat):iX P U ρ h ⟨d,.fieldAddr ty x f,t,p,a,g⟩ k=opD P U ρ h d (.fieldAddr ty x f) t p a g k:=(rfl)
theorem OK(ty:TypeId)(x i:Operand):iX P U ρ h ⟨d,.indexAddr ty x i,t,p,a,g⟩ k=opD P U ρ h d (.indexAddr ty x i) t p a g k:=(rfl)
theorem WU(ty:TypeId)(x:Operand):iX P U ρ h ⟨d,.load ty x,t,p,a,g⟩ k=opD P U ρ h d (.load ty x) t p a g k:=(rfl)
theorem Vb(ty:TypeId)(x:Operand)(lo hi mx:Option Operand):iX P U ρ h ⟨d,.slice ty x lo hi mx,t,p,a,g⟩ k=opD P U ρ h d (.slice ty x lo hi mx) t p a g k:=(rfl)
theorem Ob(ty:TypeId)(len:Nat)(parts:Array (Nat×Operand)):iX P U ρ h ⟨d,.buildSlice ty len parts,t,p,a,g⟩ k=opD P U ρ h d (.buildSlice ty len parts) t p a g k:=(rfl)
theorem U9(ty:TypeId)(parts:Array (Nat×Operand)):iX P U ρ h ⟨d,.build ty parts,t,p,a,g⟩ k=opD P U ρ h d (.build ty parts) t p a g k:=(rfl)
theorem X6(x:Operand)(ty:TypeId):iX P U ρ h ⟨d,.call ⟨.builtin .len, #[x], #[ty]⟩,t,p,a,g⟩ k=opD P U ρ h d (.call ⟨.builtin .len, #[x], #[ty]⟩) t p a g k:=(rfl)
theorem X8(args:Array Operand)(ts:Array TypeId):iX P U ρ h ⟨d,.call ⟨.builtin .min,args,ts⟩,t,p,a,g⟩ k=opD P U ρ h d (.call ⟨.builtin .min,args,ts⟩) t p a g k:=(rfl)
theorem X7(args:Array Operand)(ts:Array TypeId):iX P U ρ h ⟨d,.call ⟨.builtin .max,args,ts⟩,t,p,a,g⟩ k=opD P U ρ h d (.call ⟨.builtin .max,args,ts⟩) t p a g k:=(rfl)
attribute [go_sem↓] U8 RN RP WX RQ RT Va OJ OK WU Vb Ob U9 X6 X8 X7
end
@[go_sem↓] theorem PR(e:TypeId)(id off len:Nat)(f:List AV→Prop):iP U e h (.oa id off len) f=((U e).sz=1∧aE (h id) fun b=>qI b fun cs _=>off+len≤cs.length∧(∀x∈(cs.drop off).take len,x.cells.length=1)∧(∀x∈(cs.drop off).take len,bD x=false)∧f ((cs.drop off).take len)):=by
 simp only[iP]
 congr 1
 exact aiq
theorem PT(e:TypeId)(id off len cap sz:Nat)(f:List AV→Prop):iP U e h (.ob id off len cap sz) f=(sz=(U e).sz∧aE (h id) fun b=>qI b fun cs _=>∃ys:List AV,ys.length=len∧off+len*sz≤cs.length∧aq ys=(cs.drop off).take (len*sz)∧f ys):=by
 simp only[iP]
 congr 1
 exact aiq
theorem WR(xs:List AV)(q:Perm)(n:Nat):FR (.sl xs q) n= .sl xs q:=(rfl)
theorem WQ(i o l c s n:Nat):FR (.ob i o l c s) n= .ob i o (min l n) c s:=(rfl)
def cpK(U:TypeId→TI)(h:Heap)(x y:AV)(Q:AV→Heap→Prop)(tk:TK):Prop:=match tk,x with
 |.slice e,.oa id off len=>(U e).sz=1∧iP U e h y fun ys=>Sized 1 ys∧(∀z∈ys,bD z=false)∧aE (h id) fun b=>qI b fun cs t=>ys.length≤len∧off+len≤cs.length∧Q (.i ys.length) (upd h id (some (.obj (over cs off ys) t)))
 |.slice e,.ob id off len _ sz=>(U e).sz≠0∧sz=(U e).sz∧iP U e h (FR y len) fun ys=>Sized (U e).sz ys∧aE (h id) fun b=>qI b fun cs t=>ys.length≤len∧off+len*(U e).sz≤cs.length∧Q (.i ys.length) (upd h id (some (.obj (over cs off (aq ys)) t)))
 |_,_=>False
theorem X3(id off len cap sz:Nat)(y:AV)(e:TypeId):cpK U h (.ob id off len cap sz) y Q (.slice e)=((U e).sz≠0∧sz=(U e).sz∧iP U e h (FR y len) fun ys=>Sized (U e).sz ys∧aE (h id) fun b=>qI b fun cs t=>ys.length≤len∧off+len*(U e).sz≤cs.length∧Q (.i ys.length) (upd h id (some (.obj (over cs off (aq ys)) t)))):=(rfl)
attribute [go_sem↓] PT X3
attribute [go_sem] WR WQ
@[go_sem↓] theorem Yp(x y:Operand)(t1 t2:TypeId):bg P U ρ h ⟨d,.call ⟨.builtin .copy, #[x,y], #[t1,t2]⟩,t,p,a,g⟩ Q=aE (ev ρ x) fun u=>aE (ev ρ y) fun v=>atK (U t1).k (cpK U h u v Q):=by
 simp only[bg,cc,CX,atK]
 congr 1
 funext u
 congr 1
 funext v
 cases (U t1).k with
 |slice e=>
  cases u with
  |oa id off len=>
   refine congrArg (fun f=>(U e).sz=1∧iP U e h v f) (funext fun ys=>?_)
   exact aiq
  |ob id off len cap sz=>
   refine congrArg (fun f=>(U e).sz≠0∧sz=(U e).sz∧iP U e h (FR v len) f) (funext fun ys=>?_)
   exact aiq
  |_=>simp[cpK]
 |_=>simp[cpK]
end
section
variable {P : Program} {U : TypeId → TI} {n : Nat} {ρ : Env} {h h' : Heap} {tb : TypeId} {y : AV} {l : List UInt8}
theorem UY(c:UInt8):aN c= .v (.int .u8 c.toNat):=(rfl)
theorem jK(l:List UInt8):Sized 1 (l.map aN)=True:=by apply eq_true;intro z hz;obtain⟨c,_,rfl⟩:=List.mem_map.1 hz;rfl
attribute [go_sem] UY jK
@[go_sem] theorem TN(m:Nat):Sized m []=True:=by simp[Sized]
theorem Ru(m:Nat)(x:AV)(r:List AV):Sized m (x::r)=(x.cells.length=m∧Sized m r):=by simp[Sized]
theorem wL(l:List UInt8):∀z∈l.map aN,bD z=false:=by intro z hz;obtain⟨c,_,rfl⟩:=List.mem_map.1 hz;rfl
theorem Pe(l:List UInt8):(l.map aN).length=l.length:=adT ..
theorem Sub.ak{id:Nat}{k:Option Blk}(hid:h id=Option.none):Sub h (Ab.upd h id k):=(Sub.refl h).new hid k
def Keep(id:Nat)(h h' :Heap):Prop:=∀j k,j≠id→h j=some k→h' j=some k
theorem Keep.refl(id:Nat)(h:Heap):Keep id h h:=fun _ _ _ e=>e
theorem Keep.trans{a b c:Heap}{id:Nat}(x:Keep id a b)(y:Keep id b c):Keep id a c:=fun j k e hj=>y j k e (x j k e hj)
theorem Sub.keep(hs:Sub h h')(id:Nat):Keep id h h' :=fun _ _ _ e=>hs _ _ e
theorem Keep.upd(id:Nat)(k:Option Blk):Keep id h (Ab.upd h id k):=fun _ _ e hj=>aeF
def Bytes(tb:TypeId)(h:Heap)(y:AV)(l:List UInt8):Prop:=
 (∃q,y= .sl (l.map aN) q)∨∃id off cs,y= .oa id off l.length∧h id=some (.obj cs tb)∧off+l.length≤cs.length∧(cs.drop off).take l.length=l.map aN
theorem Bytes.sl(l:List UInt8)(q:Perm):Bytes tb h (.sl (l.map aN) q) l:=.inl ⟨q,rfl⟩
theorem Bytes.nil(q:Perm):Bytes tb h (.sl [] q) []:=.inl ⟨q,rfl⟩
theorem Bytes.oa{id off:Nat}{cs:List AV}(h1:h id=some (.obj cs tb))(h2:off+l.length≤cs.length)(h3:(cs.drop off).take l.length=l.map aN):Bytes tb h (.oa id off l.length) l:=.inr ⟨id,off,cs,rfl,h1,h2,h3⟩
theorem Bytes.sub(hb:Bytes tb h y l)(hs:Sub h h'):Bytes tb h' y l:=by
 rcases hb with hb|⟨id,off,cs,rfl,h1,h2,h3⟩
 ·exact ahX
 ·exact .oa (hs _ _ h1) h2 h3
theorem Bytes.keep(hb:Bytes tb h y l){id:Nat}(hs:Keep id h h'){cs:List AV}{t:TypeId}(hid:h id=some (.obj cs t))(ht:t≠tb):Bytes tb h' y l:=by
 rcases hb with hb|⟨i,off,cs',rfl,h1,h2,h3⟩
 ·exact ahX
 ·refine .oa (hs _ _ (fun e=>?_) h1) h2 h3
  grind
theorem Bytes.new(hb:Bytes tb h y l){id:Nat}{k:Option Blk}(hid:h id=none):Bytes tb (Ab.upd h id k) y l:=hb.sub (Sub.ak hid)
theorem Bytes.cells(hb:Bytes tb h y l):y.cells= [y]:=by exact ai6
theorem Bytes.fit(hb:Bytes tb h y l)(m:Nat):Ab.fit y m=(m=1):=by exact ai6
theorem Bytes.len(hb:Bytes tb h y l)(e:TypeId)(k:AV→Prop):xx y k (.slice e)=k (.i l.length):=by
 rcases hb with⟨q,rfl⟩|⟨id,off,cs,rfl,_⟩
 ·grind [xx,adT]
 ·rfl
attribute [go_sem] Ru Pe
theorem Bytes.src(hb:Bytes tb h y l){e:TypeId}(he:(U e).sz=1)(k:List AV→Prop):iP U e h y k=k (l.map aN):=by
 rcases hb with⟨q,rfl⟩|⟨id,off,cs,rfl,h1,h2,h3⟩
 ·rfl
 ·rw[PR,h1,he]
  simp only[dN,CE,h3,h2,true_and];apply propext;constructor
  ·simp
  ·intro hk
   exact⟨fun x hx=>by obtain⟨c,_,rfl⟩:=List.mem_map.1 hx;rfl,wL l,hk⟩
theorem Bytes.SF(hb:Bytes tb h y l){e:TypeId}{w:Heap}{Q:AV→Heap→Prop}(hk:∀b:Bool,(l≠ []→b=false)→Q (.b b) w):SG w .eql y Q (.slice e):=by
 rcases hb with⟨q,rfl⟩|⟨id,off,cs,rfl,h1,h2,h3⟩
 ·intro b hb
  exact hk b fun hl=>hb ah8
 ·exact hk false fun _=>rfl
def UH(U:TypeId→TI)(tb:TypeId)(h:Heap)(p:AV)(c:UInt8):Prop:=∀k:AV→Prop,nT U h tb p k=k (aN c)
theorem Bytes.idx(hb:Bytes tb h y l){m:Int}{x:IntKind}{K:AV→Prop}(j:Nat)(hm:m=j)(hj:j<l.length)(hz:(U tb).sz=1)(ha:(U tb).k.agg=false)
  (hk:∀p,UH U tb h p l[j]→K p):pT U y (.v (.int x m)) K (.slice tb):=by
 subst hm;rcases hb with⟨q,rfl⟩|⟨id,off,cs,rfl,h1,h2,h3⟩
 ·refine(vp ..).mpr ⟨ad3,?_⟩
  refine fC.at j ad4 (by rw[adU,hz];rfl) ?_
  refine hk _ fun k=>?_
  simp_all [nT,Ls,aN,AV.cells,bD,List.length_cons,List.length_nil,Nat.zero_add,and_self,if_true]
 ·refine(Bi ..).mpr ⟨ad3,ad3,ad3,?_⟩
  refine hk _ fun k=>?_
  have e1:cs[off+j]? =some (aN l[j]):=by
   have:=congrArg (fun q=>q[j]?) h3
   simp only[List.getElem?_take,hj,if_true,List.getElem?_drop,List.getElem?_map,List.getElem?_eq_getElem hj,Option.map_some]at this;exact aeE
  simp only[nT,h1,dN,CE,hz,Nat.mul_one,Int.toNat_natCast,Ez,ha,Br,e1];simp
theorem Bytes.take(hb:Bytes tb h y l){hi:Operand}{m:Int}{x:IntKind}{K:AV→Prop}(j:Nat)(hm:ev ρ hi=some (.v (.int x m)))(hj:m=j)(hl:j≤l.length)(hz:(U tb).sz=1)(hk:∀z,Bytes tb h z (l.take j)→K z):
  ie U ρ y none (some hi) none K (.slice tb):=by
 subst hj;rcases hb with⟨q,rfl⟩|⟨id,off,cs,rfl,h1,h2,h3⟩
 ·grind [rM,fU,dN,nR,Option.isSome_some,tO,Int.toNat_natCast,List.map_take,sl]
 ·rw[si]
  refine⟨ad3,fun _=>hz,?_⟩
  simp only[mS,fU,hm,dN,nR];refine⟨ad3,ad3,ad3,?_⟩;have e:(l.take j).length=j:=ad4;have:=hk (.oa id off (l.take j).length) (by grind [oa,List.map_take,Nat.min_eq_left])
  rw[e]at this;simpa using this
end
section
variable {ys:List AV}{ls:List (List UInt8)}
variable {P : Program} {U : TypeId → TI} {n : Nat} {ρ : Env} {h h' h2 : Heap} {e tb : TypeId} {y v : AV} {xs zs : List AV} {l : List UInt8} {Q : AV → Heap → Prop}
def fW(h h' :Heap):Prop:=∀j cs t,h j=some (.obj cs t)→h' j=some (.obj cs t)
theorem fW.refl(h:Heap):fW h h:=fun _ _ _ e=>e
theorem fW.trans{a b c:Heap}(x:fW a b)(y:fW b c):fW a c:=fun j cs t e=>y j cs t (x j cs t e)
theorem Sub.fZ(hs:Sub h h'):fW h h' :=fun _ _ _ e=>hs _ _ e
theorem Bytes.fZ(hb:Bytes tb h y l)(hs:fW h h'):Bytes tb h' y l:=by
 rcases hb with hb|⟨id,off,cs,rfl,h1,h2,h3⟩
 ·exact ahX
 ·exact .oa (hs _ _ _ h1) h2 h3
def Acc(U:TypeId→TI)(e:TypeId)(h h' :Heap)(y:AV)(xs:List AV):Prop:=
 Sub h h'∧(y= .sl xs .full∨∃id,h id=none∧y= .sl xs (.own id)∧h' id=some (.spare xs.length (U e).sz))
theorem Acc.full(hs:Sub h h'):Acc U e h h' (.sl xs .full) xs:=⟨hs,.inl rfl⟩
theorem Acc.sub(ha:Acc U e h h' y xs)(hs:Sub h' h2):Acc U e h h2 y xs:=by
 obtain⟨h1,rfl|⟨id,i1,rfl,i2⟩⟩:=ha
 ·exact⟨h1.trans hs,.inl rfl⟩
 ·exact⟨h1.trans hs,.inr ⟨id,i1,rfl,hs _ _ i2⟩⟩
theorem Acc.row(ha:Acc U e h h' y xs):∃q,y= .sl xs q:=by obtain⟨h1,rfl|⟨id,i1,rfl,i2⟩⟩:=ha<;>exact⟨_,rfl⟩
theorem Acc.weak(ha:Acc U e h h' y xs):Weak y (.sl xs .no):=by obtain⟨q,rfl⟩:=ha.row;exact .sl _ _
theorem Acc.len(ha:Acc U e h h' y xs)(t:TypeId)(k:AV→Prop):xx y k (.slice t)=k (.i xs.length):=by obtain⟨q,rfl⟩:=ha.row;rfl
theorem Acc.app(ha:Acc U e h h' y xs)(hz:(U e).sz≠0)(hb:(U e).bytes≠0)(hsrc:∀k:List AV→Prop,k zs→iP U e h' v k)(s1:Sized (U e).sz xs)(s2:Sized (U e).sz zs)
  (hlen:(xs.length+zs.length)*(U e).bytes≤140737488355328) (hk:∀y' h'',Acc U e h h'' y' (xs++zs)→fW h' h''→Q y' h''):apK U h' y v Q (.slice e):=by
 have keep:∀id,(h' id=none∨∃m,h' id=some (.spare m (U e).sz))→∀k,fW h' (upd h' id k):=fun id hid k j cs t hj=>by grind [ag]
 obtain⟨h1,rfl|⟨id,i1,rfl,i2⟩⟩:=ha
 ·refine(qN ..).mpr ⟨hz,hb,hsrc _ ⟨s1,s2,hlen,fun hn=>?_,fun hn=> .own fun id hid=>?_⟩⟩
  ·subst hn
   have:=hk (.sl xs .full) h' (by grind [full]) (.refl _)
   exact aeE
  ·exact hk _ _ ⟨h1.new hid _,.inr ⟨id,h1.none hid,rfl,by rw[ah,adX]⟩⟩ ad4
 ·refine(Cf ..).mpr ⟨hz,hb,hsrc _ ⟨s1,s2,hlen,i2,?_⟩⟩
  have hs2:Sub h (upd h' id (some (.spare (xs.length+zs.length) (U e).sz))):=by
   intro j k hj;rw[ag _ _ fun e=>?_]
   ·exact h1 _ _ hj
   grind
  exact hk _ _ ⟨hs2,.inr ⟨id,i1,rfl,by rw[ah,adX]⟩⟩ ad4
theorem Bytes.MR(hb:Bytes tb h y l):bD y=false:=by exact ai6
def Rows(tb:TypeId)(h:Heap)(ys:List AV)(ls:List (List UInt8)):Prop:=ys.length=ls.length∧∀i (h1:i<ys.length) (h2:i<ls.length),Bytes tb h ys[i] ls[i]
theorem Rows.sized(hr:Rows tb h ys ls):Sized 1 ys:=fun z hz=>by obtain⟨i,hi,rfl⟩:=List.mem_iff_getElem.1 hz;rw[(hr.2 i hi (by rw[←hr.1];omega)).cells];rfl
theorem Rows.nil:Rows tb h [] []:=⟨rfl,fun i h1=>aea⟩
theorem Rows.cons(hb:Bytes tb h y l)(hr:Rows tb h ys ls):Rows tb h (y::ys) (l::ls):=⟨by simp[hr.1],fun i h1 h2=>by
 cases i with
 |zero=>grind
 |succ i=>exact hr.2 i ad4 ad4⟩
end
section
variable {P : Program}
def cX:Heap:=fun _=>none
def cx0(w:World):Cx:=⟨w,fun _=>⟨0,0,none⟩,cX⟩
theorem Vy(w:World):Good (cx0 w) where
 fin:=⟨0,fun _ _=>rfl⟩
 inj:=fun i j k l h=>aeV
 obj:=fun id cs t h=>aeV
 spare:=fun id n sz h=>aeV
 mp:=fun id m h=>aeV
 keys:=fun id m h=>aeV
 ro:=fun id b vs h=>aeV
theorem M8(w:World)(b o:Nat):¬owned (cx0 w) b o:=fun⟨id,k,h,_⟩=>aeV
theorem ai.calls{f:FuncId}{args:List AV}{b:Value}{vs:Array Value}{w:World}(hc:callable P f)(hf:ai P f args cX fun r _=>r= .v b)(hv:vs.size=args.length)(hr:∀i (hi:i<args.length),Rep (cx0 w) args[i] (vs.getD i undef)):
  Calls P f vs w fun e w' =>e= .returned b∧Go.RowKit.Below w.heap.size w w' :=by
 refine((hf (cx0 w) vs (fun _ _ h=>aeV) (Vy w) hv hr).calls hc).mono ?_
 rintro e w' ⟨u,rfl,c',x,h',rfl,g',hE,hx,hs,rfl⟩
 rw[hx.bZ];exact⟨rfl,hE.os,hE.tape,hE.output,hE.size,fun k hk=>hE.block k hk fun o=>M8 w k o⟩
end
section
variable {P : Program} {f : FuncId} {args : List AV} {h : Heap} {Q : AV → Heap → Prop} {X : AV}
theorem ai.pthen(hf:ai P f args h fun r h' =>r=X∧h' =h)(k:Q X h):ai P f args h Q:=
 hf.mono fun r h' ⟨e1,e2⟩=>agD
theorem ai.pthen'(hf:ai P f args h fun r h' =>h' =h∧r=X)(k:Q X h):ai P f args h Q:=
 hf.mono fun r h' ⟨e1,e2⟩=>agD
theorem ai.sthen(hf:ai P f args h fun r h' =>r=X∧Sub h h')(k:∀h',Sub h h'→Q X h'):ai P f args h Q:=
 hf.mono fun r h' ⟨e1,e2⟩=>by subst e1;exact k h' e2
def KV(K:AV→Prop)(x:AV):Prop:=K x
@[congr] theorem UJ{K:AV→Prop}{x x' :AV}(e:x=x'):KV K x=KV K x' :=by rw[e]
@[go_sem] theorem UK(K:AV→Prop)(x:AV):KV K x=K x:=(rfl)
section
variable {U : TypeId → TI} {ρ : Env} {K : AV → Prop}
@[go_sem↓high] theorem E0(xs:List AV)(q:Perm)(lo:Operand)(e:TypeId):ie U ρ (.sl xs q) (some lo) none none K (.slice e)=((U e).sz≠0∧Sized (U e).sz xs∧aE (ev ρ lo) fun y=>Gl y fun a=>0≤a∧a≤xs.length∧KV K (.sl (xs.drop a.toNat) (Ao xs q true false))):=by simp[rN,fU,mS,Option.isSome_none,mF,KV]
@[go_sem↓high] theorem Kx(xs:List AV)(q:Perm)(lo hi:Operand)(e:TypeId):ie U ρ (.sl xs q) (some lo) (some hi) none K (.slice e)=((U e).sz≠0∧Sized (U e).sz xs∧aE (ev ρ lo) fun y=>Gl y fun a=>aE (ev ρ hi) fun z=>Gl z fun b=>0≤a∧a≤b∧b≤xs.length∧KV K (.sl ((xs.drop a.toNat).take (b.toNat - a.toNat)) (Ao xs q true true))):=by simp[rN,fU,Option.isSome_some,OI,KV]
end
attribute [go_sem] Int.toNat_natCast Int.toNat_zero
theorem Ta(l:List UInt8)(n:Nat):(l.map aN).take n=(l.take n).map aN:=(List.map_take ..).symm
theorem R0(l:List UInt8)(n:Nat):(l.map aN).drop n=(l.drop n).map aN:=(List.map_drop ..).symm
theorem yq{α β:Type}{f:β→α}{p:β→Prop}:∀(xs:List α),(∀x∈xs,∃b,x=f b∧p b)→∃bs:List β,xs=bs.map f∧∀b∈bs,p b
 | [],_=>aea
 |x::xs,h=>by
  obtain⟨b,rfl,hb⟩:=h x aea;obtain⟨bs,rfl,hbs⟩:=yq xs fun y hy=>h y ad4
  exact⟨b::bs,rfl,fun c hc=>by
   rcases List.mem_cons.1 hc with h1|h1
   ·rw[h1];exact hb
   ·exact hbs c h1⟩
def iA(n:Int):AV:=.i n
theorem abM(n:Int):iA n= .i n:=(rfl)
theorem aY(n:Int)(h: -9223372036854775808≤n∧n≤9223372036854775807):IntKind.i64.wrap n=n:=by grind [IntWalk.i64_in]
theorem adZ(n:Nat)(h:-9223372036854775808≤(n:Int)+1∧(n:Int)+1≤9223372036854775807):IntKind.i64.wrap ((n:Int)+1)=((n+1:Nat):Int):=by rw[aY _ h];omega
theorem ad0{a b:Nat}(h:decide ((a:Int)<(b:Int))=true):a<b:=Int.ofNat_lt.1 (_root_.of_decide_eq_true h)
attribute [go_sem] Ta R0 abM
end
section
variable {sp:Nat→Bool}{held:Bool}
variable {P : Program} {U : TypeId → TI}
inductive Dat (U:TypeId→TI):TypeId→AV→Prop
 |bool {t:TypeId} (b:Bool) (h:(U t).k= .bool):Dat U t (.b b)
 |int {t:TypeId} {k:IntKind} (n:Int) (h:(U t).k= .int k) (hw:(Lit.int k n).wf=true):Dat U t (.v (.int k n))
 |str {t:TypeId} (l:List UInt8) (h:(U t).k= .str) (hl:l.length≤maxLen):Dat U t (.s l)
 |slice {t e:TypeId} (xs:List AV) (h:(U t).k= .slice e) (hx:∀x∈xs,Dat U e x) (hl:xs.length≤maxLen):Dat U t (.sl xs .no)
 |strct {t:TypeId} {fs:List (Nat×TypeId)} (ys:List AV) (h:(U t).k= .strct fs) (hn:ys.length=fs.length) (hx:∀i (h1:i<fs.length) (h2:i<ys.length),Dat U fs[i].2 ys[i]):Dat U t (.agg (ys.map AV.cells).flatten)
theorem Dat.LA{t:TypeId}{x:AV}(h:Dat U t x)(hk:(U t).k= .bool):∃b,x= .b b:=by
 cases h with
 |bool b h=>simp
 |_=>simp_all
theorem Dat.O1{t:TypeId}{x:AV}{k:IntKind}(h:Dat U t x)(hk:(U t).k= .int k):∃n,x= .v (.int k n)∧(Lit.int k n).wf=true:=by
 cases h with
 |int n h hw=>grind
 |_=>simp_all
theorem Dat.qs{t:TypeId}{x:AV}(h:Dat U t x)(hk:(U t).k= .str):∃l,x= .s l∧l.length≤maxLen:=by
 cases h with
 |str l h hl=>grind
 |_=>simp_all
theorem Dat.Ky{t e:TypeId}{x:AV}(h:Dat U t x)(hk:(U t).k= .slice e):∃xs,x= .sl xs .no∧xs.length≤maxLen∧∀y∈xs,Dat U e y:=by
 cases h with
 |slice xs h hx hl=>grind
 |_=>simp_all
def Fv(U:TypeId→TI):List TypeId→List AV→Prop
 | [],ys=>ys= []
 |t::ts,ys=>∃y r,ys=y::r∧Dat U t y∧Fv U ts r
theorem A3:∀(fs:List (Nat×TypeId)) (ys:List AV),ys.length=fs.length→(∀i (h1:i<fs.length) (h2:i<ys.length),Dat U fs[i].2 ys[i])→Fv U (fs.map (·.2)) ys
 | [],ys,h,_=>List.length_eq_zero_iff.1 h
 |f::fs,[],h,_=>aeV
 |f::fs,y::ys,h,hx=>⟨y,ys,rfl,hx 0 aea aea,A3 fs ys ad4 fun i h1 h2=>hx (i+1) ad4 ad4⟩
theorem Dat.BQ{t:TypeId}{x:AV}{fs:List (Nat×TypeId)}(h:Dat U t x)(hk:(U t).k= .strct fs):∃ys,x= .agg (ys.map AV.cells).flatten∧Fv U (fs.map (·.2)) ys:=by
 cases h with
 |strct ys h hn hx=>rw[hk]at h;cases h;exact⟨ys,rfl,A3 _ _ hn hx⟩
 |_=>simp_all
theorem YQ{n:Int}(h:(Lit.int .i64 n).wf=true): -9223372036854775808≤n∧n≤9223372036854775807:=by grind [Lit.wf,IntKind.min,IntKind.max,IntKind.signed,IntKind.bits]
theorem Dat.i64{t:TypeId}{x:AV}(h:Dat U t x)(hk:(U t).k= .int .i64):∃n,x=iA n∧ -9223372036854775808≤n∧n≤9223372036854775807:=by obtain⟨n,rfl,hw⟩:=h.O1 hk;exact⟨n,rfl,YQ hw⟩
theorem Dat.list{t e:TypeId}{x:AV}{β:Type}{f:β→AV}{p:β→Prop}(h:Dat U t x)(hk:(U t).k= .slice e)(he:∀y,Dat U e y→∃b,y=f b∧p b):∃bs:List β,x= .sl (bs.map f) .no∧bs.length≤maxLen∧∀b∈bs,p b:=by
 obtain⟨xs,rfl,hl,hx⟩:=h.Ky hk;obtain⟨bs,rfl,hb⟩:=yq xs fun y hy=>he y (hx y hy)
 grind
def RL(c:Cx):List AV→List Value→Prop
 | [],vs=>vs= []
 |x::xs,[]=>False
 |x::xs,v::vs=>(Rep c x v∧v.oneCell' =true)∧RL c xs vs
theorem RL.len{c:Cx}:∀ {xs:List AV} {vs:List Value},RL c xs vs→xs.length=vs.length
 | [],vs,h=>by rw[h];rfl
 |x::xs,[],h=>h.elim
 |x::xs,v::vs,h=>by simp[RL.len h.2]
theorem RL.get{c:Cx}:∀ {xs:List AV} {vs:List Value},RL c xs vs→∀i (h:i<xs.length),Rep c xs[i] (vs.getD i undef)∧(vs.getD i undef).oneCell' =true
 | [],vs,h,i,hi=>ad4
 |x::xs,[],h,i,hi=>h.elim
 |x::xs,v::vs,h,0,hi=>h.1
 |x::xs,v::vs,h,i+1,hi=>by simpa using RL.get h.2 i ad4
theorem RL.append{c:Cx}:∀ {xs ys:List AV} {vs us:List Value},RL c xs vs→RL c ys us→RL c (xs++ys) (vs++us)
 | [],ys,vs,us,h,k=>by rw[h];exact k
 |x::xs,ys,[],us,h,k=>h.elim
 |x::xs,ys,v::vs,us,h,k=>⟨h.1,RL.append h.2 k⟩
theorem RL.one{c:Cx}{x:AV}{v:Value}(h:Rep c x v)(h1:v.oneCell' =true):RL c [x] [v]:=⟨⟨h,h1⟩,rfl⟩
def Fc(U:TypeId→TI)(n:Nat):List (Nat×TypeId)→Nat→Bool
 | [],o=>o==n
 |f::fs,o=>f.1==o && Fc U n fs (o+(U f.2).sz)
def GM(U:TypeId→TI)(L:List TypeId):Bool:=L.all fun t=>(U t).sz !=0 && match (U t).k with
 |.bool|.int _|.str=>(U t).sz==1
 |.slice e=>(U t).sz==1 && L.contains e
 |.strct fs=>fs.all (fun f=>L.contains f.2) && Fc U (U t).sz fs 0
 |_=>false
theorem sO(hU:∀t,aP P U t){t:TypeId}(hz:(U t).sz≠0):P.cellsOf t=(U t).sz:=by
 obtain⟨i,h1,h2,_⟩:=(hU t).info hz
 grind [Program.cellsOf]
variable {H : Type} {enc : TypeId × Value → H} {w : World}
theorem Nc(hU:∀t,aP P U t){L:List TypeId}{m:Nat}(n:Nat)(cs:List Value)(hn:cs.length=n)
  (ih:∀(t:TypeId) (cs:List Value) r,t∈L→DataW.trod enc P w 0 sp held m t cs=some r→∃x,Dat U t x∧RL (cx0 w) x.cells cs) (hz:∀t∈L,(U t).sz≠0):
  ∀(fs:List (Nat×TypeId)) (gs:List Field) (o:Nat),gs.map (fun f=>(f.offset,f.type))=fs→(∀f∈fs,f.2∈L)→Fc U n fs o=true→
   (∀f∈gs,∃r,DataW.trod enc P w 0 sp held m f.type ((cs.drop f.offset).take (P.cellsOf f.type))=some r)→
   ∃ys:List AV,ys.length=fs.length∧(∀i (h1:i<fs.length) (h2:i<ys.length),Dat U fs[i].2 ys[i])∧RL (cx0 w) (ys.map AV.cells).flatten (cs.drop o):=by
 intro fs
 induction fs with
 |nil=>
  intro gs o hg hL ht hr;refine⟨[],rfl,fun i h1=>aea,?_⟩
  have:o=n:=by grind [Fc]
  show cs.drop o= []
  grind
 |cons f fs ihf=>
  intro gs o hg hL ht hr;cases gs with
  |nil=>grind
  |cons g gs=>
   simp only[List.map_cons,List.cons.injEq]at hg;obtain⟨hg1,hg2⟩:=hg;simp only[Fc,Bool.and_eq_true,beq_iff_eq]at ht;obtain⟨ht1,ht2⟩:=ht;have hfL:=hL f aea;obtain⟨ys,y1,y2,y3⟩:=ihf gs (o+(U f.2).sz) hg2 ad4 ht2 ad4;obtain⟨r,hr0⟩:=hr g aea;have e1:g.type=f.2:=ad4;have e2:g.offset=o:=ad4;rw[e1,e2,sO hU (hz _ hfL)]at hr0;obtain⟨x,x1,x2⟩:=ih _ _ _ hfL hr0;refine⟨x::ys,ad4,fun i h1 h2=>?_,?_⟩
   ·grind
   ·have:cs.drop o=(cs.drop o).take (U f.2).sz++cs.drop (o+(U f.2).sz):=by rw[←List.drop_drop,List.take_append_drop]
    rw[this];exact x2.append y3
theorem Dt(hU:∀t,aP P U t)(L:List TypeId)(hL:GM U L=true)(hsp:∀b,sp b=true):
  ∀(fuel:Nat) (t:TypeId) (cs:List Value) (r:DataW H×List MemPlace),t∈L→DataW.trod enc P w 0 sp held fuel t cs=some r→∃x,Dat U t x∧RL (cx0 w) x.cells cs:=by
 have hall:∀t∈L,(U t).sz≠0:=fun t ht=>by have:=List.all_eq_true.1 hL t ht;simp only[Bool.and_eq_true,bne_iff_ne]at this;exact this.1
 intro fuel
 induction fuel with
 |zero=>intro t cs r _ h;simp[DataW.trod]at h
 |succ m ih=>
  intro t cs r ht h;have hp:=List.all_eq_true.1 hL t ht;simp only[Bool.and_eq_true,bne_iff_ne]at hp;obtain⟨hz,hp⟩:=hp;have hd:=(hU t).desc;unfold DataW.trod at h;cases hk:(U t).k with
  |bool=>
   rw[hk]at hd;simp only at hd;rw[hd]at h;split at h<;>simp_all
   rename_i b
   exact⟨_,.bool b hk,.one (.v _) rfl⟩
  |int k=>
   rw[hk]at hd;simp only at hd;rw[hd]at h;split at h<;>simp_all
   obtain⟨⟨rfl,hw⟩,_⟩:=h;exact⟨_,.int _ hk hw,.one (.v _) rfl⟩
  |str=>
   rw[hk]at hd;simp only at hd;rw[hd]at h;split at h<;>simp_all
   rename_i s
   refine⟨_,.str s.data.toList hk (by simpa using h.1),.one ?_ rfl⟩
   have:=Rep.s (c:=cx0 w) s.data.toList (by have:=h.1;unfold maxLen at this;simp only[lim];simp;omega)
   simpa using this
  |slice e=>
   rw[hk]at hd hp;simp only at hd;simp only[Bool.and_eq_true]at hp;have he:e∈L:=by simpa using hp.2
   have hez:=hall e he;rw[hd]at h;split at h<;>try (simp_all;done)
   ·rename_i e' heq
    refine⟨_,.slice [] hk (fun x hx=>by cases hx) aea,.one ?_ rfl⟩
    exact .sl [] .no none 0 0 (fun _ _=>undef) (Nat.le_refl _) ad6 (fun _=>rfl) (fun q h _=>aeV) (fun i h=>aeV) (fun q h=>aeV) (fun i h=>aeV) (fun i j h=>aeV) trivial
   ·rename_i e' a len cap heq
    obtain rfl:e=e' :=by simpa using heq
    split at h
    ·rename_i hc
     obtain⟨hc1,hc2,hc3⟩:=hc;simp only[hsp,if_true]at h;obtain⟨els,hels,h⟩:=Option.bind_eq_some_iff.1 h;obtain⟨⟨rst,hrst,_⟩⟩:Nonempty {rst // (List.range (cap - len)).mapM (fun j=>((w.cells? 0 (a.add ((len+j)*P.cellsOf e)) (P.cellsOf e)).bind (DataW.trod enc P w 0 sp held m e)))=some rst∧True}:=by
      cases hq:(List.range (cap - len)).mapM (fun j=>((w.cells? 0 (a.add ((len+j)*P.cellsOf e)) (P.cellsOf e)).bind (DataW.trod enc P w 0 sp held m e)))with
      |none=>rw[hq]at h;simp at h
      |some rst=>exact⟨⟨rst,rfl,trivial⟩⟩
     rw[sO hU hez]at hels hrst;have cell:∀j,j<(U e).sz→∀(b:Addr) vs,w.cells? 0 b (U e).sz=some vs→w.cell? (b.add j)=vs[j]?∧vs.length=(U e).sz:=fun j hj b vs hb=>by
      simp only[World.cells?,Nat.zero_le,if_true]at hb;have:=mapM_some_get hb j j (by simp[hj])
      exact⟨this,by simpa using mapM_some_length hb⟩
     have el:∀i,i<len→∃vs x,w.cells? 0 (a.add (i*(U e).sz)) (U e).sz=some vs∧Dat U e x∧RL (cx0 w) x.cells vs:=fun i hi=>by
      have:=mapM_some_get hels i i (by simp[hi])
      have hi2:i<els.length:=by have:=mapM_some_length hels;simp at this;omega
      rw[List.getElem?_eq_getElem hi2]at this;obtain⟨vs,v1,v2⟩:=Option.bind_eq_some_iff.1 this;obtain⟨x,x1,x2⟩:=ih _ _ _ he v2;exact⟨vs,x,v1,x1,x2⟩
     have hspot:0<cap→a.spot=none∧a.block<w.heap.size:=fun hcap=>by
      have:∃b vs,w.cells? 0 b (U e).sz=some vs∧b.spot=a.spot∧b.block=a.block:=by
       by_cases hl:0<len
       ·obtain⟨vs,x,v1,_⟩:=el 0 hl
        have a0:a.add (0*(U e).sz)=a:=by simp[Addr.add]
        exact⟨_,vs,v1,by rw[a0],by rw[a0]⟩
       ·have:=mapM_some_get hrst 0 0 (by rw[List.getElem?_eq_getElem aeD];simp)
        have hi2:0<rst.length:=by have:=mapM_some_length hrst;simp at this;omega
        rw[List.getElem?_eq_getElem hi2]at this;obtain⟨vs,v1,v2⟩:=Option.bind_eq_some_iff.1 this;have a0:a.add ((len+0)*(U e).sz)=a:=by obtain rfl:len=0:=ad3;simp[Addr.add]
        exact⟨_,vs,v1,by rw[a0],by rw[a0]⟩
      obtain⟨b,vs,b1,b2,b3⟩:=this;obtain⟨c1,c2⟩:=cell 0 ad3 b vs b1;rw[List.getElem?_eq_getElem ad3]at c1;rw[←b2,←b3];unfold World.cell? at c1;split at c1
      ·rename_i hh
       split at c1
       ·cases c1
       ·rename_i hs
        refine⟨?_,?_⟩
        ·have:(b.add 0).spot=b.spot:=by simp[Addr.add]
         rw[this]at hs;cases hb:b.spot with
         |none=>rfl
         |some z=>rw[hb]at hs;simp at hs
        ·exact(Array.getElem?_eq_some_iff.1 hh).1
      ·cases c1
     have:∀n,n≤len→∃xs:List AV,xs.length=n∧∀i (hi:i<xs.length),Dat U e xs[i]∧∃vs,w.cells? 0 (a.add (i*(U e).sz)) (U e).sz=some vs∧RL (cx0 w) xs[i].cells vs:=by
      intro n
      induction n with
      |zero=>exact fun _=>⟨[],rfl,fun i hi=>by cases hi⟩
      |succ n ihn=>
       intro hn;obtain⟨xs,e1,e2⟩:=ihn ad3;obtain⟨vs,x,v1,v2,v3⟩:=el n ad3;refine⟨xs++ [x],by simp[e1],fun i hi=>?_⟩
       by_cases hi' :i<xs.length
       ·rw[List.getElem_append_left hi']
        exact e2 i hi'
       ·have:i=n:=by simp at hi;omega
        subst this;rw[List.getElem_append_right ad3];simp only[e1,Nat.sub_self,List.getElem_singleton];exact⟨v2,vs,v1,v3⟩
     obtain⟨xs,e1,e2⟩:=this len (Nat.le_refl _);subst e1;refine⟨.sl xs .no,.slice xs hk (fun x hx=>?_) ad3,.one ?_ rfl⟩
     ·obtain⟨i,hi,rfl⟩:=List.mem_iff_getElem.1 hx
      exact(e2 i hi).1
     ·refine .sl xs .no (some a) cap (U e).sz (fun i j=>((w.cells? 0 (a.add (i*(U e).sz)) (U e).sz).getD []).getD j undef) hc2 (by unfold maxLen at hc3;simp only[lim];omega) (fun hh=>afs) (fun q hq hcap=>by cases hq;exact hspot hcap)
       (fun i hi=>?_) (fun q hq i j hi hj=>?_) (fun i hi j hj=>?_) (fun i j hi hj=>?_) trivial
      ·obtain⟨_,vs,v1,v2⟩:=e2 i hi
       rw[v2.len];exact(cell 0 ad3 _ _ v1).2
      ·cases hq
       obtain⟨_,vs,v1,v2⟩:=e2 i hi;refine⟨?_,M8 w _ _⟩;obtain⟨c1,c2⟩:=cell j hj _ _ v1;rw[v1];obtain⟨hs1,_⟩:=hspot ad3;obtain⟨ab,ao,az⟩:=a;simp only at hs1;subst hs1
       rw[cG,cG]at c1;simp only[Option.getD_some];have hj2:j<vs.length:=ad3;rw[show vs.getD j undef=vs[j] by simp[hj2]]
       rw[List.getElem?_eq_getElem hj2,Nat.add_assoc]at c1;exact c1
      ·obtain⟨_,vs,v1,v2⟩:=e2 i hi
       rw[v1];exact(v2.get j hj).1
      ·obtain⟨_,vs,v1,v2⟩:=e2 i hi
       rw[v1];have:=(cell 0 ad3 _ _ v1).2;exact(v2.get j (by rw[v2.len];omega)).2
    ·cases h
  |strct fs=>
   rw[hk]at hd hp;simp only at hd;simp only[Bool.and_eq_true]at hp;obtain⟨gs,hd,hg,_⟩:=hd;rw[hd]at h;have hq:cs.length=P.cellsOf t∧∃xs,(gs.toList.mapM fun f=>DataW.trod enc P w 0 sp held m f.type ((cs.drop f.offset).take (P.cellsOf f.type)))=some xs:=by
    split at h<;>try (simp_all;done)
    rename_i fs' heq
    obtain rfl:gs=fs' :=by simpa using heq
    split at h
    ·rename_i hl
     obtain⟨xs,h1,_⟩:=Option.map_eq_some_iff.1 h;exact⟨hl,xs,h1⟩
    ·cases h
   obtain⟨hl,xs,hxs⟩:=hq;rw[sO hU hz]at hl;obtain⟨ys,y1,y2,y3⟩:=Nc hU (U t).sz cs hl ih hall fs gs.toList 0 hg (fun f hf=>by have:=List.all_eq_true.1 hp.1 f hf;simpa using this) hp.2 (fun f hf=>by
    obtain⟨i,hi,rfl⟩:=List.mem_iff_getElem.1 hf;have hi2:i<xs.length:=by have:=mapM_some_length hxs;omega
    have:=mapM_some_get hxs i _ (List.getElem?_eq_getElem hi);rw[List.getElem?_eq_getElem hi2]at this;exact⟨_,this⟩)
   exact⟨_,.strct ys hk y1 y2,y3⟩
  |_=>rw[hk]at hp;simp at hp
theorem mY(hU:∀t,aP P U t)(L:List TypeId)(hL:GM U L=true)(hsp:∀b,sp b=true){t:TypeId}{v:Value}{d:DataW H}{p:List MemPlace}(ht:t∈L){base:Nat}{rc:Reach}
  (hv:Value.okWide P w rc base t v) (h:DataW.Trod enc P w 0 sp held t v d p):∃x,Dat U t x∧Rep (cx0 w) x v:=by
 obtain⟨fuel,h⟩:=h;obtain⟨x,x1,x2⟩:=Dt hU L hL hsp fuel t _ _ ht h;refine⟨x,x1,?_⟩;have hd:=(hU t).desc;cases x1 with
 |strct ys hk hn hx=>
  rw[hk]at hd;obtain⟨gs,hd,_⟩:=hd;unfold Value.okWide at hv;rw[hd]at hv;obtain⟨cs,rfl,_⟩:=hv;have hl:=x2.len;simp only[AV.cells,Value.cells]at hl x2;refine .agg _ _ ad4 (fun i hi=>?_) (fun i hi=>?_)
  ·have:=(x2.get i hi).1
   simpa using this
  ·have:=(x2.get i hi).2
   simpa using this
 |bool b hk=>exact aiB
 |int n hk hw=>exact aiB
 |str l hk hl=>exact aiB
 |slice xs hk hx hl=>exact aiB
end
section
variable {P : Program} {U : TypeId → TI} {n : Nat} {ρ : Env} {h h' h2 : Heap} {e tb : TypeId} {y v : AV} {xs zs : List AV} {l : List UInt8} {Q : AV → Heap → Prop}
def hm1(id:Nat)(k:Blk):Heap:=upd (fun _=>none) id (some k)
theorem gz(id:Nat)(k:Blk):hm1 id k id=some k:=ah ..
theorem Sub.hm1{id:Nat}{k:Blk}(h1:h id=some k):Sub (hm1 id k) h:=fun j b hj=>by
 unfold Ab.hm1 at hj
 grind [ah,ag]
theorem fW.new{id:Nat}{k:Option Blk}(hid:h id=none):fW h (upd h id k):=((Sub.refl h).new hid k).fZ
theorem oI.accs{h0:Heap}(hs:Sub h0 h)(hk:∀y' h'',Acc U e h0 h'' y' (xs++zs)→fW h h''→Q y' h''):oI U h xs zs e Q:=
 .own fun id hid=>hk _ _ ⟨hs.new hid _,.inr ⟨id,hs.none hid,rfl,by rw[ah,adX]⟩⟩ (.new hid)
attribute [go_sem] gz
end
end Go.Ab
