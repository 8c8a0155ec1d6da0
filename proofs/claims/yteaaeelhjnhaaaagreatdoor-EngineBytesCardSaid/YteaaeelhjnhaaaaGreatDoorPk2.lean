/- The law EngineBytes: pack 2 of its texts. -/
import Derived.ScopeJumps
import Derived.Below
import Derived.OpenShut
import Derived.Test.YteaaeelhjnhaaaaGreatDoorPk1
set_option linter.unusedSimpArgs false
set_option linter.unusedVariables false
set_option maxRecDepth 100000
namespace Go.Ab
open Go
section
variable {P : Program} {U : TypeId → TI}
def callable (P : Program) (f : FuncId) : Prop := ∃ fn, P.funcs[f]? = some fn ∧ (fn.name == "runtime.NumGoroutine") = false ∧ fn.body.isNone = false
def Ac(P:Program)(f:FuncId)(vs:Array Value)(w:World)(K:Value→World→Prop):Prop:=
 (callable P f∧Calls P f vs w fun e w' =>∃u,e= .returned u∧K u w')∨∃u w',(callFunc f vs).run P w= .ok (.value u) w'∧K u w'
theorem Ac.mono{f}{vs}{w}{K K'}(h:Ac P f vs w K)(hk:∀u w',K u w'→K' u w'):Ac P f vs w K' :=by
 rcases h with⟨h1,h2⟩|⟨u,w',h1,h2⟩
 ·exact .inl ⟨h1,h2.mono fun e w' ⟨u,h3,h4⟩=>⟨u,h3,hk _ _ h4⟩⟩
 ·exact .inr ⟨u,w',h1,hk _ _ h2⟩
theorem qn{f}(hc:callable P f)(vs)(w):(callFunc f vs).run P w= .ok (.enter f vs) w:=by
 obtain ⟨fn,hfn,hname,hbody⟩:=hc;have h3 : fn.name ≠ "runtime.NumGoroutine" := acL;have h4:fn.body≠none:=fun hh=>by rw [hh] at hbody; cases hbody
 simp[callFunc,hfn,h3,h4]
theorem Ac.calls{f}{vs}{w}{K}(hc:callable P f)(h:Ac P f vs w K):Calls P f vs w fun e w' =>∃u,e= .returned u∧K u w' :=by
 rcases h with⟨h1,h2⟩|⟨u,w',h1,h2⟩
 ·omega
 grind [qn]
def ai(P:Program)(f:FuncId)(args:List AV)(h:Heap)(Q:AV→Heap→Prop):Prop:=
 ∀c (vs:Array Value),Sub h c.h→Good c→vs.size=args.length→(∀i (hi:i<args.length),Rep c args[i] (vs.getD i undef))→Ac P f vs c.w (eT c Q)
theorem eT.mono{c}{Q Q'}{u}{w'}(h:eT c Q u w')(hq:∀x h,Q x h→Q' x h):eT c Q' u w' :=by obtain⟨c',x,h',h1,h2,h3,h4,h5,h6⟩:=h;exact⟨c',x,h',h1,h2,h3,h4,h5,hq _ _ h6⟩
theorem ai.mono{f}{args}{h}{Q Q'}(hf:ai P f args h Q)(hq:∀x h,Q x h→Q' x h):ai P f args h Q' :=
 fun c vs h1 h2 h3 h4=>(hf c vs h1 h2 h3 h4).mono fun u w' h6=>h6.mono hq
def ES(y:AV)(n:Nat):AV:=match y with
 |.ob id off len cap sz=> .ob id off (min len n) cap sz
 |y=>y
theorem Kx{c}{y}{u}(n)(h:Rep c y u):∃u',Rep c (ES y n) u'∧(∀sz k,Builtin.firstCells sz k u' =Builtin.firstCells sz k u)∧
  ∀w m,(Builtin.lenOf u').run P w= .ok m w→m≤n→∃m',(Builtin.lenOf u).run P w= .ok m' w∧Nat.min m' n=m:=by
 cases y with
 |ob id off len cap sz=>
  obtain⟨o,rfl,h1,h2,cs,t,h3,h4⟩:=h.jq;refine⟨.slice (some ⟨(c.φ id).block,o,none⟩) (min len n) cap,.ob _ _ _ _ _ _ cs t h3 acK h2 h4,fun _ _=>rfl,fun w m hm hn=>⟨len,acY,?_⟩⟩
  simp_all [Builtin.lenOf,Sem.run_pure,Result.ok.injEq,and_true]
 |_=>exact⟨u,h,fun _ _=>rfl,fun w m hm hn=>⟨m,hm,Nat.min_eq_left hn⟩⟩
def Cf(U:TypeId→TI)(h:Heap)(ts:TypeId)(x y:AV)(Q:AV→Heap→Prop):Prop:=
 match (U ts).k with
 |.slice e=>match x with
  |.oa id off len=>(U e).sz=1∧gX U e h y fun ys=>Sized 1 ys∧(∀z∈ys,bC z=false)∧match h id with
   |some (.obj cs t)=>ys.length≤len∧off+len≤cs.length∧Q (.i ys.length) (upd h id (some (.obj (over cs off ys) t)))
   |_=>False
  |.ob id off len _ sz=>(U e).sz≠0∧sz=(U e).sz∧gX U e h (ES y len) fun ys=>Sized (U e).sz ys∧match h id with
   |some (.obj cs t)=>ys.length≤len∧off+len*(U e).sz≤cs.length∧Q (.i ys.length) (upd h id (some (.obj (over cs off (au ys)) t)))
   |_=>False
  |_=>False
 |_=>False
def FF:Operand→Bool
 |.const (.slice none _ _)=>true
 |_=>false
def MI(U:TypeId→TI)(h:Heap)(op:BinOp)(ty:TypeId)(x:AV)(Q:AV→Heap→Prop):Prop:=
 match (U ty).k,op,x with
 |.slice _,.eql,.sl xs _=>∀b:Bool,(xs≠ []→b=false)→Q (.b b) h
 |.slice _,.neq,.sl xs _=>∀b:Bool,(xs≠ []→b=true)→Q (.b b) h
 |.slice _,.eql,.oa .. =>Q (.b false) h
 |.slice _,.neq,.oa .. =>Q (.b true) h
 |.slice _,.eql,.ob .. =>Q (.b false) h
 |.slice _,.neq,.ob .. =>Q (.b true) h
 |_,_,_=>False
def Tz(sz m id:Nat):AV:=if sz=1 then .oa id 0 m else .ob id 0 m m sz
def zT(m:List (AV×AV))(b v:AV):List (AV×AV):=if(getM m b).isSome then m.map (fun p=>if si p.1 b then(p.1,v)else p)else m++ [(b,v)]
def Hw(U:TypeId→TI)(ρ:Env)(mt:TypeId):Option Operand→Prop
 |none=>True
 |some x=>(∃kt e,(U mt).k= .map kt e)∧withv ρ x fun a=>∃kk n,a= .v (.int kk n)
def bh(P:Program)(U:TypeId→TI)(ρ:Env)(h:Heap)(o:Oper)(Q:AV→Heap→Prop):Prop:=
 match o.op with
 |.alloc t=>if isUnit (U t).k then∀id,h id=none→Q (.ptr id 0) (upd h id (some (.obj [] t)))else(U t).sz≠0∧fit (U t).zero (U t).sz∧∀id,h id=none→Q (.ptr id 0) (upd h id (some (.obj (U t).zero.cells t)))
 |.box t x=>(U t).sz≠0∧withv ρ x fun y=>fit y (U t).sz∧∀id,h id=none→Q (.ptr id 0) (upd h id (some (.obj y.cells t)))
 |.store t a x=>if isUnit (U t).k then withv ρ a fun p=>withv ρ x fun y=>y= .agg []∧match p with
   |.ptr .. =>Q (.v undef) h
   |_=>False
  else(U t).sz≠0∧withv ρ a fun p=>withv ρ x fun y=>match p with
  |.ptr id off=>match h id with
   |some (.obj cs t')=>fit y (U t).sz∧off+(U t).sz≤cs.length∧Q (.v undef) (upd h id (some (.obj (over cs off y.cells) t')))
   |_=>False
  |_=>False
 |.makeSlice t l m=>withv ρ l fun a=>withv ρ m fun b=>match (U t).k,a,b with
  |.slice e,.v (.int _ n),.v (.int _ n')=>n=n'∧0≤n∧n<lim∧n*(U e).bytes≤281474976710656∧(U e).sz≠0∧fit (U e).zero (U e).sz∧
   ∀id,h id=none→Q (Tz (U e).sz n.toNat id) (upd h id (some (.obj (cJ (U e).zero n.toNat (U e).sz) e)))
  |_,_,_=>False
 |.makeMap mt r=>Hw U ρ mt r∧∀id,h id=none→Q (.mp id) (upd h id (some (.mp [])))
 |.mapUpdate mt x y z=>withv ρ x fun a=>withv ρ y fun b=>withv ρ z fun v=>match (U mt).k,a with
  |.map kt e,.mp id=>gG (U kt).k b∧match h id with
   |some (.mp m)=>(∀p∈m,gG (U kt).k p.1)∧Q (.v undef) (upd h id (some (.mp (zT m b v))))
   |_=>False
  |_,_=>False
 |.call c=>match c.callee with
  |.value q=>withv ρ q fun y=>match y with
   |.fn f cap=>withvs ρ c.args.toList fun ys=>ai P f (ys++cap) h Q
   |_=>False
  |.builtin .append=>match c.args.toList,c.argTypes.toList with
   | [x,y],[ts,tx]=>withv ρ x fun a=>withv ρ y fun b=>apT (qZ U h ts a b Q) (Ep U h ts a b Q) (U tx).k
   |_,_=>False
  |.builtin .copy=>match c.args.toList,c.argTypes.toList with
   | [x,y],[ts,_]=>withv ρ x fun a=>withv ρ y fun b=>Cf U h ts a b Q
   |_,_=>False
  |_=>pv U ρ h o.op fun x=>Q x h
 |.binOp op ty x y _=>if FF y then withv ρ x fun a=>MI U h op ty a Q else pv U ρ h o.op fun x=>Q x h
 |_=>pv U ρ h o.op fun x=>Q x h
def lW(P:Program)(c:Cx)(Q:AV→Heap→Prop):Result Next→Prop
 |.ok (.value u) w' =>eT c Q u w'
 |.ok .skip w' =>eT c Q undef w'
 |.ok (.enter f args) w' =>w' =c.w∧Calls P f args w' fun e w'' =>∃u,e= .returned u∧eT c Q u w''
 |_=>False
theorem vh{ρ}{h}{o}{Q}(hU:∀t,aO P U t)(hp:pv U ρ h o.op fun x=>Q x h){c}{a}{n}(hs:Sub h c.h)(g:Good c)(he:cr c n ρ a):
  lW P c Q ((execOp a.eval o).run P c.w):=by
 obtain⟨X,hQ,hX⟩:=yR hU hp;obtain⟨u,c',h1,h2,h3,h4,h5⟩:=hX c a n hs g he;rw[h1];exact⟨c',X,h,rfl,h2,h3,h5,acL,hQ⟩
theorem xU{h:Heap}{c:Cx}(hs:Sub h c.h){id:Nat}(hid:c.h id=none):h id=none:=by exact ahB
theorem o7{c}{h}{t}{y}{u}{n}{Q}(hs:Sub h c.h)(g:Good c)(hr:Rep c y u)(hf:fit y n)
  (hQ:∀id,h id=none→Q (.ptr id 0) (upd h id (some (.obj y.cells t)))):eT c Q (.pointer (some ⟨c.w.heap.size,0,none⟩)) (c.w.alloc (.cells u.cells t)):=by
 obtain⟨id,hid⟩:=g.fresh;obtain⟨f1,f2,f3,f4⟩:=hr.fits hf;refine⟨c.ay (.cells u.cells t) id ⟨c.w.heap.size,0,none⟩ (.obj y.cells t),_,_,rfl,?_,Ext.ay c _ id _ _ rfl (.inl hid),?_,hs.upd id _,hQ id (xU hs hid)⟩
 ·refine g.ay _ _ (0,0) id _ _ rfl (.inl hid) (fun cs t' hh=>?_) (fun n sz hh=>acS)
  grind
 ·have:=Rep.ptr (c:=c.ay (.cells u.cells t) id ⟨c.w.heap.size,0,none⟩ (.obj y.cells t)) id 0 y.cells t ae6
  simpa[Cx.ay,ah]using this
theorem Eb{ρ:Env}{h:Heap}{o:Oper}{Q:AV→Heap→Prop}{t:TypeId}(hU:∀t,aO P U t)(ho:o.op= .alloc t)(hz:(U t).sz≠0)(hf:fit (U t).zero (U t).sz)
  (hQ:∀id,h id=none→Q (.ptr id 0) (upd h id (some (.obj (U t).zero.cells t)))) {c:Cx} {a:Act} (hs:Sub h c.h) (g:Good c):lW P c Q ((execOp a.eval o).run P c.w):=by
 obtain⟨i,i1,i2,i3,z,z1,z2,z3⟩:=(hU t).info hz;have hz0:(zeroValue t).run P c.w= .ok z c.w:=adK;have:=o7 (t:=t) hs g (z3 c) hf hQ;have hr:(execOp a.eval o).run P c.w= .ok (.value (.pointer (some ⟨c.w.heap.size,0,none⟩))) (c.w.alloc (.cells z.cells t)):=by simp_all [execOp,Instr.alloc,newVar,newRow]
 rw[hr];exact adr
theorem Ju{ρ}{h}{o}{Q}{t}{x}(ho:o.op= .box t x)
  (hk:withv ρ x fun y=>fit y (U t).sz∧∀id,h id=none→Q (.ptr id 0) (upd h id (some (.obj y.cells t)))) {c} {a} {n} (hs:Sub h c.h) (g:Good c) (he:cr c n ρ a):
  lW P c Q ((execOp a.eval o).run P c.w):=by
 obtain⟨y,hy,hf,hQ⟩:=aJ hk;have:=o7 (t:=t) hs g (aF he hy) hf hQ;have hr:(execOp a.eval o).run P c.w= .ok (.value (.pointer (some ⟨c.w.heap.size,0,none⟩))) (c.w.alloc (.cells (a.eval x).cells t)):=by simp[execOp,ho,Instr.box,newVar,newRow]
 rw[hr];exact adr
theorem Eh{ρ}{h}{o}{Q}{t}{p x}(hU:∀t,aO P U t)(ho:o.op= .store t p x)(hk:bh P U ρ h o Q){c}{a}{n}(hs:Sub h c.h)(g:Good c)(he:cr c n ρ a):
  lW P c Q ((execOp a.eval o).run P c.w):=by
 simp only[bh,ho]at hk
 by_cases hun:isUnit (U t).k=true
 ·rw[if_pos hun]at hk
  obtain⟨i,i1,_,i3⟩:=(hU t).unit (uF hun);obtain⟨A,hA,hk⟩:=aJ hk;obtain⟨y,hy,hk2⟩:=aJ hk;obtain⟨rfl,hk2⟩:=hk2;split at hk2
  ·obtain⟨hu,_⟩:=(aF he hA).kT
   obtain⟨vs,hv,hn,_⟩:=(aF he hy).oK;have hr:(execOp a.eval o).run P c.w= .ok .skip c.w:=by simp_all [execOp,Instr.storeAt,Instr.sureAddr,storeVar,sizeOf,typeInfo,Value.cells,storeCells]
   rw[hr];exact adP
  grind
 rw[if_neg hun]at hk;obtain⟨hz,hk⟩:=hk;obtain⟨A,hA,hk⟩:=aJ hk;obtain⟨y,hy,hk2⟩:=aJ hk;split at hk2
 ·rename_i id off
  split at hk2
  ·rename_i cs t' hid
   obtain⟨hf,hb,hQ⟩:=hk2;obtain⟨f1,f2,f3,f4⟩:=(aF he hy).fits hf;obtain⟨hu,_⟩:=(aF he hA).kT;obtain⟨h1,h2⟩:=iY (P:=P) (off:=off) (xs:=y.cells) (vs:=(a.eval x).cells.toList) (u:=undef) (X:=.v undef) hs g hid acL acK
    agP (fun _ _=> .v _) hQ
   have hr:(execOp a.eval o).run P c.w= .ok .skip (c.w.setCells (c.φ id).block off (a.eval x).cells.toList):=by simp[execOp,ho,Instr.storeAt,hu,Instr.sureAddr,storeVar,bE hU hz,f1,h1]
   rw[hr];exact agH
  grind
 grind
theorem zW{ρ}{h}{o}{Q}{mt}{r}(hU:∀t,aO P U t)(ho:o.op= .makeMap mt r)(hr:Hw U ρ mt r)(hk:∀id,h id=none→Q (.mp id) (upd h id (some (.mp []))))
  {c} {a} {n} (hs:Sub h c.h) (g:Good c) (he:cr c n ρ a):lW P c Q ((execOp a.eval o).run P c.w):=by
 obtain⟨id,hid⟩:=g.fresh;have hfr:h id=none:=by exact ahB
 have hrun:(execOp a.eval o).run P c.w= .ok (.value (.map (some c.w.heap.size))) (c.w.alloc (.map #[] 0)):=by
  cases r with
  |none=>simp[execOp,ho,Instr.makeMap]
  |some x=>obtain⟨⟨kt,e,hty⟩,hv⟩:=hr;have hd:=(hU mt).desc;rw[hty]at hd;obtain⟨A,hA,kk,m,rfl⟩:=aJ hv;simp[execOp,ho,Instr.makeMap,run_underlying hd,(aF he hA).bS,asInt,asIntOf]
 rw[hrun];refine⟨c.ay (.map #[] 0) id ⟨c.w.heap.size,0,none⟩ (.mp []),_,_,rfl,g.allocMap id hid,Ext.ay _ _ id _ _ rfl (.inl hid),?_,hs.upd id _,hk id hfr⟩;have:=Rep.mp (c:=c.ay (.map #[] 0) id ⟨c.w.heap.size,0,none⟩ (.mp [])) id [] ae6;simpa[Cx.ay,ah]using this
theorem wF{ρ}{h}{o}{Q}{mt}{x y z}(hU:∀t,aO P U t)(ho:o.op= .mapUpdate mt x y z)
  (hk:withv ρ x fun a=>withv ρ y fun b=>withv ρ z fun v=>match (U mt).k,a with
   |.map kt e,.mp id=>gG (U kt).k b∧match h id with
    |some (.mp m)=>(∀p∈m,gG (U kt).k p.1)∧Q (.v undef) (upd h id (some (.mp (zT m b v))))
    |_=>False
   |_,_=>False)
  {c} {a} {n} (hs:Sub h c.h) (g:Good c) (he:cr c n ρ a):lW P c Q ((execOp a.eval o).run P c.w):=by
 obtain⟨A,hA,hk⟩:=aJ hk;obtain⟨b,hB,hk⟩:=aJ hk;obtain⟨v,hV,hk⟩:=aJ hk;have hd:=(hU mt).desc;split at hk
 ·rename_i kt e id hty hp' hp''
  clear hp' hp'';rw[hty]at hd;obtain⟨hb,hk⟩:=hk;split at hk
  ·rename_i m hid
   obtain⟨hm,hQ⟩:=hk;have hcid:=hs _ _ hid;obtain⟨hu,_⟩:=(aF he hA).FA;have hv:=Dj hb (aF he hB);have hval:=aF he hV;obtain⟨es,cl,e1,e2,e3⟩:=g.mp id m hcid;obtain⟨K,l,hl⟩:=tC hU hb;have hchk:=K.check c.w false hl;have hg:=g.keys id m hcid;rcases CX hU hb hm e2 (fun i h1 h2=>(e3 i h1 h2).1) c.w with⟨f1,f2⟩|⟨j,hj,hj',f1,f2⟩
   ·have hget:=getM_none hb hm f2
    have hset:zT m b v=m++ [(b,v)]:=by grind [zT]
    have hrun:(execOp a.eval o).run P c.w= .ok .skip (c.turn id (es.push {key:=jc b,val:=a.eval z,born:=cl}) (cl+1) (m++ [(b,v)])).w:=by
     simp[execOp,ho,hu,hv,Instr.mapUpdate,run_underlying hd,MapKept.run_getObj_map e1,hchk,f1,MapKept.run_setObj_map _ e1,Cx.turn]
     try rfl
    rw[hrun];rw[hset]at hQ;refine⟨c.turn id (es.push {key:=jc b,val:=a.eval z,born:=cl}) (cl+1) (m++ [(b,v)]),_,_,rfl,g.turn id _ es _ cl _ m hcid e1 acL (fun i h1 h2=>?_) ?_,Ext.turn id _ es _ cl _ m hcid e1,.v _,hs.upd id _,hQ⟩
    ·grind
    grind
   ·have hget:=BN hb hm hg j hj f2
    have hset:zT m b v=m.map (fun p=>if si p.1 b then(p.1,v)else p):=by grind [zT]
    have hst:=K.stays c.w hl;have hkey:es[j].key=jc b:=(e3 j hj hj').1.trans f2;have hrun:(execOp a.eval o).run P c.w= .ok .skip (c.turn id (es.modify j fun e=> {e with key:=jc b,val:=a.eval z}) cl (m.map (fun p=>if si p.1 b then(p.1,v)else p))).w:=by
     simp[execOp,ho,hu,hv,Instr.mapUpdate,run_underlying hd,MapKept.run_getObj_map e1,hchk,f1,hj',hkey,hst,MapKept.run_setObj_map _ e1,Cx.turn]
     try rfl
    rw[hrun];rw[hset]at hQ;refine⟨c.turn id (es.modify j fun e=> {e with key:=jc b,val:=a.eval z}) cl (m.map (fun p=>if si p.1 b then(p.1,v)else p)),_,_,rfl,g.turn id _ es _ cl _ m hcid e1 acL (fun i h1 h2=>?_) ?_,Ext.turn id _ es _ cl _ m hcid e1,.v _,hs.upd id _,hQ⟩
    ·have hi:i<m.length:=by grind
     have h3:i<es.size:=acK;rw[Array.getElem_modify,acB]
     by_cases hij:j=i
     ·subst hij
      have hke:si m[j].1 b=true:=(qF (hm _ (acF hj)) hb).2 f2;rw[if_pos rfl,if_pos hke];exact⟨f2.symm,hval⟩
     ·have hke:si m[i].1 b=false:=by
       cases hh:si m[i].1 b with
       |false=>rfl
       |true=>grind [qF,acF,List.pairwise_iff_getElem,Nat.lt_or_gt_of_ne]
      rw[if_neg hij,if_neg acL];exact e3 i hi h3
    grind
  ·exact ac7
 ·exact ac7
theorem wE{ρ}{h}{o}{Q}{t}{l m}(hU:∀t,aO P U t)(ho:o.op= .makeSlice t l m)(hk:bh P U ρ h o Q){c}{a}{n}(hs:Sub h c.h)(g:Good c)(he:cr c n ρ a):
  lW P c Q ((execOp a.eval o).run P c.w):=by
 simp only[bh,ho]at hk;obtain⟨A,hA,hk⟩:=aJ hk;obtain⟨B,hB,hk2⟩:=aJ hk;clear hk;have hd:=(hU t).desc;split at hk2
 ·rename_i e k1 n1 k2 n2 hty
  rw[hty]at hd;obtain⟨rfl,h0,hlim,hbytes,hz,hf,hQ⟩:=hk2;obtain⟨i,i1,i2,i3,z,z1,z2,z3⟩:=(hU e).info hz;have hz0:(zeroValue e).run P c.w= .ok z c.w:=adK;obtain⟨f1,f2,f3,f4⟩:=(z3 c).fits hf;have hw:IntKind.i64.wrap n1=n1:=by grind [lim,IntWalk.i64_in]
  generalize hcells:(Array.range (n1.toNat*(U e).sz)).map (fun j=>(if n1.toNat*(U e).sz=0 then #[]else z.cells)[j % (if n1.toNat*(U e).sz=0 then #[]else z.cells).size]!)=cells
  have hr:(execOp a.eval o).run P c.w= .ok (.value (.slice (some ⟨c.w.heap.size,0,none⟩) n1.toNat n1.toNat)) (c.w.alloc (.cells cells e)):=by
   have hcap:¬(n1<0∨281474976710656<(U e).bytes*n1):=by grind
   have h00:¬(n1<0):=acK;have hcap' :¬(281474976710656<(U e).bytes*n1):=fun hh=>hcap (.inr hh)
   by_cases hn:n1.toNat*(U e).sz=0
   ·simp only[hn,if_true]at hcells
    simp[execOp,ho,(aF he hA).bS,(aF he hB).bS,Instr.makeSlice,run_underlying hd,asInt,asIntOf,typeInfo,i1,i3,hw,bE hU hz,newRow,hcap',h00,hn];simp at hcells;rw[←hcells]
   ·simp only[hn,if_false]at hcells
    simp[execOp,ho,(aF he hA).bS,(aF he hB).bS,Instr.makeSlice,run_underlying hd,asInt,asIntOf,typeInfo,i1,i3,hw,bE hU hz,newRow,hcap',h00,hn,hz0,hcells]
  rw[hr];obtain⟨id,hid⟩:=g.fresh;refine⟨c.ay (.cells cells e) id ⟨c.w.heap.size,0,none⟩ (.obj (cJ (U e).zero n1.toNat (U e).sz) e),_,_,rfl,?_,Ext.ay c _ id _ _ rfl (.inl hid),?_,hs.upd id _,hQ id (xU hs hid)⟩
  ·refine g.ay _ _ (0,0) id _ _ rfl (.inl hid) (fun cs t' hh=>?_) (fun n sz hh=>acS)
   cases hh;have hsz:cells.size=n1.toNat*(U e).sz:=acL;refine⟨rfl,rfl,by grind [cJ],fun j hj=>?_⟩
   have hj' :j<n1.toNat*(U e).sz:=by grind [cJ]
   have hmod:j % (U e).sz<(U e).sz:=Nat.mod_lt _ acK;have e1:(cJ (U e).zero n1.toNat (U e).sz)[j]=(U e).zero.cells[j % (U e).sz]'acK:=by grind [cJ]
   have e2:cells.getD j undef=z.cells.getD (j % (U e).sz) undef:=by rw[←hcells];have hne:¬(n1.toNat*(U e).sz=0):=acK;simp only[hne,if_false];have h9:j % (U e).sz<z.cells.size:=acK;simp[hj',z2];rw[getElem!_pos z.cells (j % (U e).sz) h9,Array.getElem?_eq_getElem h9];rfl
   rw[e1,e2];exact⟨f3 _ acK,f4 _ hmod⟩
  ·have r1:=Rep.oa (c:=c.ay (.cells cells e) id ⟨c.w.heap.size,0,none⟩ (.obj (cJ (U e).zero n1.toNat (U e).sz) e)) id 0 n1.toNat n1.toNat 0 (cJ (U e).zero n1.toNat (U e).sz) e
    ae6 (Nat.le_refl _) acK (fun _=>⟨rfl,by simp only[cJ,acA,List.length_range];have:=Nat.le_mul_of_pos_right n1.toNat (show 0<(U e).sz by omega);omega⟩)
   have r2:=Rep.ob (c:=c.ay (.cells cells e) id ⟨c.w.heap.size,0,none⟩ (.obj (cJ (U e).zero n1.toNat (U e).sz) e)) id 0 n1.toNat n1.toNat (U e).sz 0 (cJ (U e).zero n1.toNat (U e).sz) e
    ae6 (Nat.le_refl _) acK (fun _=>⟨rfl,by grind [cJ,acA,List.length_range]⟩)
   simp only[Cx.ay,ah]at r1 r2;unfold Tz;split
   ·simpa[Cx.ay,ah]using r1
   ·simpa[Cx.ay,ah]using r2
 ·exact hk2.elim
theorem FU{h}{ts tx ty}{x y}{Q}(hU:∀t,aO P U t)(hk:Cf U h ts x y Q)(c)(u v)
  (hs:Sub h c.h) (g:Good c) (hx:Rep c x u) (hy:Rep c y v):
  ∃r w',(Builtin.copy_ #[ts,tx] ty #[u,v]).run P c.w= .ok r w'∧eT c Q r w' :=by
 unfold Cf at hk;have hd:=(hU ts).desc;split at hk
 ·rename_i e hty
  rw[hty]at hd;split at hk
  ·rename_i id off len
   obtain⟨hz,hk⟩:=hk;obtain⟨ys,hk',hsrc⟩:=qU (P:=P) acK hk;clear hk;obtain⟨hsy,hna,hk⟩:=hk';split at hk
   ·rename_i cs t hid
    obtain⟨hle,hb,hQ⟩:=hk;rw[hz]at hsrc;obtain⟨hl,val,row,hlen,hfirst⟩:=hsrc c v hs g hy hsy;obtain⟨cap,o',rfl,h1,h2,h3,_⟩:=hx.o9;have hcells:∀i (hi:i<ys.length),ys[i].cells= [ys[i]]:=fun i hi=>by have hh:=hna _ (acF hi);generalize ys[i]=q at hh;cases q<;>simp[bC]at hh<;>rfl
    have hrow:∀i (hi:i<ys.length),Rep c ys[i] (val i 0):=fun i hi=>by have:=row.hr i hi 0 acL;simpa only[hcells i hi,List.getElem_singleton]using this
    have hget:∀j,j<ys.length→(bZ 1 ys.length val).getD j undef=val j 0:=fun j hj=>by
     have:=gJ (sz:=1) (n:=ys.length) (val:=val) hj (show 0<1 by omega)
     rw[Nat.mul_one,Nat.add_zero]at this;simp[List.getD,this]
    obtain⟨s1,s2⟩:=iY (P:=P) (off:=off) (xs:=ys) (vs:=bZ 1 ys.length val) (u:=.int .i64 ys.length) (X:=.i ys.length) hs g hid (by simp[aT]) acK
     (fun j hj=>by rw[hget j hj];exact⟨hrow j hj,row.ho j 0 hj acK⟩) (fun _ _=> .v _) hQ
    refine⟨_,_,?_,s2⟩;have hmin:Nat.min ys.length len=ys.length:=acL
    by_cases h0:ys.length=0
    ·have e0:bZ 1 ys.length val= []:=by grind [bZ]
     rw[e0]at hfirst s1⊢;simp[Builtin.copy_,run_underlying hd,hlen,hmin,bE hU (show(U e).sz≠0 by omega),hz,hfirst,goInt,storeCells,World.setCells]
    ·obtain rfl:=h3 acK
     simp[Builtin.copy_,run_underlying hd,hlen,hmin,bE hU (show(U e).sz≠0 by omega),hz,hfirst,goInt,s1]
   ·exact ac7
  ·rename_i id off len cap0 sz0
   obtain⟨hz,rfl,hk⟩:=hk;obtain⟨ys,hk',hsrc⟩:=qU (P:=P) hz hk;clear hk;obtain⟨hsy,hk⟩:=hk';split at hk
   ·rename_i cs t hid
    obtain⟨hle,hb,hQ⟩:=hk;obtain⟨v',hy',hfc,hlv⟩:=Kx (P:=P) len hy;obtain⟨hl,val,row,hlen,hfirst⟩:=hsrc c v' hs g hy' hsy;rw[hfc]at hfirst;obtain⟨m',hm1,hm2⟩:=hlv c.w _ (hlen c.w) hle;obtain⟨o',rfl,h1,h2,cs',t',h4,h5⟩:=hx.jq;obtain⟨hly,hry⟩:=row.flat acK;have hle2:ys.length*(U e).sz≤len*(U e).sz:=Nat.mul_le_mul_right _ hle;obtain⟨s1,s2⟩:=iY (P:=P) (off:=off) (xs:=au ys) (vs:=bZ (U e).sz ys.length val) (u:=.int .i64 ys.length) (X:=.i ys.length) hs g hid (by grind [aT]) acK
     hry (fun _ _=> .v _) hQ
    refine⟨_,_,?_,s2⟩
    by_cases h0:ys.length=0
    ·have e0:bZ (U e).sz ys.length val= []:=by grind [bZ]
     rw[e0]at hfirst s1⊢;simp[Builtin.copy_,run_underlying hd,hm1,hm2,bE hU hz,hfirst,goInt,storeCells,World.setCells]
    ·obtain⟨rfl,_⟩:=h5 acK
     simp[Builtin.copy_,run_underlying hd,hm1,hm2,bE hU hz,hfirst,goInt,s1]
   ·exact ac7
  ·exact ac7
 ·exact ac7
theorem FT{f}{h}{Q}{ys}(hf:ai P f ys h Q){c}(hs:Sub h c.h)(g:Good c){vs}(h1:vs.size=ys.length)(h2:∀i (hi:i<ys.length),Rep c ys[i] (vs.getD i undef)):
  lW P c Q ((callFunc f vs).run P c.w):=by
 rcases hf c vs hs g h1 h2 with⟨hc,hcall⟩|⟨u,w',hr,hk⟩
 ·rw[qn hc]
  exact⟨rfl,hcall⟩
 ·rw[hr]
  exact hk
theorem vo{c}{Q}{s}{r}{w'}(hr:s.run P c.w= .ok r w')(hc:eT c Q r w'):lW P c Q ((do pure (.value (←s)):Sem Next).run P c.w):=by simp only[Sem.run_bind,hr,Result.andThen_ok,Sem.run_pure];exact hc
theorem ew{ty e}(h:P.underlying ty=some (.slice e))(d)(a)(l k l' k')(w):(Op.equalIn (d+1) ty (.slice a l k) (.slice none l' k')).run P w= .ok a.isNone w:=by cases a<;>simp[Op.equalIn,run_underlying h]
theorem Jz{ρ}{h}{o}{Q}{op}{t t'}{x y}(hU:∀t,aO P U t)(ho:o.op= .binOp op t x y t')(hy:FF y=true)(hk:withv ρ x fun a=>MI U h op t a Q)
  {c} {a} {n} (hs:Sub h c.h) (g:Good c) (he:cr c n ρ a):lW P c Q ((execOp a.eval o).run P c.w):=by
 obtain⟨A,hA,hk2⟩:=aJ hk;clear hk;obtain⟨l',k',rfl⟩:∃l' k',y= .const (.slice none l' k'):=by
  unfold FF at hy
  grind
 have hev:a.eval (.const (.slice none l' k'))= .slice none l' k' :=rfl;have hd:=(hU t).desc;have hgu:∀ad l k,(eqGuard op t x (.const (.slice none l' k')) (.slice ad l k) (.slice none l' k')).run P c.w= .ok () c.w:=fun ad l k=>gI _ _ _ _ _ _ _ rfl
 unfold MI at hk2;split at hk2
 ·rename_i e xs p hty
  rw[hty]at hd;obtain⟨ad,cap,sz,val,hu,sl⟩:=(aF he hA).iD;have h1:(execOp a.eval o).run P c.w= .ok (.value (.bool ad.isNone)) c.w:=by simp_all [execOp,binOp,kV,ew]
  rw[h1];refine⟨c,_,h,rfl,g,.refl c,.v _,hs,hk2 _ fun hne=>?_⟩
  cases ad with
  |some q=>rfl
  |none=>have:=sl.h0 rfl;have:=sl.hc;have:=List.length_pos_iff.2 hne;omega
 ·rename_i e xs p hty
  rw[hty]at hd;obtain⟨ad,cap,sz,val,hu,sl⟩:=(aF he hA).iD;have h1:(execOp a.eval o).run P c.w= .ok (.value (.bool (!ad.isNone))) c.w:=by simp_all [execOp,binOp,kV,ew]
  rw[h1];refine⟨c,_,h,rfl,g,.refl c,.v _,hs,hk2 _ fun hne=>?_⟩
  cases ad with
  |some q=>rfl
  |none=>have:=sl.h0 rfl;have:=sl.hc;have:=List.length_pos_iff.2 hne;omega
 ·rename_i e id off len hty
  rw[hty]at hd;obtain⟨cap,o',hu,_⟩:=(aF he hA).o9;have h1:(execOp a.eval o).run P c.w= .ok (.value (.bool false)) c.w:=by simp_all [execOp,binOp,kV,ew]
  rw[h1];exact adP
 ·rename_i e id off len hty
  rw[hty]at hd;obtain⟨cap,o',hu,_⟩:=(aF he hA).o9;have h1:(execOp a.eval o).run P c.w= .ok (.value (.bool true)) c.w:=by simp_all [execOp,binOp,kV,ew]
  rw[h1];exact adP
 ·rename_i e id off len cap0 sz0 hty
  rw[hty]at hd;obtain⟨o',hu,_⟩:=(aF he hA).jq;have h1:(execOp a.eval o).run P c.w= .ok (.value (.bool false)) c.w:=by simp_all [execOp,binOp,kV,ew]
  rw[h1];exact adP
 ·rename_i e id off len cap0 sz0 hty
  rw[hty]at hd;obtain⟨o',hu,_⟩:=(aF he hA).jq;have h1:(execOp a.eval o).run P c.w= .ok (.value (.bool true)) c.w:=by simp_all [execOp,binOp,kV,ew]
  rw[h1];exact adP
 ·exact hk2.elim
theorem mS{ρ}{h}{o}{Q}(hU:∀t,aO P U t)(hk:bh P U ρ h o Q){c}{a}{n}(hs:Sub h c.h)(g:Good c)(he:cr c n ρ a):
  lW P c Q ((execOp a.eval o).run P c.w):=by
 have hk0:=hk;unfold bh at hk;split at hk
 ·rename_i t ho
  split at hk
  ·rename_i hun
   obtain⟨i,i1,i2,_⟩:=(hU t).unit (uF hun);have hz0:(zeroValue t).run P c.w= .ok (.agg #[]) c.w:=adK;have:=o7 (t:=t) (y:=.agg []) (u:=.agg #[]) (n:=0) hs g (.agg [] #[] rfl acS acS) rfl hk;have hr:(execOp a.eval o).run P c.w= .ok (.value (.pointer (some ⟨c.w.heap.size,0,none⟩))) (c.w.alloc (.cells (Value.agg #[]).cells t)):=by simp_all [execOp,Instr.alloc,newVar,newRow]
   rw[hr];exact adr
  ·exact Eb (ρ:=ρ) hU ho hk.1 hk.2.1 hk.2.2 hs g
 ·rename_i t x ho
  exact Ju ho hk.2 hs g he
 ·rename_i t p x ho
  exact Eh hU ho hk0 hs g he
 ·rename_i t l m ho
  exact wE hU ho hk0 hs g he
 ·rename_i t r ho
  exact zW hU ho hk.1 hk.2 hs g he
 ·rename_i t x y z ho
  exact wF hU ho hk hs g he
 ·rename_i cl ho
  obtain⟨callee,args,ts⟩:=cl;simp only at hk;split at hk
  ·rename_i q
   obtain⟨y,hy,hk⟩:=aJ hk;split at hk
   ·rename_i f cap
    obtain⟨ys,hys,hk⟩:=fm hk;obtain⟨vs,hu,hn,hr⟩:=(aF he hy).E7;obtain⟨h1,h2⟩:=wJ he _ _ hys;have:(execOp a.eval o).run P c.w=(callFunc f (args.map a.eval++vs)).run P c.w:=by grind [execOp,resolve,Deferred.ofValue,invoke]
    rw[this];refine FT hk hs g acL fun i hi=>?_
    have hsz:(args.map a.eval).size=ys.length:=acL
    by_cases hlt:i<ys.length
    ·have e1:(ys++cap)[i]=ys[i]:=by grind
     have hlt' :i<args.size:=acL;have:=h2 i acK hlt;rw[e1];have e2:(args.map a.eval++vs).getD i undef=a.eval args.toList[i]:=by
      have h9:i<(args.map a.eval++vs).size:=acL;rw[Array.getD,dif_pos h9]
      show(args.map a.eval++vs)[i]=_
      grind
     rw[e2];exact adr
    ·have hi' :i<ys.length+cap.length:=by grind
     have e1:(ys++cap)[i]=cap[i - ys.length]:=acL;rw[e1];have e2:(args.map a.eval++vs).getD i undef=vs.getD (i - ys.length) undef:=by
      have h9:i<(args.map a.eval++vs).size:=acL;have h8:i - ys.length<vs.size:=acK;rw[Array.getD,dif_pos h9,Array.getD,dif_pos h8]
      show(args.map a.eval++vs)[i]=_
      rw[Array.getElem_append_right acK]
      simp_all
     rw[e2];exact hr _ acK
   ·exact ac7
  ·split at hk
   ·rename_i x y t1 t2 hA hB
    obtain⟨A,hA',hk⟩:=aJ hk;obtain⟨B,hB',hk2⟩:=aJ hk;obtain⟨r,w',hr,hc⟩:∃r w',(Builtin.append_ #[t1,t2] o.type #[a.eval x,a.eval y]).run P c.w= .ok r w'∧eT c Q r w' :=by
     unfold apT at hk2;split at hk2
     ·rename_i ki hki
      exact HR hU hki hk2 c _ _ hs g (aF he hA') (aF he hB')
     ·exact aif
     ·exact aif
     grind
    rw[cm ho];have e1:args= #[x,y]:=acL;have e2:ts= #[t1,t2]:=acL;subst e1;subst e2
    exact vo acL hc
   ·exact ac7
  ·split at hk
   ·rename_i x y t1 t2 hA hB
    obtain⟨A,hA',hk⟩:=aJ hk;obtain⟨B,hB',hk2⟩:=aJ hk;obtain⟨r,w',hr,hc⟩:=FU (P:=P) (tx:=t2) (ty:=o.type) hU hk2 c _ _ hs g (aF he hA') (aF he hB');rw[cm ho];have e1:args= #[x,y]:=acL;have e2:ts= #[t1,t2]:=acL;subst e1;subst e2
    exact vo acL hc
   ·exact ac7
  ·exact vh hU hk hs g he
 ·rename_i op ty x y t' ho
  split at hk
  ·rename_i hy
   exact Jz hU ho hy hk hs g he
  ·exact vh hU acK hs g he
 ·exact vh hU hk hs g he
end
section
variable (P : Program) (U : TypeId → TI) (n : Nat)
def qv(all:List Oper)(g:Nat):Option Tmp:=(all[g]?).bind (·.dst)
def jQ(all:List Oper)(ρ:Env)(gd:Option (Nat×Bool))(yes no:Env→Prop):Prop:=
 match gd with
 |none=>yes ρ
 |some (g,want)=>match qv all g with
  |some d=>match lk ρ d with
   |some (.v (.bool t))=>(t=want→yes ((d,.b want)::ρ))∧(t= !want→no ((d,.b (!want))::ρ))
   |some (.v (.tuple _))=>no ρ
   |_=>False
  |none=>False
def KOp(k:Env→Heap→Prop)(ρ:Env)(d:Option Tmp)(x:AV)(h:Heap):Prop:=k (put ρ d x) h
def ko(all:List Oper):List Oper→Env→Heap→(Env→Heap→Prop)→Prop
 | [],ρ,h,K=>K ρ h
 |o::os,ρ,h,K=>eS n o.dst=true∧jQ all ρ o.guard
   (fun ρ=>bh P U ρ h o (KOp (fun ρ h=>ko all os ρ h K) ρ o.dst))
   (fun ρ=>ko all os (put ρ o.dst (.v undef)) h K)
def WPK(K:Exit→Env→Heap→Prop)(c0:Cx)(e:Exit)(a:Act)(w:World):Prop:=
 ∃c ρ h,c.w=w∧Good c∧Ext c0 c∧cr c n ρ a∧Sub h c.h∧K e ρ h
end
section
variable {P : Program} {U : TypeId → TI} {n : Nat}
theorem cr.learn{c}{ρ}{a}(h:cr c n ρ a){d}{t}(hd:lk ρ d=some (.b t)){b}(hb:t=b):cr c n ((d,.b b)::ρ) a:=by
 subst hb;refine⟨h.size,h.defers,fun t' x hx=>?_⟩
 simp only[lk]at hx;split at hx
 ·rename_i e;subst e
  cases hx;exact h.rep _ _ hd
 ·exact h.rep _ _ hx
theorem JJ{c}{ρ}{a}(h:cr c n ρ a){d}{u}(hd:lk ρ d=some (.v u))(hu:u≠undef∨d<a.tmps.size):a.tmps[d]? =some u:=by
 have:=(h.rep d _ hd).bS
 by_cases hlt:d<a.tmps.size
 ·simpa[hlt]using this
 ·have e:a.tmps.getD d undef=undef:=by grind
  rw[e]at this;rcases hu with hu|hu
  ·exact(hu this.symm).elim
  ·exact(hlt hu).elim
theorem C8{all}{ρ}{o}{yes no}(hg:jQ all ρ o.guard yes no){c}{a}(he:cr c n ρ a):
  ∃ρ',cr c n ρ' a∧((Region.wanted o (yielded all.toArray a.tmps)=true∧yes ρ')∨(Region.wanted o (yielded all.toArray a.tmps)=false∧no ρ')):=by
 unfold jQ at hg;split at hg
 ·grind [Region.wanted]
 ·rename_i g want hgd
  split at hg
  ·rename_i d hd
   have hd' :(all[g]?).bind (·.dst)=some d:=hd
   split at hg
   ·rename_i t ht
    obtain⟨h1,h2⟩:=hg;have hy:yielded all.toArray a.tmps g=some t:=by
     have:=JJ he ht (by grind [undef])
     simp[yielded,hd',this]
    by_cases e:t=want
    ·exact⟨_,he.learn ht e,.inl ⟨by grind [Region.wanted],h1 e⟩⟩
    ·have e' :t= !want:=by cases t<;>cases want<;>simp_all
     exact⟨_,he.learn ht e',.inr ⟨by grind [Region.wanted],h2 e'⟩⟩
   ·rename_i vs ht
    refine⟨ρ,he,.inr ⟨?_,hg⟩⟩;have hy:yielded all.toArray a.tmps g=none:=by
     have:=(he.rep _ _ ht).bS
     by_cases hlt:d<a.tmps.size
     ·have e:a.tmps[d]? =some (.tuple vs):=by simp_all
      simp[yielded,hd',e]
     ·have e:a.tmps[d]? =none:=by grind
      simp[yielded,hd',e]
    simp[Region.wanted,hgd,hy]
   ·exact hg.elim
  grind
theorem WPK.after{K}{c0 c1}(he:Ext c0 c1){e}{a}{w}(h:WPK n K c1 e a w):WPK n K c0 e a w:=by obtain⟨c,ρ,hh,h1,h2,h3,h4⟩:=h;exact⟨c,ρ,hh,h1,h2,he.trans h3,h4⟩
theorem rf(hU:∀t,aO P U t){all}{K}(c0):∀(l:List Oper) (ρ:Env) (h:Heap),ko P U n all l ρ h (K .normal)→
  ∀c a,Ext c0 c→Sub h c.h→Good c→cr c n ρ a→wpList P all.toArray (WPK n K c0) l a c.w
 | [],ρ,h,hk,c,a,hE,hs,g,he=>⟨c,ρ,h,rfl,g,hE,he,hs,hk⟩
 |o::os,ρ,h,hk,c,a,hE,hs,g,he=>by
  obtain⟨hd,hk⟩:=hk;obtain⟨ρ',he',hk⟩:=C8 hk he;unfold wpList;rcases hk with⟨hw,hk⟩|⟨hw,hk⟩
  ·rw[if_pos hw]
   left
   have hu:=mS hU hk hs g he';have next:∀u w',eT c (KOp (fun ρ h=>ko P U n all os ρ h (K .normal)) ρ' o.dst) u w'→wpList P all.toArray (WPK n K c0) os (a.put o.dst u) w' :=by
    rintro u w' ⟨c',x,h',rfl,g',hE',hr,hs',hK⟩
    exact rf hU c0 os _ h' hK c' _ (hE.trans hE') hs' g' ((he'.mono hE').put hd hr)
   unfold Oper.wp;generalize (execOp a.eval o).run P c.w=r at hu;cases r with
   |ok nx w' =>exact ag5
   |halt x w' =>exact hu.elim
  ·rw[if_neg acL]
   exact rf hU c0 os _ h hk c _ hE hs g (he'.put hd (.v _))
end
section
variable {P : Program} {U : TypeId → TI}
theorem CT{ρ ρ'}{x}(h:∀t,x= .tmp t→lk ρ t=lk ρ' t):ev ρ x=ev ρ' x:=by
 cases x with
 |tmp t=>exact h t rfl
 |_=>rfl
theorem mh{ρ ρ'}:∀ {xs:List Operand},(∀x∈xs,ev ρ x=ev ρ' x)→evs ρ xs=evs ρ' xs
 | [],_=>rfl
 |x::r,h=>by simp only[evs];rw[h x acS,mh fun y hy=>h y acL]
theorem su{ρ ρ'}{x}{d}{k}(h:∀y,x=some y→ev ρ y=ev ρ' y):dZ ρ x d k=dZ ρ' x d k:=by
 cases x with
 |none=>rfl
 |some y=>simp only[dZ,withv,h y rfl]
theorem ug{ρ ρ'}{fs}{k}:∀ {ps:List (Nat×Operand)} {cs:List AV},(∀p∈ps,ev ρ p.2=ev ρ' p.2)→withps U ρ fs ps cs k=withps U ρ' fs ps cs k
 | [],_,_=>rfl
 |(i,x)::r,cs,h=>by
  simp only[withps,withv];have h1:ev ρ x=ev ρ' x:=agP;rw[h1];have h2:∀cs',withps U ρ fs r cs' k=withps U ρ' fs r cs' k:=fun cs' =>ug fun p hp=>h p acL
  simp only[h2]
theorem Jm{ρ ρ'}{hp}{b}{args}{ts}{k}(h:∀x∈args,ev ρ x=ev ρ' x):pvB U ρ hp b args ts k=pvB U ρ' hp b args ts k:=by
 cases b<;>simp only[pvB,withvs,mh h]
 ·grind [withv]
 grind [withv]
theorem zO{ρ ρ'}{ty}{y}{lo hi mx}{k}(h1:∀x,lo=some x→ev ρ x=ev ρ' x)(h2:∀x,hi=some x→ev ρ x=ev ρ' x)(h3:∀x,mx=some x→ev ρ x=ev ρ' x):
  rA U ρ ty y lo hi mx k=rA U ρ' ty y lo hi mx k:=by
 have e1:∀d (k:Int→Prop),dZ ρ lo d k=dZ ρ' lo d k:=fun d k=>su h1
 have e2:∀d (k:Int→Prop),dZ ρ hi d k=dZ ρ' hi d k:=fun d k=>su h2
 cases mx with
 |none=>simp only[rA,e1,e2]
 |some m=>
  have e3:∀d (k:Int→Prop),dZ ρ (some m) d k=dZ ρ' (some m) d k:=fun d k=>su h3
  simp only[rA,e1,e2,e3]
theorem DT{ρ ρ'}{h}{op}{k}(he:∀x∈op.operands,ev ρ x=ev ρ' x):pv U ρ h op k=pv U ρ' h op k:=by
 cases op<;>simp only[pv]
 case move x=>grind [withv,Op.operands]
 case assign x=>grind [withv,Op.operands]
 case pick c a b=>simp_all [withv,Op.operands]
 case nilCheck x=>grind [withv,Op.operands]
 case binOp op ty x y ty' =>grind [withv,Op.operands]
 case unOp op ty x=>grind [withv,Op.operands]
 case convert s d x=>grind [withv,Op.operands]
 case field ty x f=>grind [withv,Op.operands]
 case extract x i=>grind [withv,Op.operands]
 case index ty x y=>grind [withv,Op.operands]
 case fieldAddr ty x f=>grind [withv,Op.operands]
 case indexAddr ty x y=>grind [withv,Op.operands]
 case load ty x=>grind [withv,Op.operands]
 case slice ty x lo hi mx=>
  simp only[withv,he x ad7]
  grind [zO,Op.operands]
 case lookup mt x y ok=>grind [withv,Op.operands]
 case buildSlice ty n ps=>grind [evs,mh,Op.operands,withvs]
 case build ty ps=>
  have:∀fs cs (k:List AV→Prop),withps U ρ fs ps.toList cs k=withps U ρ' fs ps.toList cs k:=fun fs cs k=>ug fun p hp=>he p.2 (by simp only[Op.operands,List.mem_toArray,List.mem_map];grind)
  simp only[this]
 case makeInterface ty x=>grind [withv,Op.operands]
 case makeFunc fn first cap=>grind [evs,mh,Op.operands,withvs]
 grind [builtin,Jm,Op.operands,Call.operands]
def restrict(ρ:Env)(S:List Nat):Env:=ρ.filter fun p=>S.contains p.1
theorem lu(S)(t):∀ρ:Env,lk (restrict ρ S) t=if S.contains t then lk ρ t else none
 | []=>by simp[restrict,lk]
 |(k,x)::r=>by
  have ih:=lu S t r;simp only[restrict,List.filter_cons]at ih⊢
  by_cases hk:S.contains k=true
  ·rw[if_pos hk]
   simp only[lk]
   by_cases e:k=t
   ·subst e;rw[if_pos rfl,if_pos hk,if_pos rfl]
   ·rw[if_neg e,if_neg e];exact ih
  ·rw[if_neg hk]
   rw[ih]
   by_cases e:k=t
   ·subst e
    simp only[hk];rfl
   ·simp only[lk,if_neg e]
def eY(op:Op):List Nat:=op.operands.toList.filterMap fun|.tmp t=>some t|_=>none
abbrev EF:=Nat→Option AV
def DUpon(P:Program)(c:Cx)(h:Heap)(X:AV):Result Next→Prop
 |.ok (.value u) w' =>∃c',c'.w=w'∧Good c'∧Ext c c'∧Sub h c'.h∧Rep c' X u
 |.ok .skip w' =>∃c',c'.w=w'∧Good c'∧Ext c c'∧Sub h c'.h∧Rep c' X undef
 |.ok (.enter f args) w' =>w' =c.w∧Calls P f args w' fun e w'' =>∃u,e= .returned u∧∃c',c'.w=w''∧Good c'∧Ext c c'∧Sub h c'.h∧Rep c' X u
 |_=>False
def DOK(P:Program)(o:Oper)(F:EF)(h:Heap)(X:AV):Prop:=
 ∀(c:Cx) (a:Act),Sub h c.h→Good c→a.defers= []→(∀t∈eY o.op,∀x,F t=some x→Rep c x (a.tmps.getD t undef))→DUpon P c h X ((execOp a.eval o).run P c.w)
def ji(P:Program)(U:TypeId→TI)(ρ:Env)(h:Heap)(o:Oper)(Q:AV→Prop):Prop:=
 match o.op with
 |.call c=>match c.callee with
  |.value q=>withv ρ q fun y=>match y with
   |.fn f cap=>withvs ρ c.args.toList fun ys=>∃X,ai P f (ys++cap) h (fun x h' =>x=X∧h' =h)∧Q X
   |_=>False
  |_=>pv U ρ h o.op Q
 |_=>pv U ρ h o.op Q
theorem Ga{ρ}{h}{o}{Q}(hU:∀t,aO P U t)(hk:ji P U ρ h o Q):∃X,Q X∧DOK P o (lk ρ) h X:=by
 have hev:∀x∈o.op.operands,ev (restrict ρ (eY o.op)) x=ev ρ x:=fun x hx=>CT fun t ht=>by exact aih
 have henv:∀ {c:Cx} {a:Act},a.defers= []→(∀t∈eY o.op,∀x,lk ρ t=some x→Rep c x (a.tmps.getD t undef))→cr c a.tmps.size (restrict ρ (eY o.op)) a:=fun hd hr=>
  ⟨rfl,hd,fun t x hx=>by
   rw[lu]at hx;split at hx
   ·rename_i hc
    exact hr t acL x hx
   ·cases hx⟩
 have pure:pv U ρ h o.op Q→∃X,Q X∧DOK P o (lk ρ) h X:=fun hp=>by
  rw[←DT hev]at hp;obtain⟨X,hQ,hX⟩:=yR hU hp;refine⟨X,hQ,fun c a hs g hd hr=>?_⟩
  obtain⟨u,c',h1,h2,h3,h4,h5⟩:=hX c a _ hs g (henv hd hr);rw[h1];exact⟨c',rfl,h2,h3,acL,h5⟩
 unfold ji at hk;split at hk
 ·rename_i cl ho
  obtain⟨callee,args,ts⟩:=cl;simp only at hk;split at hk
  ·rename_i q
   obtain⟨y,hy,hk⟩:=aJ hk;split at hk
   ·rename_i f cap
    obtain⟨ys,hys,X,hf,hQ⟩:=fm hk;refine⟨X,hQ,fun c a hs g hd hr=>?_⟩
    have he:=henv hd hr;have hvc:bh P U (restrict ρ (eY o.op)) h o (fun x h' =>x=X∧h' =h):=by
     have e1:ev (restrict ρ (eY o.op)) q=some (.fn f cap):=by grind [Op.operands,Call.operands]
     have e2:evs (restrict ρ (eY o.op)) args.toList=some ys:=by grind [mh,Op.operands,Call.operands]
     simp only[bh,ho];simp only[ho]at e1 e2;simp only[withv,e1,withvs,e2];exact hf
    have hu:=mS hU hvc hs g he;generalize (execOp a.eval o).run P c.w=r at hu;have conv:∀u w',eT c (fun x h' =>x=X∧h' =h) u w'→∃c',c'.w=w'∧Good c'∧Ext c c'∧Sub h c'.h∧Rep c' X u:=by
     rintro u w' ⟨c',x,h',h1,h2,h3,h4,h5,rfl,rfl⟩
     grind
    cases r with
    |ok nx w' =>
     cases nx<;>simp only[lW]at hu<;>simp only[DUpon]
     case value u=>exact conv _ _ hu
     case skip=>exact conv _ _ hu
     case enter f args=>exact⟨hu.1,hu.2.mono fun e w'' ⟨u,he,hc⟩=>⟨u,he,conv _ _ hc⟩⟩
    |halt x w' =>exact hu.elim
   ·exact ac7
  ·exact pure hk
 ·exact pure hk
end
section
variable {P : Program} {U : TypeId → TI} {ops : Array Oper} {md : Region.Mode} {h : Heap}
def gQ(F:EF):Option Tmp→AV→EF
 |some d,x=>upd F d (some x)
 |none,_=>F
theorem sn(ρ)(d)(x):lk (put ρ d x)=gQ (lk ρ) d x:=by
 cases d with
 |none=>rfl
 |some d=>
  funext t
  simp only[put,lk,gQ,upd]
  grind
def cF(ops:Array Oper)(F:EF)(o:Oper):Option Bool:=
 match o.guard with
 |none=>some true
 |some (g,want)=>match (ops[g]?).bind (·.dst)with
  |some d=>match F d with
   |some (.v (.bool t))=>some (t==want)
   |some (.v (.tuple _))=>some false
   |_=>none
  |none=>none
def vw(P:Program)(ops:Array Oper)(h:Heap)(o:Oper)(K:EF→Prop)(F:EF):Prop:=
 (cF ops F o=some true∧∃X,DOK P o F h X∧K (gQ F o.dst X))∨(cF ops F o=some false∧K (gQ F o.dst (.v undef)))
def dOp(P:Program)(ops:Array Oper)(h:Heap)(i:Nat)(K:EF→Prop)(F:EF):Prop:=
 match ops[i]? with
 |none=>K F
 |some o=>vw P ops h o K F
def dList(P:Program)(ops:Array Oper)(h:Heap)(Q:EF→Prop):List Oper→EF→Prop
 | [],F=>Q F
 |o::r,F=>vw P ops h o (dList P ops h Q r) F
theorem EU{o}{F}{K K'}(hk:∀F,K F→K' F)(hs:vw P ops h o K F):vw P ops h o K' F:=by
 rcases hs with⟨h1,X,h2,h3⟩|⟨h1,h2⟩
 ·exact .inl ⟨h1,X,h2,hk _ h3⟩
 ·exact .inr ⟨h1,hk _ h2⟩
theorem CH{i}{F}{K K'}(hk:∀F,K F→K' F)(hs:dOp P ops h i K F):dOp P ops h i K' F:=by grind [dOp,EU]
def YD(P:Program)(ops:Array Oper)(h:Heap)(o:Oper)(X:AV)(F:EF):Prop:=
 (cF ops F o=some true∧DOK P o F h X)∨(cF ops F o=some false∧X= .v undef)
theorem CI{o}{X}{F}{K}(hy:YD P ops h o X F)(hk:K (gQ F o.dst X)):vw P ops h o K F:=by
 rcases hy with⟨h1,h2⟩|⟨h1,rfl⟩
 ·exact .inl ⟨h1,X,h2,hk⟩
 ·exact .inr ⟨h1,hk⟩
theorem Cn{o}{F}{K}(hs:vw P ops h o K F):∃X,YD P ops h o X F∧K (gQ F o.dst X):=by
 rcases hs with⟨h1,X,h2,h3⟩|⟨h1,h2⟩
 ·exact⟨X,.inl ⟨h1,h2⟩,h3⟩
 ·exact⟨_,.inr ⟨h1,rfl⟩,h2⟩
theorem pz{F}{d}{x}{t}(hd:∀e,d=some e→e≠t):gQ F d x t=F t:=by
 cases d with
 |none=>rfl
 |some e=>exact ag _ _ acL
theorem mA(F){x y}(v u)(hd:∀d,x=some d→y≠some d):gQ (gQ F x v) y u=gQ (gQ F y u) x v:=by
 cases x with
 |none=>rfl
 |some d=>cases y with
  |none=>rfl
  |some e=>
   funext t
   simp only[gQ,upd]
   grind
theorem z8{o}{F F'}{X}(hf:∀t∈eY o.op,F t=F' t)(hd:DOK P o F h X):DOK P o F' h X:=
 fun c a hs g hdf hr=>hd c a hs g hdf fun t ht x hx=>hr t ht x acL
theorem lF{o:Oper}{t:Nat}(ht:t∈eY o.op):t∈o.looksAt ops:=by simp only[Oper.looksAt,List.mem_append];exact .inl ht
theorem dW{o}{F F'}(hf:∀t∈o.looksAt ops,F t=F' t):cF ops F o=cF ops F' o:=by grind [cF,Oper.looksAt]
theorem Cm{o}{F F'}{X}(hf:∀t∈o.looksAt ops,F t=F' t)(hy:YD P ops h o X F):YD P ops h o X F' :=by
 rcases hy with⟨h1,h2⟩|⟨h1,h2⟩
 ·exact .inl ⟨af3,z8 (by grind [lF]) h2⟩
 ·exact .inr ⟨af3,h2⟩
theorem Nv{j}{oi oj}{X}(hj:ops[j]? =some oj)(hap:oi.apart ops oj=true){K}{F}
  (hy:YD P ops h oi X F) (hs:dOp P ops h j K (gQ F oi.dst X)):dOp P ops h j (fun F' =>YD P ops h oi X F'∧K (gQ F' oi.dst X)) F:=by
 obtain⟨h1,h2,h3⟩:=Oper.apart_spec hap;unfold dOp at*;simp only[hj]at*;have hlook:∀t∈oj.looksAt ops,gQ F oi.dst X t=F t:=fun t ht=>pz fun e he hte=>h1 e he (hte▸ht)
 have hlook2:∀u,∀t∈oi.looksAt ops,F t=gQ F oj.dst u t:=fun u t ht=>(pz fun e he hte=>h3 e he (hte▸ht)).symm
 rcases hs with⟨w1,Y,w2,w3⟩|⟨w1,w2⟩
 ·refine .inl ⟨af3,Y,z8 (by grind [lF]) w2,Cm (hlook2 Y) hy,?_⟩
  rw[←mA F X Y h2];exact w3
 ·refine .inr ⟨af3,Cm (hlook2 _) hy,?_⟩
  rw[←mA F X _ h2];exact w2
theorem Ie{i}{oi}{X}{F}{K}(hi:ops[i]? =some oi)(hy:YD P ops h oi X F)(hk:K (gQ F oi.dst X)):dOp P ops h i K F:=by grind [dOp,CI]
structure Sys (ops:Array Oper) (S:Nat→(EF→Heap→Prop)→EF→Heap→Prop) (Y:Nat→AV→EF→Prop):Prop where
 mono:∀ {i:Nat} {F:EF} {h:Heap} {K K' :EF→Heap→Prop},(∀F h,K F h→K' F h)→S i K F h→S i K' F h
 of:∀ {i:Nat} {oi:Oper} {X:AV} {F:EF} {h:Heap} {K:EF→Heap→Prop},ops[i]? =some oi→Y i X F→K (gQ F oi.dst X) h→S i K F h
 put:∀ {i j:Nat} {oi oj:Oper} {X:AV} {F:EF} {h:Heap} {K:EF→Heap→Prop},ops[i]? =some oi→ops[j]? =some oj→oi.apart ops oj=true→Y i X F→S j K (gQ F oi.dst X) h→S j (fun F' h' =>Y i X F'∧K (gQ F' oi.dst X) h') F h
def rK(md:Region.Mode)(ops:Array Oper)(S:Nat→(EF→Heap→Prop)→EF→Heap→Prop)(E:Array Bool→Prop)(Q:EF→Heap→Prop):Nat→Array Bool→EF→Heap→Prop
 |0,listed,F,h=>E listed∧Q F h
 |fuel+1,listed,F,h=>Region.ready md ops listed≠ []∧∀i∈Region.ready md ops listed,S i (rK md ops S E Q fuel (listed.setIfInBounds i true)) F h
def Closed(md:Region.Mode)(ops:Array Oper)(listed:Array Bool):Prop:=∀j oj,ops[j]? =some oj→listed.getD j false=true→∀e∈oj.after,Region.binds md e=true→listed.getD e.on false=true
def Hj(md:Region.Mode)(ops:Array Oper)(k:Nat):List Nat:=match ops[k]? with
 |some o=>(o.after.toList.filter (Region.binds md)).map (·.on)
 |none=>[]
def jN(md:Region.Mode)(ops:Array Oper)(s:List Nat):List Nat:=(List.range ops.size).filter fun k=>s.contains k||s.any fun j=>(Hj md ops j).contains k
def Ew(md:Region.Mode)(ops:Array Oper)(z:Nat):Bool:=(List.range ops.size).all fun k=>(jN md ops (jN md ops (jN md ops [z]))).contains k
theorem eV{z}{listed}(hc:Closed md ops listed)(hz:z∈Region.ready md ops listed){s}(hs:∀k∈s,k≠z→listed.getD k false=true):∀k∈jN md ops s,k≠z→listed.getD k false=true:=by
 intro k hk hkz;simp only[jN,List.mem_filter,Bool.or_eq_true,List.contains_iff_mem,List.any_eq_true]at hk;obtain⟨_,h1|⟨j,hj,hp⟩⟩:=hk
 ·grind
 ·unfold Hj at hp
  cases ho:ops[j]? with
  |none=>grind
  |some o=>
   rw[ho]at hp;simp only[List.mem_map,List.mem_filter]at hp;obtain⟨e,⟨he,hb⟩,rfl⟩:=hp
   by_cases hjz:j=z
   ·grind [mem_ready]
   ·exact hc j o ho (hs j hj hjz) e acL hb
theorem JT{z}(hz:Ew md ops z=true){listed}(hc:Closed md ops listed){i}(h1:z∈Region.ready md ops listed)(h2:i∈Region.ready md ops listed):i=z:=by
 obtain⟨hun,oi,hoi,_⟩:=mem_ready.1 h2;unfold Ew at hz;rw[List.all_eq_true]at hz;have hm:=hz i acL;rw[List.contains_iff_mem]at hm;have s0:∀k∈ [z],k≠z→listed.getD k false=true:=fun k hk hn=>absurd agA hn
 have s3:=eV hc h1 (eV hc h1 (eV hc h1 s0))
 by_cases e:i=z
 ·exact e
 ·have:=s3 i hm e
  exfalso
  grind
theorem Closed.set{listed}(hc:Closed md ops listed){j}(hj:j∈Region.ready md ops listed):Closed md ops (listed.setIfInBounds j true):=by
 have up:∀k,listed.getD k false=true→(listed.setIfInBounds j true).getD k false=true:=fun k hk=>by
  by_cases e:j=k
  ·subst e
   rcases Nat.lt_or_ge j listed.size with h' |h'
   ·simp[h']
   grind
  simp_all
 intro k ok hk hl e he hb
 by_cases hkj:j=k
 ·grind [mem_ready]
 ·rw[getD_set_ne false hkj]at hl
  exact up _ (hc k ok hk hl e he hb)
theorem Closed.none(md)(ops)(m):Closed md ops (Array.replicate m false):=fun j oj _ hl=>by
 rcases Nat.lt_or_ge j m with h' |h'
 ·simp_all
 grind
def Ends(md:Region.Mode)(ops:Array Oper)(E:Array Bool→Prop)(i:Nat):Prop:=∀listed,Closed md ops listed→i∈Region.ready md ops listed→E (listed.setIfInBounds i true)→∀j∈Region.ready md ops listed,j=i
def E0(md:Region.Mode)(ops:Array Oper):Option Nat→Array Bool→Bool
 |none,l=>(Region.ready md ops l).isEmpty
 |some z,l=>Region.ready md ops l== [z] && (Region.ready md ops (l.setIfInBounds z true)).isEmpty
def xb(md:Region.Mode)(ops:Array Oper)(z:Option Nat)(l:Array Bool):Prop:=E0 md ops z l=true
theorem xI{z}(hz:∀k,z=some k→Ew md ops k=true)(i):Ends md ops (xb md ops z) i:=fun listed hcl hr he j hj=>by
 by_cases e:j=i
 ·exact e
 have hm:=ready_mono hj e;cases z with
 |none=>simp only[xb,E0,List.isEmpty_iff]at he;rw[he]at hm;cases hm
 |some z=>simp only[xb,E0,Bool.and_eq_true,beq_iff_eq]at he;rw[he.1]at hm;obtain rfl:=List.mem_singleton.1 hm;exact(JT (hz _ rfl) hcl hj hr).symm
theorem Sys.first{S}{Y}(s:Sys ops S Y){E}{Q}{i}{oi}{X}(hi:ops[i]? =some oi)(hend:Ends md ops E i):
  ∀(fuel:Nat) (listed:Array Bool) (F:EF) (h:Heap),Closed md ops listed→Region.free md ops listed i=true→
   i∈Region.ready md ops listed→Y i X F→
   rK md ops S E Q fuel (listed.setIfInBounds i true) (gQ F oi.dst X) h→rK md ops S E Q (fuel+1) listed F h:=by
 suffices go:∀(fuel:Nat) (listed:Array Bool) (F:EF) (h:Heap),Closed md ops listed→
   (∀j oj,ops[j]? =some oj→j≠i→listed.getD j true=false→(∀e∈oj.after,Region.binds md e=true→e.on≠i)→oi.apart ops oj=true)→
   i∈Region.ready md ops listed→Y i X F→
   rK md ops S E Q fuel (listed.setIfInBounds i true) (gQ F oi.dst X) h→rK md ops S E Q (fuel+1) listed F h from
  fun fuel listed F h hcl hf=>go fuel listed F h hcl (Region.free_spec hi hf)
 intro fuel
 induction fuel with
 |zero=>
  intro listed F h hcl _ hr hy H;refine⟨fun e=>(by rw[e]at hr;cases hr),fun j hj=>?_⟩
  obtain rfl:=hend listed hcl hr H.1 j hj;exact s.of hi hy H
 |succ fuel ih=>
  intro listed F h hcl hfree hr hy H;refine⟨fun e=>(by rw[e]at hr;cases hr),fun j hj=>?_⟩
  by_cases hji:j=i
  ·subst hji;exact s.of hi hy H
  ·have h1:=H.2 j (ready_mono hj hji)
   obtain⟨hjun,oj,hoj,hall⟩:=mem_ready.1 hj;have hnot:∀e∈oj.after,Region.binds md e=true→e.on≠i:=fun e he hb heq=>by grind [mem_ready,Nat.lt_or_ge,Array.getElem?_eq_none]
   refine s.mono (fun F' h' h3=>ih (listed.setIfInBounds j true) F' h' (hcl.set hj) (fun k ok hk hki hun hno=>hfree k ok hk hki ?_ hno) (ready_mono hr (Ne.symm hji)) h3.1 ?_) (s.put hi hoj (hfree j oj hoj hji hjun hnot) hy h1)
   ·by_cases hjk:j=k
    ·grind
    simp_all
   ·rw[Array.setIfInBounds_comm _ _ hji]
    exact h3.2
def dS(P:Program)(ops:Array Oper)(h:Heap)(i:Nat)(K:EF→Heap→Prop)(F:EF)(g:Heap):Prop:=dOp P ops h i (fun F=>K F g) F
theorem WY:Sys ops (dS P ops h) fun i X F=>∃oi,ops[i]? =some oi∧YD P ops h oi X F where
 mono hk hs:=CH (fun F=>hk F _) hs
 of hi:=fun⟨o,ho,hy⟩ hk=>by rw[hi]at ho;cases ho;exact Ie hi hy hk
 put hi hj ha:=fun⟨o,ho,hy⟩ hs=>by
  rw[hi]at ho;cases ho
  exact CH (fun F' ⟨a,b⟩=>⟨⟨_,hi,a⟩,b⟩) (Nv hj ha hy hs)
def Ll(md:Region.Mode)(ops:Array Oper)(z:Option Nat):Nat→Nat→Array Bool→Bool
 |0,_,listed=>E0 md ops z listed
 |fuel+1,k,listed=>(Region.ready md ops listed).contains k && Region.free md ops listed k && Ll md ops z fuel (k+1) (listed.setIfInBounds k true)
theorem xC{Q}{z}(hz:∀k,z=some k→Ew md ops k=true):∀(l:List Oper) (k:Nat) (listed:Array Bool) (F:EF) (g:Heap),Closed md ops listed→(∀j,j<l.length→l[j]? =ops[k+j]?)→
  Ll md ops z l.length k listed=true→dList P ops h Q l F→rK md ops (dS P ops h) (xb md ops z) (fun F _=>Q F) l.length listed F g
 | [],_,_,_,_,_,_,hB,hd=>⟨hB,hd⟩
 |o::l,k,listed,F,g,hcl,hl,hB,hd=>by
  have h0:ops[k]? =some o:=by simpa using(hl 0 acS).symm
  simp only[List.length_cons,Ll,Bool.and_eq_true]at hB;obtain⟨⟨hr,hf⟩,hB'⟩:=hB;obtain⟨X,hy,hK⟩:=Cn hd;have hin:k∈Region.ready md ops listed:=acL;exact WY.first h0 (xI hz k) l.length listed F g hcl hf hin ⟨o,h0,hy⟩
   (xC hz l (k+1) _ _ g (hcl.set hin) (fun j hj=>by have:=hl (j+1) acL;simpa[Nat.add_assoc,Nat.add_comm 1 j]using this) hB' hK)
def mC(c:Cx)(n:Nat)(F:EF)(a:Act):Prop:=a.tmps.size=n∧a.defers= []∧∀t x,F t=some x→Rep c x (a.tmps.getD t undef)
theorem mC.put{c}{n}{F}{a}(he:mC c n F a){d}(hd:eS n d=true){x}{u}(hx:Rep c x u):mC c n (gQ F d x) (a.put d u):=by
 obtain⟨h1,h2,h3⟩:=he;cases d with
 |none=>exact⟨h1,h2,h3⟩
 |some d=>
  have hd' :d<a.tmps.size:=by rw[h1];exact acC hd
  refine⟨by grind [Act.put],h2,fun t y hy=>?_⟩
  simp only[gQ,upd]at hy;split at hy
  ·exact air
  ·rename_i e
   have:=h3 t y hy;have e' :¬d=t:=fun h=>e h.symm
   simpa[Act.put,Array.getElem?_setIfInBounds_ne e']using this
theorem mC.mono{c c'}{n}{F}{a}(he:Ext c c')(hf:mC c n F a):mC c' n F a:=⟨hf.1,hf.2.1,fun t x hx=>(hf.2.2 t x hx).mono he⟩
theorem j5{c}{n}{F}{a}{o}{b}(he:mC c n F a)(hw:cF ops F o=some b):Region.wanted o (yielded ops a.tmps)=b:=by
 unfold cF at hw;split at hw
 ·grind [Option.some.injEq,Region.wanted]
 ·rename_i g want hg
  split at hw
  ·rename_i d hd
   split at hw
   ·rename_i t ht
    simp only[Option.some.injEq]at hw;subst hw
    have h1:=(he.2.2 d _ ht).bS;have h2:a.tmps[d]? =some (.bool t):=by
     by_cases hlt:d<a.tmps.size
     ·simp_all
     grind [undef,Nat.le_of_not_lt]
    have h3:yielded ops a.tmps g=some t:=by grind [yielded]
    simp[Region.wanted,hg,h3]
   ·rename_i vs ht
    simp only[Option.some.injEq]at hw;subst hw
    have h1:=(he.2.2 d _ ht).bS;have h3:yielded ops a.tmps g=none:=by
     by_cases hlt:d<a.tmps.size
     ·simp_all [some,yielded]
     simp_all [none,Nat.le_of_not_lt,yielded]
    simp[Region.wanted,hg,h3]
   grind
  grind
theorem Ig{n:Nat}{i:Nat}{K:EF→Prop}{K' :Act→World→Prop}{Q:Exit→Act→World→Prop}{c0:Cx}(hdst:∀o∈ops.toList,eS n o.dst=true)
  (hk:∀c F a,Ext c0 c→Sub h c.h→Good c→mC c n F a→K F→K' a c.w) {c:Cx} {F:EF} {a:Act} (hE:Ext c0 c) (hs:Sub h c.h) (g:Good c) (he:mC c n F a) (hd:dOp P ops h i K F):wpOp P ops Q i K' a c.w:=by
 unfold dOp at hd;unfold wpOp;split
 ·rename_i ho;simp only[ho]at hd;exact hk c F a hE hs g he hd
 ·rename_i o ho
  simp only[ho]at hd;have hdo:eS n o.dst=true:=acL;rcases hd with⟨h1,X,h2,h3⟩|⟨h1,h2⟩
  ·rw[if_pos (j5 he h1)]
   left
   have hu:=h2 c a hs g he.2.1 (fun t _ x hx=>he.2.2 t x hx)
   have next:∀u w',(∃c',c'.w=w'∧Good c'∧Ext c c'∧Sub h c'.h∧Rep c' X u)→K' (a.put o.dst u) w' :=by
    rintro u w' ⟨c',rfl,k1,k2,k3,k4⟩
    exact hk c' _ _ (hE.trans k2) k3 k1 ((he.mono k2).put hdo k4) h3
   unfold Oper.wp;generalize (execOp a.eval o).run P c.w=r at hu;cases r with
   |ok nx w' =>
    cases nx<;>simp only[DUpon]at hu<;>simp only[Oper.upon]
    case value u=>exact next u w' hu
    case skip=>exact next undef w' hu
    case enter f args=>obtain⟨rfl,hc⟩:=hu;exact hc.mono fun e w'' ⟨u,he,hcm⟩=>acL
   |halt x w' =>exact hu.elim
  ·rw[if_neg (by grind [j5])]
   exact hk c _ _ hE hs g (he.put hdo (.v _)) h2
theorem oR{S:Nat→(EF→Heap→Prop)→EF→Heap→Prop}{E:Array Bool→Prop}{Q:EF→Heap→Prop}{Q' :Exit→Act→World→Prop}{T:Array Bool→Cx→EF→Heap→Act→Prop}{m:Nat}
  (hst:∀listed i K c F h a (K' :Act→World→Prop),T listed c F h a→i∈Region.ready md ops listed→S i K F h→(∀c F h a,T (listed.setIfInBounds i true) c F h a→K F h→K' a c.w)→wpOp P ops Q' i K' a c.w)
  (h0:∀listed c F h a,T listed c F h a→E listed→Q F h→wpAny P md ops Q' m listed a c.w):∀(fuel:Nat) (listed:Array Bool) (c:Cx) (F:EF) (h:Heap) (a:Act),T listed c F h a→rK md ops S E Q fuel listed F h→wpAny P md ops Q' (m+fuel) listed a c.w
 |0,listed,c,F,h,a,ht,hd=>h0 _ _ _ _ _ ht hd.1 hd.2
 |fuel+1,listed,c,F,h,a,ht,hd=>⟨fun e=>absurd e hd.1,fun i hi=>hst _ _ _ _ _ _ _ _ ht hi (hd.2 i hi) fun c F h a ht hk=>oR hst h0 fuel _ c F h a ht hk⟩
theorem xD{n m:Nat}{E:Array Bool→Prop}{Q:EF→Heap→Prop}{Q' :Exit→Act→World→Prop}{c0:Cx}(hdst:∀o∈ops.toList,eS n o.dst=true)
  (h0:∀listed c F g a,Ext c0 c→Sub h c.h→Good c→mC c n F a→E listed→Q F g→wpAny P md ops Q' m listed a c.w) (fuel:Nat) (listed:Array Bool) (c:Cx) (F:EF) (g:Heap) (a:Act) (h1:Ext c0 c) (h2:Sub h c.h) (h3:Good c) (h4:mC c n F a)
  (hd:rK md ops (dS P ops h) E Q fuel listed F g):wpAny P md ops Q' (m+fuel) listed a c.w:=
 oR (T:=fun _ c F _ a=>Ext c0 c∧Sub h c.h∧Good c∧mC c n F a) (fun _ _ _ _ _ _ _ _ ⟨h1,h2,h3,h4⟩ _ hd hk=>Ig hdst (fun c F a k1 k2 k3 k4 hK=>hk c F _ a ⟨k1,k2,k3,k4⟩ hK) h1 h2 h3 h4 hd)
  (fun listed c F g a ⟨k1,k2,k3,k4⟩ he hq=>h0 listed c F g a k1 k2 k3 k4 he hq) fuel listed c F g a ⟨h1,h2,h3,h4⟩ hd
end
section
variable {P : Program} {U : TypeId → TI} {ops : Array Oper} {md : Region.Mode} {hm : Heap}
def dL:Op→Bool
 |.call c=>match c.callee with
  |.value _=>true
  |.builtin .append=>true
  |.builtin .copy=>true
  |_=>false
 |.alloc _=>true
 |.box _ _=>true
 |.store _ _ _=>true
 |.makeSlice _ _ _=>true
 |.makeMap _ _=>true
 |.mapUpdate _ _ _ _=>true
 |_=>false
def DPure(P:Program)(o:Oper)(F:EF)(hm:Heap)(X:AV):Prop:=
 ∀(c:Cx) (a:Act),Sub hm c.h→Good c→a.defers= []→(∀t∈eY o.op,∀x,F t=some x→Rep c x (a.tmps.getD t undef))→
  ∃u c',(execOp a.eval o).run P c.w= .ok (.value u) c'.w∧Good c'∧Ext c c'∧c'.h=c.h∧Rep c' X u
def EOK(P:Program)(o:Oper)(F:EF)(h:Heap)(Q:AV→Heap→Prop):Prop:=
 ∀(c:Cx) (a:Act),Sub h c.h→Good c→a.defers= []→(∀t∈eY o.op,∀x,F t=some x→Rep c x (a.tmps.getD t undef))→lW P c Q ((execOp a.eval o).run P c.w)
theorem sW{c:Cx}{a:Act}{ρ:Env}{o:Oper}(hd:a.defers= [])(hr:∀t∈eY o.op,∀x,lk ρ t=some x→Rep c x (a.tmps.getD t undef)):cr c a.tmps.size (restrict ρ (eY o.op)) a:=
 ⟨rfl,hd,fun t x hx=>by
  rw[lu]at hx;split at hx
  ·rename_i hc
   exact hr t acL x hx
  ·cases hx⟩
theorem vC(ρ:Env)(o:Oper):∀x∈o.op.operands,ev (restrict ρ (eY o.op)) x=ev ρ x:=fun x hx=>CT fun t ht=>by exact aih
theorem FM{ρ:Env}{o:Oper}{Q:AV→Prop}(hU:∀t,aO P U t)(hp:pv U ρ hm o.op Q):∃X,Q X∧DPure P o (lk ρ) hm X:=by rw[←DT (vC ρ o)]at hp;obtain⟨X,hQ,hX⟩:=yR hU hp;exact⟨X,hQ,fun c a hs g hd hr=>hX c a _ hs g (sW hd hr)⟩
theorem Es{ρ ρ'}{h}{o}{Q}(hb:dL o.op=true)(he:∀x∈o.op.operands,ev ρ x=ev ρ' x):bh P U ρ h o Q=bh P U ρ' h o Q:=by
 obtain⟨d,op,t,p,a,g⟩:=o;simp only at hb he;cases op with
 |alloc t=>rfl
 |box t x=>simp only[bh,withv,he x ad7]
 |store t a x=>simp only[bh,withv,he a ad7,he x ad7]
 |makeSlice t l m=>simp only[bh,withv,he l ad7,he m ad7]
 |makeMap t r=>
  cases r with
  |none=>rfl
  |some x=>simp only[bh,Hw,withv,he x ad7]
 |mapUpdate t x y z=>simp only[bh,withv,he x ad7,he y ad7,he z ad7]
 |call c=>
  obtain⟨cal,args,ts⟩:=c;have ha:∀x∈args.toList,ev ρ x=ev ρ' x:=fun x hx=>he x (by simp only[Op.operands,Call.operands,Array.mem_append];exact .inr (by simpa using hx))
  cases cal with
  |value q=>simp only[bh,withv,withvs,he q (by simp[Op.operands,Call.operands]),mh ha]
  |builtin b=>
   cases b with
   |append=>exact ah2
   |copy=>exact ah2
   |_=>simp[dL]at hb
  |_=>simp[dL]at hb
 |_=>simp[dL]at hb
def vcE(P:Program)(U:TypeId→TI)(ρ:Env)(h:Heap)(o:Oper)(Q:AV→Heap→Prop):Prop:=bh P U ρ h o Q
theorem Bi{ρ:Env}{h:Heap}{o:Oper}{Q:AV→Heap→Prop}(hU:∀t,aO P U t)(hb:dL o.op=true)(hk:vcE P U ρ h o Q):EOK P o (lk ρ) h Q:=by intro c a hs g hd hr;unfold vcE at hk;rw[←Es hb (vC ρ o)]at hk;exact mS hU hk hs g (sW hd hr)
def DQ(P:Program)(o:Oper)(F:EF)(hm:Heap)(X:AV):Prop:=∀h,Sub hm h→EOK P o F h fun x h' =>x=X∧h' =h
theorem DPure.quiet{o}{F}{X}(hp:DPure P o F hm X):DQ P o F hm X:=by
 intro h hs c a hc g hd hr;obtain⟨u,c',e1,g',hE,e2,hr'⟩:=hp c a (fun i b hb=>hc i b (hs i b hb)) g hd hr
 rw[e1];exact⟨c',X,h,rfl,g',hE,hr',acL,rfl,rfl⟩
def FnQ(P:Program)(f:FuncId)(args:List AV)(hm:Heap)(k:AV→Prop):Prop:=∃X,(∀h,Sub hm h→ai P f args h fun x h' =>x=X∧h' =h)∧k X
def vcQ(P:Program)(U:TypeId→TI)(ρ:Env)(hm:Heap)(o:Oper)(k:AV→Prop):Prop:=match o.op with
 |.call c=>match c.callee with
  |.value q=>withv ρ q fun y=>match y with
   |.fn f cap=>withvs ρ c.args.toList fun ys=>FnQ P f (ys++cap) hm k
   |_=>False
  |_=>False
 |_=>False
theorem JO{ρ}{o}{k}(hU:∀t,aO P U t)(hk:vcQ P U ρ hm o k):∃X,k X∧DQ P o (lk ρ) hm X:=by
 obtain⟨d,op,t,p,a,g⟩:=o;unfold vcQ at hk;simp only at hk;split at hk
 ·rename_i cl
  obtain⟨cal,args,ts⟩:=cl;simp only at hk;split at hk
  ·rename_i q
   obtain⟨y,hy,hk⟩:=aJ hk;split at hk
   ·rename_i f cap
    obtain⟨ys,hys,X,hf,hQ⟩:=fm hk;refine⟨X,hQ,fun h hs=>Bi hU rfl ?_⟩
    grind [vcE,bh,withv,withvs]
   grind
  grind
 grind
def vI(P:Program)(ops:Array Oper)(hm:Heap)(o:Oper)(K:EF→Heap→Prop)(F:EF)(h:Heap):Prop:=
 (cF ops F o=some true∧(dL o.op=true∧(∃Q:AV→Heap→Prop,EOK P o F h Q∧∀X h',Q X h'→Sub hm h'∧K (gQ F o.dst X) h')∨∃X,DQ P o F hm X∧K (gQ F o.dst X) h))∨
 (cF ops F o=some false∧K (gQ F o.dst (.v undef)) h)
def hOp(P:Program)(ops:Array Oper)(hm:Heap)(i:Nat)(K:EF→Heap→Prop)(F:EF)(h:Heap):Prop:=
 match ops[i]? with
 |none=>K F h
 |some o=>vI P ops hm o K F h
theorem Fg{o}{F}{h}{K K'}(hk:∀F h,K F h→K' F h)(hs:vI P ops hm o K F h):vI P ops hm o K' F h:=by
 rcases hs with⟨h1,⟨h2,Q,h3,h4⟩|⟨X,h3,h4⟩⟩|⟨h1,h2⟩
 ·exact .inl ⟨h1,.inl ⟨h2,Q,h3,fun X h' hq=>⟨(h4 X h' hq).1,hk _ _ (h4 X h' hq).2⟩⟩⟩
 ·exact .inl ⟨h1,.inr ⟨X,h3,hk _ _ h4⟩⟩
 ·exact .inr ⟨h1,hk _ _ h2⟩
theorem lg{i}{F}{h}{K K'}(hk:∀F h,K F h→K' F h)(hs:hOp P ops hm i K F h):hOp P ops hm i K' F h:=by grind [hOp,Fg]
def YP(P:Program)(ops:Array Oper)(hm:Heap)(o:Oper)(X:AV)(F:EF):Prop:=
 (cF ops F o=some true∧DQ P o F hm X)∨(cF ops F o=some false∧X= .v undef)
theorem C9{o}{X}{F}{h}{K}(hy:YP P ops hm o X F)(hk:K (gQ F o.dst X) h):vI P ops hm o K F h:=by
 rcases hy with⟨h1,h3⟩|⟨h1,rfl⟩
 ·exact .inl ⟨h1,.inr ⟨X,h3,hk⟩⟩
 ·exact .inr ⟨h1,hk⟩
theorem Co{o}{F}{h}{K}(he:dL o.op=false)(hs:vI P ops hm o K F h):∃X,YP P ops hm o X F∧K (gQ F o.dst X) h:=by
 rcases hs with⟨h1,⟨h2,_⟩|⟨X,h3,h4⟩⟩|⟨h1,h2⟩
 ·grind
 ·exact⟨X,.inl ⟨h1,h3⟩,h4⟩
 ·exact⟨_,.inr ⟨h1,rfl⟩,h2⟩
theorem OX{o}{F F'}{X}(hf:∀t∈eY o.op,F t=F' t)(hd:DPure P o F hm X):DPure P o F' hm X:=
 fun c a hs g hdf hr=>hd c a hs g hdf fun t ht x hx=>hr t ht x acL
theorem Aa{o}{F F'}{h}{Q}(hf:∀t∈eY o.op,F t=F' t)(hd:EOK P o F h Q):EOK P o F' h Q:=
 fun c a hs g hdf hr=>hd c a hs g hdf fun t ht x hx=>hr t ht x acL
theorem Ci{o}{F F'}{X}(hf:∀t∈eY o.op,F t=F' t)(hd:DQ P o F hm X):DQ P o F' hm X:=fun h hs=>Aa hf (hd h hs)
theorem xg{o}{F F'}{X}(hf:∀t∈o.looksAt ops,F t=F' t)(hy:YP P ops hm o X F):YP P ops hm o X F' :=by
 rcases hy with⟨h1,h2⟩|⟨h1,h2⟩
 ·exact .inl ⟨af3,Ci (by grind [lF]) h2⟩
 ·exact .inr ⟨af3,h2⟩
theorem NN{hm hm'}{j}{oi oj}{X}(hj:ops[j]? =some oj)(hap:oi.apart ops oj=true){K}{F}{h}
  (hy:YP P ops hm' oi X F) (hs:hOp P ops hm j K (gQ F oi.dst X) h):hOp P ops hm j (fun F' h' =>YP P ops hm' oi X F'∧K (gQ F' oi.dst X) h') F h:=by
 obtain⟨h1,h2,h3⟩:=Oper.apart_spec hap;unfold hOp at*;simp only[hj]at*;have hlook:∀t∈oj.looksAt ops,gQ F oi.dst X t=F t:=fun t ht=>pz fun e he hte=>h1 e he (hte▸ht)
 have hlook2:∀u,∀t∈oi.looksAt ops,F t=gQ F oj.dst u t:=fun u t ht=>(pz fun e he hte=>h3 e he (hte▸ht)).symm
 rcases hs with⟨w1,⟨w0,Q,w2,w3⟩|⟨Y,w2,w3⟩⟩|⟨w1,w2⟩
 ·refine .inl ⟨af3,.inl ⟨w0,Q,Aa (by grind [lF]) w2,fun Y h' hq=>⟨(w3 Y h' hq).1,xg (hlook2 Y) hy,?_⟩⟩⟩
  rw[←mA F X Y h2];exact(w3 Y h' hq).2
 ·refine .inl ⟨af3,.inr ⟨Y,Ci (by grind [lF]) w2,xg (hlook2 Y) hy,?_⟩⟩
  rw[←mA F X Y h2];exact w3
 ·refine .inr ⟨af3,xg (hlook2 _) hy,?_⟩
  rw[←mA F X _ h2];exact w2
theorem IP{i}{oi}{X}{F}{h}{K}(hi:ops[i]? =some oi)(hy:YP P ops hm oi X F)(hk:K (gQ F oi.dst X) h):hOp P ops hm i K F h:=by grind [hOp,C9]
def hS(P:Program)(ops:Array Oper)(H:Nat→Heap)(i:Nat)(K:EF→Heap→Prop)(F:EF)(h:Heap):Prop:=hOp P ops (H i) i K F h
theorem Up{H}:Sys ops (hS P ops H) fun i X F=>∃oi,ops[i]? =some oi∧YP P ops (H i) oi X F where
 mono hk hs:=lg hk hs
 of hi:=fun⟨o,ho,hy⟩ hk=>by rw[hi]at ho;cases ho;exact IP hi hy hk
 put hi hj ha:=fun⟨o,ho,hy⟩ hs=>by
  rw[hi]at ho;cases ho
  exact lg (fun F' h' ⟨a,b⟩=>⟨⟨_,hi,a⟩,b⟩) (NN hj ha hy hs)
def nV(md:Region.Mode)(ops:Array Oper):List Nat→Array Bool→Bool
 | [],_=>true
 |k::ks,listed=>(match ops[k]? with
  |some o=>if dL o.op then Region.ready md ops listed== [k]else(Region.ready md ops listed).contains k && Region.free md ops listed k
  |none=>false) && nV md ops ks (listed.setIfInBounds k true)
def fL:List Nat→Array Bool→Array Bool
 | [],l=>l
 |k::ks,l=>fL ks (l.setIfInBounds k true)
def mI(P:Program)(ops:Array Oper)(H:Nat→Heap)(Q:EF→Heap→Prop):List Nat→EF→Heap→Prop
 | [],F,h=>Q F h
 |i::r,F,h=>hOp P ops (H i) i (mI P ops H Q r) F h
theorem jy{H}{E}{Q}(m):∀(l:List Nat) (listed:Array Bool) (F:EF) (h:Heap),(∀i∈l,Ends md ops E i)→Closed md ops listed→
  nV md ops l listed=true→mI P ops H (fun F h=>rK md ops (hS P ops H) E Q m (fL l listed) F h) l F h→rK md ops (hS P ops H) E Q (m+l.length) listed F h
 | [],_,_,_,_,_,_,hd=>hd
 |k::l,listed,F,h,hE,hcl,hB,hd=>by
  simp only[nV,Bool.and_eq_true]at hB;obtain⟨hB,hB'⟩:=hB;have hE' :∀i∈l,Ends md ops E i:=fun i hi=>hE i (List.mem_cons_of_mem _ hi)
  cases h0:ops[k]? with
  |none=>grind
  |some o=>
   rw[h0]at hB;simp only at hB;cases he:dL o.op with
   |true=>
    refine⟨fun e=>acL,fun j hj=>?_⟩
    obtain rfl:j=k:=acL;exact lg (fun F' h' hh=>jy m l _ F' h' hE' (hcl.set acL) hB' hh) hd
   |false=>
    rw[he,if_neg acS,Bool.and_eq_true]at hB;have hd:vI P ops (H k) o (mI P ops H (fun F h=>rK md ops (hS P ops H) E Q m (fL (k::l) listed) F h) l) F h:=by grind [hOp,mI]
    obtain⟨X,hy,hK⟩:=Co he hd;have hin:k∈Region.ready md ops listed:=acL;exact Up.first h0 (hE k (List.mem_cons_self ..)) (m+l.length) listed F h hcl hB.2 hin ⟨o,h0,hy⟩ (jy m l _ _ _ hE' (hcl.set hin) hB' hK)
theorem jn{H}{Q Q'}(hk:∀F h,Q F h→Q' F h):∀(l:List Nat) (F:EF) (h:Heap),mI P ops H Q l F h→mI P ops H Q' l F h
 | [],F,h,hh=>hk F h hh
 |_::l,_,_,hh=>lg (fun F h hh=>jn hk l F h hh) hh
inductive Ord where
 |seq (l:List Nat)
 |fork (l:List Nat) (i:Nat) (a:Ord) (j:Nat) (b:Ord)
 |quiet (l:List Nat) (i:Nat) (t:Ord)
 |news (l:List Nat) (is:List Nat) (t:Ord)
def yM(md:Region.Mode)(ops:Array Oper):Nat→List Nat→Array Bool→Bool
 |0,l,_=>l.isEmpty
 |fuel+1,l,listed=>l.isEmpty||(!(Region.ready md ops listed).isEmpty && (Region.ready md ops listed).all fun i=>l.contains i && yM md ops fuel (l.erase i) (listed.setIfInBounds i true))
def Pq(o:Oper):Bool:=o.guard.isNone && o.dst.isSome && match o.op with
 |.alloc _=>true
 |_=>false
def Lw(md:Region.Mode)(ops:Array Oper)(is:List Nat)(listed:Array Bool):Bool:=
 yM md ops is.length is listed && decide is.Nodup && decide (is.map fun i=>(ops[i]?).bind (·.dst)).Nodup && is.all fun i=>((ops[i]?).map Pq).getD false
def Ord.len:Ord→Nat
 |.seq l=>l.length
 |.fork l _ a _ _=>a.len+1+l.length
 |.quiet l _ t=>t.len+1+l.length
 |.news l is t=>t.len+is.length+l.length
def jX(md:Region.Mode)(ops:Array Oper)(z:Option Nat):Ord→Array Bool→Bool
 |.seq l,listed=>nV md ops l listed && E0 md ops z (fL l listed)
 |.fork l i a j b,listed=>nV md ops l listed && (Region.ready md ops (fL l listed)== [i,j]) && (a.len==b.len) &&
  (jX md ops z a ((fL l listed).setIfInBounds i true) && jX md ops z b ((fL l listed).setIfInBounds j true))
 |.quiet l i t,listed=>nV md ops l listed && (((Region.ready md ops (fL l listed)).contains i && Region.free md ops (fL l listed) i) && jX md ops z t ((fL l listed).setIfInBounds i true))
 |.news l is t,listed=>nV md ops l listed && (Lw md ops is (fL l listed) && jX md ops z t (fL is (fL l listed)))
theorem iW:∀(l:List Nat) (listed:Array Bool),Closed md ops listed→nV md ops l listed=true→Closed md ops (fL l listed)
 | [],_,hc,_=>hc
 |k::l,listed,hc,hB=>by
  simp only[nV,Bool.and_eq_true]at hB;obtain⟨hB,hB'⟩:=hB;refine iW l _ (hc.set ?_) hB'
  grind
theorem uB{n:Nat}{i:Nat}{K:EF→Heap→Prop}{K' :Act→World→Prop}{Q:Exit→Act→World→Prop}{c0:Cx}(hdst:∀o∈ops.toList,eS n o.dst=true)
  (hk:∀c F h a,Ext c0 c→Sub h c.h→Sub hm c.h→Good c→mC c n F a→K F h→K' a c.w) {c:Cx} {F:EF} {h:Heap} {a:Act} (hE:Ext c0 c) (hs:Sub h c.h) (hs' :Sub hm c.h) (g:Good c) (he:mC c n F a) (hd:hOp P ops hm i K F h):wpOp P ops Q i K' a c.w:=by
 unfold hOp at hd;unfold wpOp;split
 ·rename_i ho;simp only[ho]at hd;exact hk c F h a hE hs hs' g he hd
 ·rename_i o ho
  simp only[ho]at hd;have hdo:eS n o.dst=true:=acL;have main:∀ {h0:Heap} {R:AV→Heap→Prop},Sub h0 c.h→EOK P o F h0 R→(∀c' x h',Good c'→Ext c c'→Sub h' c'.h→R x h'→∀u,Rep c' x u→K' (a.put o.dst u) c'.w)→Oper.wp P o a c.w K' Q:=by
   intro h0 R hs h2 next';have hu:=h2 c a hs g he.2.1 (fun t _ x hx=>he.2.2 t x hx)
   have next:∀u w',eT c R u w'→K' (a.put o.dst u) w' :=by
    rintro u w' ⟨c',x,h',rfl,g',hE',hr,hs2,hR⟩
    exact next' c' x h' g' hE' hs2 hR u hr
   unfold Oper.wp;generalize (execOp a.eval o).run P c.w=r at hu;cases r with
   |ok nx w' =>exact ag5
   |halt x w' =>exact hu.elim
  rcases hd with⟨h1,⟨h0,R,h2,h3⟩|⟨X,h2,h3⟩⟩|⟨h1,h2⟩
  ·rw[if_pos (j5 he h1)]
   left
   refine main hs h2 fun c' x h' g' hE' hs2 hR u hr=>?_
   obtain⟨k1,k2⟩:=h3 x h' hR;exact hk c' _ h' _ (hE.trans hE') hs2 (fun j b hj=>hs2 _ _ (k1 _ _ hj)) g' ((he.mono hE').put hdo hr) k2
  ·rw[if_pos (j5 he h1)]
   left
   refine main (fun _ _ e=>e) (h2 c.h hs') fun c' x h' g' hE' hs2 hR u hr=>?_
   obtain⟨rfl,rfl⟩:=hR;exact hk c' _ h _ (hE.trans hE') (fun j b hj=>hs2 _ _ (hs _ _ hj)) (fun j b hj=>hs2 _ _ (hs' _ _ hj)) g' ((he.mono hE').put hdo hr) h3
  ·rw[if_neg (by grind [j5])]
   exact hk c _ h _ hE hs hs' g (he.put hdo (.v _)) h2
theorem oV{n m:Nat}{E:Array Bool→Prop}{Q:EF→Heap→Prop}{Q' :Exit→Act→World→Prop}{c0:Cx}(hdst:∀o∈ops.toList,eS n o.dst=true)
  (h0:∀listed c F h a,Ext c0 c→Sub h c.h→Good c→mC c n F a→E listed→Q F h→wpAny P md ops Q' m listed a c.w) (fuel:Nat) (listed:Array Bool) (c:Cx) (F:EF) (h:Heap) (a:Act) (h1:Ext c0 c) (h2:Sub h c.h) (h2' :Sub hm c.h) (h3:Good c) (h4:mC c n F a)
  (hd:rK md ops (hS P ops fun _=>hm) E Q fuel listed F h):wpAny P md ops Q' (m+fuel) listed a c.w:=
 oR (T:=fun _ c F h a=>Ext c0 c∧Sub h c.h∧Sub hm c.h∧Good c∧mC c n F a) (fun _ _ _ _ _ _ _ _ ⟨h1,h2,h2',h3,h4⟩ _ hd hk=>uB hdst (fun c F h a k1 k2 k2' k3 k4 hK=>hk c F h a ⟨k1,k2,k2',k3,k4⟩ hK) h1 h2 h2' h3 h4 hd)
  (fun listed c F h a ⟨k1,k2,_,k3,k4⟩ he hq=>h0 listed c F h a k1 k2 k3 k4 he hq) fuel listed c F h a ⟨h1,h2,h2',h3,h4⟩ hd
def Gp(md:Region.Mode)(ops:Array Oper)(l:List Nat):Bool:=(List.range ops.size).all fun j=>l.contains j||l.all fun k=>(jN md ops (jN md ops (jN md ops [j]))).contains k
theorem EI{l}(hb:Gp md ops l=true){listed}(hc:Closed md ops listed){j}(hj:j∈Region.ready md ops listed)(hl:j∉l):∀k∈l,listed.getD k false=true:=by
 intro k hk;obtain⟨hun,oj,hoj,_⟩:=mem_ready.1 hj;unfold Gp at hb;rw[List.all_eq_true]at hb;have hm:=hb j acL;rw[Bool.or_eq_true,List.contains_iff_mem]at hm;rcases hm with hm|hm
 ·exact(hl hm).elim
 ·have s0:∀k∈ [j],k≠j→listed.getD k false=true:=fun k hk hn=>absurd agA hn
  have s3:=eV hc hj (eV hc hj (eV hc hj s0));rw[List.all_eq_true]at hm;have:=hm k hk;rw[List.contains_iff_mem]at this;exact s3 k this fun e=>hl (e▸hk)
theorem KG{fin}{l}(hb:Gp md ops l=true)(hfin:∀j∈l,fin.getD j false=true):∀i∈l,Ends md ops (· =fin) i:=fun i hil listed hcl hr he j hj=>by
 by_cases hji:j=i
 ·exact hji
 exfalso
 have hiu:=(mem_ready.1 hr).1;have hju:=(mem_ready.1 hj).1
 by_cases hjl:j∈l
 ·have h1:=hfin j hjl
  rw[←he,getD_set_ne false (Ne.symm hji)]at h1;rcases Nat.lt_or_ge j listed.size with h' |h'
  ·simp[h']at h1 hju;rw[hju]at h1;cases h1
  ·simp[Array.getElem?_eq_none h']at h1
 ·have h1:=EI hb hcl hj hjl i hil
  rcases Nat.lt_or_ge i listed.size with h' |h'
  ·simp[h']at h1 hiu;rw[hiu]at h1;cases h1
  ·simp[Array.getElem?_eq_none h']at h1
def wW(md:Region.Mode)(ops:Array Oper)(l1 l2:List Nat):Bool:=
 nV md ops l1 (Array.replicate ops.size false) && Gp md ops l1 && (l1.all fun j=>(fL l1 (Array.replicate ops.size false)).getD j false) && jX md ops none (.seq l2) (fL l1 (Array.replicate ops.size false)) && (l2.length+l1.length==ops.size)
def Er(P:Program)(U:TypeId→TI)(hm:Heap)(o:Oper)(ρ:Env)(h:Heap)(K:AV→Heap→Prop):Prop:=
 if dL o.op then vcE P U ρ h o (fun X h' =>Sub hm h'∧K X h')else pv U ρ hm o.op (fun X=>K X h)
def dK(P:Program)(U:TypeId→TI)(n:Nat)(all:List Oper)(hm:Heap):List Nat→Env→Heap→(Env→Heap→Prop)→Prop
 | [],ρ,h,K=>K ρ h
 |i::is,ρ,h,K=>match all[i]? with
  |none=>False
  |some o=>jQ all ρ o.guard (fun ρ=>Er P U hm o ρ h fun X h' =>dK P U n all hm is (put ρ o.dst X) h' K) (fun ρ=>dK P U n all hm is (put ρ o.dst (.v undef)) h K)
theorem AN{ρ}{d}{x}(hd:lk ρ d=some x):lk ((d,x)::ρ)=lk ρ:=by grind [lk]
theorem dM{n}(hU:∀t,aO P U t){all}{K}:∀(l:List Nat) (ρ:Env) (h:Heap),dK P U n all hm l ρ h K→mI P all.toArray (fun _=>hm) (fun F h=>∃ρ,lk ρ=F∧K ρ h) l (lk ρ) h
 | [],ρ,h,hk=>⟨ρ,rfl,hk⟩
 |i::is,ρ,h,hk=>by
  simp only[dK]at hk
  show hOp _ _ _ _ _ _ _
  unfold hOp;have e0:(all.toArray)[i]? =all[i]? :=acS;rw[e0];cases hi:all[i]? with
  |none=>rw[hi]at hk;exact hk.elim
  |some o=>
   rw[hi]at hk;simp only at hk⊢;have yes:∀ρ',cF all.toArray (lk ρ) o=some true→lk ρ' =lk ρ→Er P U hm o ρ' h (fun X h' =>dK P U n all hm is (put ρ' o.dst X) h' K)→vI P all.toArray hm o (mI P all.toArray (fun _=>hm) (fun F h=>∃ρ,lk ρ=F∧K ρ h) is) (lk ρ) h:=by
    intro ρ' hw hl hv;unfold Er at hv;cases he:dL o.op with
    |true=>
     rw[he,if_pos rfl]at hv;have:=Bi hU he hv;rw[hl]at this;refine .inl ⟨hw,.inl ⟨he,_,this,fun X h' hq=>⟨hq.1,?_⟩⟩⟩
     have:=dM hU is _ _ hq.2;rw[sn,hl]at this;exact adr
    |false=>rw[he,if_neg acS]at hv;obtain⟨X,hQ,hX⟩:=FM hU hv;rw[hl]at hX;refine .inl ⟨hw,.inr ⟨X,hX.quiet,?_⟩⟩;have:=dM hU is _ _ hQ;rw[sn,hl]at this;exact adr
   have no:∀ρ',cF all.toArray (lk ρ) o=some false→lk ρ' =lk ρ→dK P U n all hm is (put ρ' o.dst (.v undef)) h K→vI P all.toArray hm o (mI P all.toArray (fun _=>hm) (fun F h=>∃ρ,lk ρ=F∧K ρ h) is) (lk ρ) h:=by intro ρ' hw hl hv;have:=dM hU is _ _ hv;rw[sn,hl]at this;exact .inr ⟨hw,this⟩
   unfold jQ at hk;split at hk
   ·rename_i hg
    exact yes ρ (by grind [cF]) rfl hk
   ·rename_i g want hg
    split at hk
    ·rename_i d hd'
     have hd2:((all.toArray)[g]?).bind (·.dst)=some d:=by grind [qv]
     split at hk
     ·rename_i t ht
      have hw:cF all.toArray (lk ρ) o=some (t==want):=by grind [cF]
      by_cases e:t=want
      ·exact yes _ acL (by grind [AN]) (hk.1 e)
      ·have e' :t= !want:=by cases t<;>cases want<;>simp_all
       exact no _ acL (by grind [AN]) (hk.2 e')
     ·rename_i vs ht
      refine no ρ ?_ rfl hk
      grind [cF]
     ·exact ac7
    ·exact ac7
def FD(U:TypeId→TI):Op→Option Blk
 |.alloc t=>some (if isUnit (U t).k then .obj [] t else .obj (U t).zero.cells t)
 |_=>none
def ze(U:TypeId→TI):Op→Prop
 |.alloc t=>isUnit (U t).k=true∨(U t).sz≠0∧fit (U t).zero (U t).sz
 |_=>False
def mg(U:TypeId→TI)(all:List Oper):List Nat→Prop
 | []=>True
 |i::is=>(match all[i]? with
  |none=>False
  |some o=>ze U o.op)∧mg U all is
def rU(P:Program)(U:TypeId→TI)(all:List Oper):List Nat→Env→Heap→(Env→Heap→Prop)→Prop
 | [],ρ,h,K=>K ρ h
 |i::is,ρ,h,K=>match all[i]? with
  |none=>False
  |some o=>bh P U ρ h o fun X h' =>rU P U all is (put ρ o.dst X) h' K
theorem Et{ρ:Env}{h:Heap}{o:Oper}{Q:AV→Heap→Prop}{B:Blk}(hB:FD U o.op=some B)(hs:ze U o.op):bh P U ρ h o Q↔∀id,h id=none→Q (.ptr id 0) (upd h id (some B)):=by
 obtain⟨d,op,t,p,a,g⟩:=o;cases op with
 |alloc ty=>
  simp only[FD,Option.some.injEq]at hB;simp only[ze]at hs;simp only[bh]
  grind
 |_=>grind [FD]
def jA(U:TypeId→TI)(ops:Array Oper)(ids:Nat→Nat)(s:EF×Heap)(i:Nat):EF×Heap:=match ops[i]? with
 |some o=>(gQ s.1 o.dst (.ptr (ids i) 0),upd s.2 (ids i) (FD U o.op))
 |none=>s
def Fresh(h:Heap)(is:List Nat)(ids:Nat→Nat):Prop:=(∀i∈is,h (ids i)=none)∧(is.map ids).Nodup
theorem vT{l l'}(hp:l.Perm l')(listed):fL l listed=fL l' listed:=by
 have e:∀(l:List Nat) (x:Array Bool),fL l x=l.foldl (fun x k=>x.setIfInBounds k true) x:=fun l=>by
  induction l with
  |nil=>intro x;rfl
  |cons k l ih=>intro x;exact ih _
 rw[e,e];refine hp.foldl_eq' (fun x _ y _ z=>?_) listed
 grind
theorem FE{ids:Nat→Nat}{is:List Nat}(hd:(is.map fun i=>(ops[i]?).bind (·.dst)).Nodup)(hs:∀i∈is,∃o d,ops[i]? =some o∧o.dst=some d)(hi:(is.map ids).Nodup):
  ∀x∈is,∀y∈is,∀z,jA U ops ids (jA U ops ids z x) y=jA U ops ids (jA U ops ids z y) x:=by
 have inj:∀ {α:Type} {f:Nat→α} {l:List Nat},(l.map f).Nodup→∀x∈l,∀y∈l,f x=f y→x=y:=by
  intro α f l
  induction l with
  |nil=>simp
  |cons k l ih=>grind
 intro x hx y hy z
 by_cases e:x=y
 ·grind
 obtain⟨ox,dx,hox,hdx⟩:=hs x hx;obtain⟨oy,dy,hoy,hdy⟩:=hs y hy;simp only[jA,hox,hoy];rw[mA z.1 _ _ acL]
 congr 1
 grind [upd]
theorem IN{E}{Q}{m}:∀(fuel:Nat) (is:List Nat) (listed:Array Bool) (F:EF) (h:Heap),Closed md ops listed→yM md ops fuel is listed=true→Sub hm h→is.Nodup→
  (is.map fun i=>(ops[i]?).bind (·.dst)).Nodup→
  (∀i∈is,∃o d B,ops[i]? =some o∧o.guard=none∧o.dst=some d∧dL o.op=true∧FD U o.op=some B∧∀F h,EOK P o F h fun X h' =>∃id,h id=none∧X= .ptr id 0∧h' =upd h id (some B))→
  (Closed md ops (fL is listed)→∀ids,Fresh h is ids→rK md ops (hS P ops fun _=>hm) E Q m (fL is listed) (is.foldl (jA U ops ids) (F,h)).1 (is.foldl (jA U ops ids) (F,h)).2)→rK md ops (hS P ops fun _=>hm) E Q (m+is.length) listed F h:=by
 intro fuel
 induction fuel with
 |zero=>
  intro is listed F h hcl hp _ _ _ _ H;have:is= []:=by simpa[yM]using hp
  subst this;exact H hcl id ⟨acS,acS⟩
 |succ fuel ih=>
  intro is listed F h hcl hp hs hn hdn ho H;simp only[yM,Bool.or_eq_true,List.isEmpty_iff,Bool.and_eq_true,Bool.not_eq_true',List.all_eq_true]at hp;rcases hp with rfl|⟨hp1,hp2⟩
  ·exact H hcl id ⟨acS,acS⟩
  have hne:Region.ready md ops listed≠ []:=fun e=>by rw[e]at hp1;simp at hp1
  obtain⟨i0,hi0⟩:=List.exists_mem_of_ne_nil _ hne;have hl0:m+is.length=(m+(is.length - 1))+1:=by
   have:=List.length_pos_of_mem (show i0∈is by simpa using(hp2 i0 hi0).1)
   omega
  rw[hl0];refine⟨fun e=>absurd e hne,fun i hi=>?_⟩
  obtain⟨h1,h2⟩:=hp2 i hi;have h1:i∈is:=by simpa using h1
  obtain⟨o,d,B,e1,e2,e3,e4,e5,e6⟩:=ho i h1;have hpm:=List.perm_cons_erase h1;unfold hS hOp;simp only[e1];refine .inl ⟨by simp[cF,e2],.inl ⟨e4,_,e6 F h,?_⟩⟩
  rintro X h' ⟨id,hid,rfl,rfl⟩
  have hs' :Sub hm (upd h id (some B)):=fun j b hj=>by
   have:=hs j b hj;simp only[upd]
   by_cases e:j=id
   ·subst e;rw[hid]at this;cases this
   ·simp[e,this]
  refine⟨hs',?_⟩;have hle:(is.length - 1)=(is.erase i).length:=(List.length_erase_of_mem h1).symm;rw[hle];have hni:i∉is.erase i:=fun hm=>by have:=hpm.nodup_iff.1 hn;exact(List.nodup_cons.1 this).1 hm
  refine ih (is.erase i) _ _ _ (hcl.set hi) h2 hs' (hn.erase i) (((hpm.map _).nodup_iff.1 hdn).of_cons) (fun j hj=>ho j (List.mem_of_mem_erase hj)) fun hcl2 ids hf=>?_
  have hmem:∀j∈is.erase i,j≠i:=fun j hj e=>hni (e▸hj)
  let ids' :Nat→Nat:=fun j=>if j=i then id else ids j
  have hids:∀j∈is.erase i,ids' j=ids j:=fun j hj=>by simp[ids',hmem j hj]
  have hfr:∀j∈is.erase i,ids j≠id∧h (ids j)=none:=fun j hj=>by
   have:=hf.1 j hj;simp only[upd]at this;split at this
   ·cases this
   ·rename_i e;exact⟨e,this⟩
  have hfresh:Fresh h is ids' :=by
   refine⟨fun j hj=>?_,?_⟩
   ·by_cases e:j=i
    ·subst e;simp[ids',hid]
    ·have hj' :j∈is.erase i:=(List.mem_erase_of_ne e).2 hj
     rw[hids j hj'];exact(hfr j hj').2
   ·rw[(hpm.map ids').nodup_iff,List.map_cons,List.nodup_cons]
    have em:(is.erase i).map ids' =(is.erase i).map ids:=List.map_congr_left hids;rw[em];refine⟨fun hm=>?_,hf.2⟩
    obtain⟨j,hj,he⟩:=List.mem_map.1 hm;exact(hfr j hj).1 (by rw[he];simp[ids'])
  have hh:=H (by rw[vT hpm];exact hcl2) ids' hfresh
  have hfold:is.foldl (jA U ops ids') (F,h)=(is.erase i).foldl (jA U ops ids) (gQ F o.dst (.ptr id 0),upd h id (some B)):=by
   rw[hpm.foldl_eq' (FE hdn (fun j hj=>by obtain⟨o,d,B,a1,_,a3,_⟩:=ho j hj;exact⟨o,d,a1,a3⟩) hfresh.2),List.foldl_cons]
   have e0:jA U ops ids' (F,h) i=(gQ F o.dst (.ptr id 0),upd h id (some B)):=by simp[jA,e1,ids',e5]
   rw[e0];have:∀(l:List Nat) (s:EF×Heap),(∀j∈l,ids' j=ids j)→l.foldl (jA U ops ids') s=l.foldl (jA U ops ids) s:=fun l=>by
    induction l with
    |nil=>intro s _;rfl
    |cons k l ih=>
     intro s hl;rw[List.foldl_cons,List.foldl_cons,ih _ fun j hj=>hl j (List.mem_cons_of_mem _ hj)]
     have:jA U ops ids' s k=jA U ops ids s k:=by simp only[jA,hl k (List.mem_cons_self ..)]
     rw[this]
   exact this _ _ hids
  rw[hfold,vT hpm]at hh;exact hh
theorem Bj{all:List Oper}{K:Env→Heap→Prop}:∀(is:List Nat) (ρ:Env) (h:Heap),(∀i∈is,∃o B,all[i]? =some o∧FD U o.op=some B∧ze U o.op)→rU P U all is ρ h K→∀ids,Fresh h is ids→
  ∃ρ',lk ρ' =(is.foldl (jA U all.toArray ids) (lk ρ,h)).1∧K ρ' (is.foldl (jA U all.toArray ids) (lk ρ,h)).2
 | [],ρ,h,_,hk,ids,_=>⟨ρ,rfl,hk⟩
 |i::is,ρ,h,ho,hk,ids,hf=>by
  obtain⟨o,B,e1,e2,e3⟩:=ho i (List.mem_cons_self ..);simp only[rU,e1]at hk;have hk:=(Et e2 e3).1 hk (ids i) (hf.1 i (List.mem_cons_self ..));have hn:=hf.2;rw[List.map_cons,List.nodup_cons]at hn;have hf' :Fresh (upd h (ids i) (some B)) is ids:=⟨fun j hj=>by
   have:ids j≠ids i:=fun e=>hn.1 (e▸List.mem_map.2 ⟨j,hj,rfl⟩)
   simp only[upd,this,if_false];exact hf.1 j (List.mem_cons_of_mem _ hj),hn.2⟩
  obtain⟨ρ',h1,h2⟩:=Bj is _ _ acL hk ids hf';have e0:jA U all.toArray ids (lk ρ,h) i=(lk (put ρ o.dst (.ptr (ids i) 0)),upd h (ids i) (some B)):=by simp_all [some,jA,sn]
  refine⟨ρ',?_,?_⟩
  ·grind
  ·rw[List.foldl_cons,e0];exact h2
def lK(P:Program)(U:TypeId→TI)(n:Nat)(all:List Oper)(hm:Heap):Ord→Env→Heap→(Env→Heap→Prop)→Prop
 |.seq l,ρ,h,K=>dK P U n all hm l ρ h K
 |.fork l i a j b,ρ,h,K=>dK P U n all hm l ρ h fun ρ h=>dK P U n all hm [i] ρ h (fun ρ h=>lK P U n all hm a ρ h K)∧dK P U n all hm [j] ρ h (fun ρ h=>lK P U n all hm b ρ h K)
 |.quiet l i t,ρ,h,K=>dK P U n all hm l ρ h fun ρ h=>match all[i]? with
  |none=>False
  |some o=>o.guard=none∧vcQ P U ρ hm o fun X=>lK P U n all hm t (put ρ o.dst X) h K
 |.news l is t,ρ,h,K=>dK P U n all hm l ρ h fun ρ h=>Sub hm h∧mg U all is∧rU P U all is ρ h fun ρ h=>lK P U n all hm t ρ h K
theorem kM{n:Nat}(hU:∀t,aO P U t){md:Region.Mode}{all:List Oper}{K:Env→Heap→Prop}{z:Option Nat}(hz:∀i,Ends md all.toArray (xb md all.toArray z) i):∀(t:Ord) (listed:Array Bool) (ρ:Env) (h:Heap),Closed md all.toArray listed→jX md all.toArray z t listed=true→lK P U n all hm t ρ h K→
  rK md all.toArray (hS P all.toArray fun _=>hm) (xb md all.toArray z) (fun F h=>∃ρ,lk ρ=F∧K ρ h) t.len listed (lk ρ) h
 |.seq l,listed,ρ,h,hc,hB,hk=>by
  simp only[jX,Bool.and_eq_true]at hB;have:=jy (H:=fun _=>hm) 0 l listed _ h (fun i _=>hz i) hc hB.1 (jn (fun F h hh=>⟨hB.2,hh⟩) l _ h (dM hU l ρ h hk))
  rwa [Nat.zero_add]at this
 |.fork l i a j b,listed,ρ,h,hc,hB,hk=>by
  simp only[jX,Bool.and_eq_true,beq_iff_eq]at hB;obtain⟨⟨⟨h1,h2⟩,h3⟩,h4,h5⟩:=hB;have hc' :=iW l listed hc h1;refine jy (a.len+1) l listed _ h (fun i _=>hz i) hc h1 (jn (fun F h hh=>?_) l _ h (dM hU l ρ h hk))
  obtain⟨ρ',rfl,g1,g2⟩:=hh;refine⟨fun e=>(by rw[h2]at e;cases e),fun k hk' =>?_⟩
  have hc2:=hc'.set hk';rw[h2]at hk';rcases List.mem_cons.1 hk' with rfl|hk'
  ·exact lg (fun F h hh=>by obtain⟨ρ2,rfl,hh⟩:=hh;exact kM hU hz a _ ρ2 h hc2 h4 hh) (dM hU [k] ρ' h g1)
  ·obtain rfl:k=j:=by grind
   exact lg (fun F h hh=>by obtain⟨ρ2,rfl,hh⟩:=hh;rw[h3];exact kM hU hz b _ ρ2 h hc2 h5 hh) (dM hU [k] ρ' h g2)
 |.quiet l i t,listed,ρ,h,hc,hB,hk=>by
  simp only[jX,Bool.and_eq_true]at hB;obtain⟨h1,⟨h2,h3⟩,h4⟩:=hB;have hc' :=iW l listed hc h1;refine jy (t.len+1) l listed _ h (fun i _=>hz i) hc h1 (jn (fun F h hh=>?_) l _ h (dM hU l ρ h hk))
  obtain⟨ρ',rfl,g⟩:=hh;cases hi:all[i]? with
  |none=>grind
  |some o=>
   rw[hi]at g;simp only at g;obtain⟨X,hX,hq⟩:=JO hU g.2;have hi' :all.toArray[i]? =some o:=acL;have hin:i∈Region.ready md all.toArray (fL l listed):=acL;refine Up.first hi' (hz i) t.len _ _ h hc' h3 hin ⟨o,hi',.inl ⟨by grind [cF],hq⟩⟩ ?_
   rw[←sn];exact kM hU hz t _ _ h (hc'.set hin) h4 hX
 |.news l is t,listed,ρ,h,hc,hB,hk=>by
  simp only[jX,Lw,Bool.and_eq_true,decide_eq_true_eq]at hB;obtain⟨h1,⟨⟨⟨h2,h3⟩,h4⟩,h5⟩,h6⟩:=hB;have hc' :=iW l listed hc h1;refine jy (t.len+is.length) l listed _ h (fun i _=>hz i) hc h1 (jn (fun F h hh=>?_) l _ h (dM hU l ρ h hk))
  obtain⟨ρ',rfl,g1,g2,g3⟩:=hh;have side:∀(is:List Nat),mg U all is→∀i∈is,∃o,all[i]? =some o∧ze U o.op:=fun is=>by
   induction is with
   |nil=>simp
   |cons k is ih=>
    intro hs i hi;simp only[mg]at hs
    grind
  have hall:∀i∈is,∃o d B,all.toArray[i]? =some o∧o.guard=none∧o.dst=some d∧dL o.op=true∧FD U o.op=some B∧ze U o.op:=fun i hi=>by
   obtain⟨o,ha,hs⟩:=side is g2 i hi;have ha' :all.toArray[i]? =some o:=acL;have hn:=List.all_eq_true.1 h5 i hi;rw[ha']at hn;simp only[Option.map_some,Option.getD_some,Pq,Bool.and_eq_true,Option.isNone_iff_eq_none,Option.isSome_iff_exists]at hn;obtain⟨⟨n1,d,n2⟩,n3⟩:=hn;split at n3
   ·rename_i ty hop
    exact⟨o,d,_,ha',n1,n2,by rw[hop];rfl,by rw[hop];rfl,hs⟩
   ·cases n3
  refine IN (U:=U) is.length is _ _ h hc' h2 g1 h3 h4 (fun i hi=>?_) fun hc2 ids hf=>?_
  ·obtain⟨o,d,B,a1,a2,a3,a4,a5,a6⟩:=hall i hi
   refine⟨o,d,B,a1,a2,a3,a4,a5,fun F h=>?_⟩
   intro c a hs g hd hr;exact mS hU ((Et (ρ:=[]) a5 a6).2 fun id hid=>⟨id,hid,rfl,rfl⟩) hs g ⟨rfl,hd,fun t x hx=>by cases hx⟩
  ·obtain⟨ρ2,b1,b2⟩:=Bj is ρ' h (fun i hi=>by grind) g3 ids hf
   rw[←b1];exact kM hU hz t _ ρ2 _ hc2 h6 b2
end
section
variable {P : Program} {U : TypeId → TI} {ops : Array Oper} {md : Region.Mode} {H : Nat → Heap}
def yh(hm:Heap)(l1:List Nat)(i:Nat):Heap:=if l1.contains i then hm else fun _=>none
def BV(md:Region.Mode)(ops:Array Oper)(l1:List Nat):Bool:=(List.range ops.size).all fun j=>match ops[j]? with
 |some o=>if dL o.op then !l1.contains j && l1.all fun k=>(jN md ops (jN md ops (jN md ops [j]))).contains k else true
 |none=>true
def GP(md:Region.Mode)(ops:Array Oper)(l1 l2:List Nat):Bool:=BV md ops l1 && jX md ops none (.seq (l1++l2)) (Array.replicate ops.size false) && ((l1++l2).length==ops.size) && l2.all fun i=> !l1.contains i
theorem Dl{l}(hb:BV md ops l=true){listed}(hc:Closed md ops listed){j}{oj}(hoj:ops[j]? =some oj)(he:dL oj.op=true)(hj:j∈Region.ready md ops listed):j∉l∧∀k∈l,listed.getD k false=true:=by
 unfold BV at hb;rw[List.all_eq_true]at hb;have hm:=hb j acL;rw[hoj]at hm;simp only[he,if_true,Bool.and_eq_true,Bool.not_eq_true']at hm;have hl:j∉l:=fun h=>by have:=hm.1;rw[List.contains_iff_mem.2 h]at this;cases this
 refine⟨hl,fun k hk=>?_⟩
 have s0:∀k∈ [j],k≠j→listed.getD k false=true:=fun k hk hn=>absurd agA hn
 have s3:=eV hc hj (eV hc hj (eV hc hj s0));have h2:=hm.2;rw[List.all_eq_true]at h2;have:=h2 k hk;rw[List.contains_iff_mem]at this;exact s3 k this fun e=>hl (e▸hk)
theorem Q0{hm hm'}{i}{o}{K}{F}{h}(ho:ops[i]? =some o)(he:dL o.op=false)(hs:Sub hm hm')(hd:hOp P ops hm i K F h):hOp P ops hm' i K F h:=by
 unfold hOp at*;simp only[ho]at*;rcases hd with⟨h1,⟨h2,_⟩|⟨X,h3,h4⟩⟩|h1
 ·rw[he]at h2;cases h2
 ·exact .inl ⟨h1,.inr ⟨X,fun g hg=>h3 g fun j k e=>hg _ _ (hs _ _ e),h4⟩⟩
 ·exact .inr h1
theorem Fx{n}{E}{Q}{Q'}{c0}{hm}{l1}(hb:BV md ops l1=true)(hdst:∀o∈ops.toList,eS n o.dst=true)
  (h0:∀listed c F h a,Ext c0 c→Sub h c.h→Good c→mC c n F a→E listed→Q F h→wpAny P md ops Q' 0 listed a c.w) (fuel) (listed) (c) (F) (h) (a) (hc:Closed md ops listed) (h1:Ext c0 c) (h2:Sub h c.h) (hor:Sub hm c.h) (h3:Good c) (h4:mC c n F a)
  (hd:rK md ops (hS P ops (yh hm l1)) E Q fuel listed F h):wpAny P md ops Q' (0+fuel) listed a c.w:=by
 refine oR (T:=fun listed c F h a=>Closed md ops listed∧Ext c0 c∧Sub h c.h∧(Sub hm c.h∨∀k∈l1,listed.getD k false=true)∧Good c∧mC c n F a) (fun listed i K c F h a K' ⟨hc,h1,h2,hor,h3,h4⟩ hi hdi hk=>?_)
  (fun listed c F h a ⟨_,k1,k2,_,k3,k4⟩ he hq=>h0 listed c F h a k1 k2 k3 k4 he hq) fuel listed c F h a ⟨hc,h1,h2,.inl hor,h3,h4⟩ hd
 unfold hS at hdi;have hset:=hc.set hi;obtain⟨hun,oi,hoi,_⟩:=mem_ready.1 hi;have hun' :listed.getD i false=false:=by
  clear hdi
  grind
 have late:(∀k∈l1,listed.getD k false=true)→∀k∈l1,(listed.setIfInBounds i true).getD k false=true:=fun hh k hk=>by
  have:=hh k hk
  by_cases e:i=k
  ·subst e;rw[hun']at this;cases this
  ·rw[getD_set_ne false e];exact this
 have low:i∉l1→(∀k∈l1,listed.getD k false=true)→wpOp P ops Q' i K' a c.w:=fun hni hall=>by
  have eH:yh hm l1 i=fun _=>none:=by unfold yh;rw[if_neg (by rw[List.contains_iff_mem];exact hni)]
  rw[eH]at hdi;exact uB hdst (fun c F h a k1 k2 _ k3 k4 hK=>hk c F h a ⟨hset,k1,k2,.inr (late hall),k3,k4⟩ hK) h1 h2 (fun _ _ e=>adb) h3 h4 hdi
 cases he:dL oi.op with
 |true=>obtain⟨hni,hall⟩:=Dl hb hc hoi he hi;exact low hni hall
 |false=>
  rcases hor with hs|hall
  ·exact uB hdst (fun c F h a k1 k2 k2' k3 k4 hK=>hk c F h a ⟨hset,k1,k2,.inl k2',k3,k4⟩ hK) h1 h2 hs h3 h4 (Q0 hoi he (fun j k e=>by
    unfold yh at e;split at e
    ·exact e
    ·cases e) hdi)
  ·exact low (fun hh=>by rw[hall i hh]at hun';cases hun') hall
theorem xX{hm}{Q Q'}(hq:∀F h,Q F h→Q' F h):∀(l:List Nat) (F:EF) (h:Heap),(∀i∈l,H i=hm)→mI P ops (fun _=>hm) Q l F h→mI P ops H Q' l F h
 | [],F,h,_,hd=>hq F h hd
 |i::l,F,h,hh,hd=>by
  show hOp P ops (H i) i _ F h
  rw[hh i acS];exact lg (fun F h hd=>xX hq l F h (fun i hi=>hh i (by simp[hi])) hd) hd
theorem AD{Q}:∀(l l' :List Nat) (F:EF) (h:Heap),mI P ops H (mI P ops H Q l') l F h→mI P ops H Q (l++l') F h
 | [],_,_,_,hd=>hd
 |i::l,l',F,h,hd=>lg (fun F h hd=>AD l l' F h hd) hd
end
section
variable (P : Program) (U : TypeId → TI) (n : Nat)
def KSeq(next:Env→Heap→Prop)(K:Exit→Env→Heap→Prop)(e:Exit)(ρ:Env)(h:Heap):Prop:=
 match e with
 |.normal=>next ρ h
 |e=>K e ρ h
def KBlock(id:Nat)(K:Exit→Env→Heap→Prop)(e:Exit)(ρ:Env)(h:Heap):Prop:=
 match e with
 |.exit j=>if j=id then K .normal ρ h else K (.exit j) ρ h
 |e=>K e ρ h
def wf1:AV→Prop
 |.s l=>l.length<lim
 |.sl xs _=>xs.length<lim
 |_=>True
def wfA:AV→Prop
 |.agg cs=>∀x∈cs,wf1 x
 |.pe y _=>∀x∈y.cells,wf1 x
 |x=>wf1 x
def Wf(ρ:Env):Prop:=∀t x,lk ρ t=some x→wfA x
def J2(body:Env→Heap→(Exit→Env→Heap→Prop)→Prop)(ρ:Env)(h:Heap)(K:Exit→Env→Heap→Prop):Prop:=
 Wf ρ→∃(I:Nat→Env→Heap→Prop) (m:Nat),I m ρ h∧∀m ρ h,I m ρ h→body ρ h (KSeq (fun ρ' h' =>∃m',m' <m∧I m' ρ' h') K)
def lT(all:List Oper):List Oper→Env→Heap→(Env→Prop)→Prop
 | [],ρ,_,K=>K ρ
 |o::os,ρ,h,K=>eS n o.dst=true∧jQ all ρ o.guard
   (fun ρ=>ji P U ρ h o fun X=>lT all os (put ρ o.dst X) h K)
   (fun ρ=>lT all os (put ρ o.dst (.v undef)) h K)
def yq(ops:Array Oper):Bool:=Ll .any ops none ops.size 0 (Array.replicate ops.size false)
def BT:Op→Bool
 |.store .. =>true
 |_=>false
def rQ:List Oper→Bool
 | []=>false
 | [o]=>BT o.op && o.guard.isNone
 |_::b::r=>rQ (b::r)
def Lm(ops:Array Oper):Bool:=Ew .any ops (ops.size - 1) && Ll .any ops (some (ops.size - 1)) (ops.size - 1) 0 (Array.replicate ops.size false)
def pT(l:List Oper)(h:Heap)(K:Env→Heap→Prop)(ρ:Env):Prop:=match l.getLast? with
 |some o=>bh P U ρ h o fun X h' =>K (put ρ o.dst X) h'
 |none=>False
def nZ(l:List Oper):Bool:=l.all fun o=> !dL o.op
def PK(P:Program)(U:TypeId→TI)(n:Nat)(ops:Array Oper)(ρ:Env)(h:Heap)(K:Env→Heap→Prop):Prop:=
 (ops.toList.all fun o=>eS n o.dst)=true∧
 (yq ops=true∧lT P U n ops.toList ops.toList ρ h (fun ρ=>K ρ h)∨
  (∃(hm:Heap) (t:Ord) (Post:Env→Heap→Prop),Sub hm h∧jX .any ops none t (Array.replicate ops.size false)=true∧t.len=ops.size∧lK P U n ops.toList hm t ρ h Post∧∀ρ h,Post ρ h→K ρ h)∨
  (∃(hm:Heap) (l1 l2:List Nat),Sub hm h∧wW .any ops l1 l2=true∧dK P U n ops.toList hm l1 ρ h (fun ρ h=>∃hm2,Sub hm2 h∧dK P U n ops.toList hm2 l2 ρ h K))∨
  (∃(hm:Heap) (t:Ord),Sub hm h∧Ew .any ops t.len=true∧(ops.toList.getLast?.map fun o=>o.guard.isNone)=some true∧jX .any ops (some t.len) t (Array.replicate ops.size false)=true∧t.len+1=ops.size∧lK P U n ops.toList hm t ρ h (fun ρ h=>pT P U ops.toList h K ρ))∨
  ∃(hm:Heap) (l1 l2:List Nat),Sub hm h∧GP .any ops l1 l2=true∧dK P U n ops.toList hm l1 ρ h (fun ρ h=>dK P U n ops.toList (fun _=>none) l2 ρ h K))
def WP(c:Code)(ρ:Env)(h:Heap)(K:Exit→Env→Heap→Prop):Prop:=
 ∀cx a,Sub h cx.h→Good cx→cr cx n ρ a→c.wp P (WPK n K cx) a cx.w
def KJump(l:Nat)(J:Env→Heap→Prop)(K:Exit→Env→Heap→Prop):Exit→Env→Heap→Prop
 |.goto l',ρ,h=>l' =l∧J ρ h
 |e,ρ,h=>K e ρ h
def bH:Code→Env→Heap→(Exit→Env→Heap→Prop)→Prop
 |.skip,ρ,h,K=>K .normal ρ h
 |.region _ ops draw,ρ,h,K=>if draw then(if rQ ops.toList && nZ ops.toList.dropLast then(Lm ops && ops.toList.all fun o=>eS n o.dst)=true∧lT P U n ops.toList ops.toList.dropLast ρ h (pT P U ops.toList h (K .normal))else if nZ ops.toList=false then PK P U n ops ρ h (K .normal)else(yq ops && ops.toList.all fun o=>eS n o.dst)=true∧lT P U n ops.toList ops.toList ρ h (fun ρ=>K .normal ρ h))else ko P U n ops.toList ops.toList ρ h (K .normal)
 |.seq a b,ρ,h,K=>bH a ρ h (KSeq (fun ρ h=>bH b ρ h K) K)
 |.cond c a b,ρ,h,K=>withv ρ c fun
  |.v (.bool t)=>(t=true→bH a ρ h K)∧(t=false→bH b ρ h K)
  |_=>False
 |.block id c,ρ,h,K=>bH c ρ h (KBlock id K)
 |.loop c,ρ,h,K=>J2 (fun ρ h K=>bH c ρ h K) ρ h K
 |.exit id,ρ,h,K=>K (.exit id) ρ h
 |.ret,ρ,h,K=>K .ret ρ h
 |.label _,ρ,h,K=>K .normal ρ h
 |.goto l,ρ,h,K=>K (.goto l) ρ h
 |.scope c,ρ,h,K=>∃(l:Nat) (rest:Code) (J:Nat→Env→Heap→Prop),findLabel c l=some rest∧bH c ρ h (KJump l (fun ρ h=>∃m,J m ρ h) K)∧
  ∀m ρ h,J m ρ h→WP P n rest ρ h (KJump l (fun ρ' h' =>∃m',m' <m∧J m' ρ' h') K)
 |_,_,_,_=>False
end
section
variable {P : Program} {U : TypeId → TI} {n : Nat}
theorem WPK.mono{K K'}{c0}(hk:∀e ρ h,K e ρ h→K' e ρ h){e}{a}{w}(h:WPK n K c0 e a w):WPK n K' c0 e a w:=by obtain⟨c,ρ,hh,h1,h2,h3,h4,h5,h6⟩:=h;exact⟨c,ρ,hh,h1,h2,h3,h4,h5,hk _ _ _ h6⟩
theorem WP.weaken{c}{ρ}{h}{K K'}(hw:WP P n c ρ h K)(hk:∀e ρ h,K e ρ h→K' e ρ h):WP P n c ρ h K' :=
 fun cx a h1 h2 h3=>wp_mono (hw cx a h1 h2 h3) fun _ _ _=>WPK.mono hk
theorem WP.seq{c d}{ρ}{h}{K}(hc:WP P n c ρ h (KSeq (WP P n d · · K) K)):WP P n (.seq c d) ρ h K:=by
 intro cx a h1 h2 h3;refine wp_seq (wp_mono (hc cx a h1 h2 h3) fun e a w hq=>?_)
 obtain⟨c',ρ',h',rfl,g,hE,he,hs,hk⟩:=hq;cases e with
 |normal=>have:=hk c' a hs g he;exact wp_mono this fun _ _ _=>WPK.after hE
 |_=>exact⟨c',ρ',h',rfl,g,hE,he,hs,hk⟩
theorem WP.block{id}{c}{ρ}{h}{K}(hc:WP P n c ρ h (KBlock id K)):WP P n (.block id c) ρ h K:=by
 intro cx a h1 h2 h3;refine wp_block (wp_mono (hc cx a h1 h2 h3) fun e a w hq=>?_)
 obtain⟨c',ρ',h',rfl,g,hE,he,hs,hk⟩:=hq;cases e with
 |exit j=>
  simp only[Exit.inBlock,KBlock]at hk⊢;split
  ·rename_i e;rw[if_pos e]at hk;exact⟨c',ρ',h',rfl,g,hE,he,hs,hk⟩
  ·rename_i e;rw[if_neg e]at hk;exact⟨c',ρ',h',rfl,g,hE,he,hs,hk⟩
 |_=>exact⟨c',ρ',h',rfl,g,hE,he,hs,hk⟩
theorem Cg{c}{Q:Exit→Act→World→Prop}(I:Nat→Act→World→Prop)(round:∀m a w,I m a w→c.wp P (Exit.then (fun a' w' =>∃m',m' <m∧I m' a' w') Q) a w):
  ∀m a w,I m a w→(Code.loop c).wp P Q a w:=by
 intro m a w h0 b k cs;have key:∀n a w,I n a w→∃e a' w',Q e a' w'∧Arrives P (lone (b.at a (.code c:: .inLoop c::k)) cs w) b k cs e a' w' :=by
  intro n
  induction n using Nat.strongRecOn with
  |_ n ih=>
   intro a w hI;obtain⟨e,a₁,w₁,hq,harr⟩:=round n a w hI b (.inLoop c::k) cs;cases e with
   |normal=>obtain⟨m',hlt,hI₁⟩:=hq;obtain⟨e₂,a₂,w₂,hq₂,harr₂⟩:=ih m' hlt a₁ w₁ hI₁;exact⟨e₂,a₂,w₂,hq₂,.of_steps (Steps.trans harr (.one step_inLoop)) harr₂⟩
   |exit id=>exact⟨_,a₁,w₁,hq,.pass (x:=.inLoop c) rfl acS harr⟩
   |goto l=>exact⟨_,a₁,w₁,hq,.pass (x:=.inLoop c) rfl acS harr⟩
   |ret=>exact⟨_,a₁,w₁,hq,.pass (x:=.inLoop c) rfl acS harr⟩
   |panic ch=>exact⟨_,a₁,w₁,hq,.pass (x:=.inLoop c) rfl acS harr⟩
   |outgrown=>exact⟨_,a₁,w₁,hq,.pass (x:=.inLoop c) rfl acS harr⟩
 obtain⟨e,a',w',hq,harr⟩:=key m a w h0;exact⟨e,a',w',hq,.of_steps (.one step_loop) harr⟩
def Exit.Lc(l:Nat)(J:Act→World→Prop)(Q:Exit→Act→World→Prop):Exit→Act→World→Prop
 |.goto l',a,w=>l' =l∧J a w
 |e,a,w=>Q e a w
theorem z6{c rest}{Q:Exit→Act→World→Prop}{a}{w}(l:Nat)(J:Nat→Act→World→Prop)(hf:findLabel c l=some rest)
  (first:c.wp P (Exit.Lc l (fun a w=>∃m,J m a w) Q) a w)
  (pass:∀m a w,J m a w→rest.wp P (Exit.Lc l (fun a' w' =>∃m',m' <m∧J m' a' w') Q) a w):(Code.scope c).wp P Q a w:=by
 intro b k cs;have hg:gotoIn l (.inScope c::k)=some (.code rest:: .inScope c::k):=by grind [gotoIn]
 have key:∀m a w,J m a w→∃e a' w',Q e a' w'∧Arrives P (lone (b.at a (.code rest:: .inScope c::k)) cs w) b k cs e a' w' :=by
  intro m
  induction m using Nat.strongRecOn with
  |_ m ih=>
   intro a w hJ;obtain⟨e,a₁,w₁,hq,harr⟩:=pass m a w hJ b (.inScope c::k) cs;cases e with
   |normal=>exact⟨.normal,a₁,w₁,hq,Steps.trans harr (.one step_inScope)⟩
   |exit id=>exact⟨.exit id,a₁,w₁,hq,fun k' hk=>harr k' (by grind [exitTo])⟩
   |goto l' =>obtain⟨rfl,m',hlt,hJ'⟩:=hq;obtain⟨e₂,a₂,w₂,hq₂,harr₂⟩:=ih m' hlt a₁ w₁ hJ';exact⟨e₂,a₂,w₂,hq₂,.of_steps (harr _ hg) harr₂⟩
   |ret=>exact⟨_,a₁,w₁,hq,harr⟩
   |panic ch=>exact⟨_,a₁,w₁,hq,harr⟩
   |outgrown=>exact⟨_,a₁,w₁,hq,harr⟩
 obtain⟨e,a₁,w₁,hq,harr⟩:=first b (.inScope c::k) cs;cases e with
 |normal=>exact⟨.normal,a₁,w₁,hq,.head step_scope (Steps.trans harr (.one step_inScope))⟩
 |exit id=>exact⟨.exit id,a₁,w₁,hq,fun k' hk=> .head step_scope (harr k' (by grind [exitTo]))⟩
 |goto l' =>obtain⟨rfl,m,hJ⟩:=hq;obtain⟨e₂,a₂,w₂,hq₂,harr₂⟩:=key m a₁ w₁ hJ;exact⟨e₂,a₂,w₂,hq₂,.of_steps (.head step_scope (harr _ hg)) harr₂⟩
 |ret=>exact⟨_,a₁,w₁,hq,.of_steps (.one step_scope) harr⟩
 |panic ch=>exact⟨_,a₁,w₁,hq,.of_steps (.one step_scope) harr⟩
 |outgrown=>exact⟨_,a₁,w₁,hq,.of_steps (.one step_scope) harr⟩
theorem WP.scope{c rest}{ρ:Env}{h:Heap}{K:Exit→Env→Heap→Prop}(l:Nat)(J:Nat→Env→Heap→Prop)(hf:findLabel c l=some rest)(first:WP P n c ρ h (KJump l (fun ρ h=>∃m,J m ρ h) K))
  (pass:∀m ρ h,J m ρ h→WP P n rest ρ h (KJump l (fun ρ' h' =>∃m',m' <m∧J m' ρ' h') K)):WP P n (.scope c) ρ h K:=by
 intro cx a h1 h2 h3;refine z6 l (fun m a w=>∃c' ρ' h',c'.w=w∧Good c'∧Ext cx c'∧cr c' n ρ' a∧Sub h' c'.h∧J m ρ' h') hf (wp_mono (first cx a h1 h2 h3) fun e a w hq=>?_) ?_
 ·obtain⟨c2,ρ2,h2,rfl,g2,hE2,he2,hs2,hk⟩:=hq
  cases e with
  |goto l' =>obtain⟨e1,m,hI⟩:=hk;exact⟨e1,m,c2,ρ2,h2,rfl,g2,hE2,he2,hs2,hI⟩
  |_=>exact⟨c2,ρ2,h2,rfl,g2,hE2,he2,hs2,hk⟩
 ·rintro m a w ⟨c',ρ',h',rfl,g,hE,he,hs,hI⟩
  refine wp_mono (pass m ρ' h' hI c' a hs g he) fun e a w hq=>?_
  obtain⟨c2,ρ2,h2,rfl,g2,hE2,he2,hs2,hk⟩:=hq;cases e with
  |goto l' =>obtain⟨e1,m',hlt,hI'⟩:=hk;exact⟨e1,m',hlt,c2,ρ2,h2,rfl,g2,hE.trans hE2,he2,hs2,hI'⟩
  |_=>exact⟨c2,ρ2,h2,rfl,g2,hE.trans hE2,he2,hs2,hk⟩
theorem WP.loop{c}{ρ:Env}{h:Heap}{K:Exit→Env→Heap→Prop}(I:Nat→Env→Heap→Prop)(m:Nat)(h0:I m ρ h)(round:∀m ρ h,I m ρ h→WP P n c ρ h (KSeq (fun ρ' h' =>∃m',m' <m∧I m' ρ' h') K)):
  WP P n (.loop c) ρ h K:=by
 intro cx a h1 h2 h3;refine Cg (fun m a w=>∃c' ρ' h',c'.w=w∧Good c'∧Ext cx c'∧cr c' n ρ' a∧Sub h' c'.h∧I m ρ' h') ?_ m a cx.w ⟨cx,ρ,h,rfl,h2,.refl _,h3,h1,h0⟩
 rintro m a w ⟨c',ρ',h',rfl,g,hE,he,hs,hI⟩
 refine wp_mono (round m ρ' h' hI c' a hs g he) fun e a w hq=>?_
 obtain⟨c2,ρ2,h2,rfl,g2,hE2,he2,hs2,hk⟩:=hq;cases e with
 |normal=>obtain⟨m',hlt,hI'⟩:=hk;exact⟨m',hlt,c2,ρ2,h2,rfl,g2,hE.trans hE2,he2,hs2,hI'⟩
 |_=>exact⟨c2,ρ2,h2,rfl,g2,hE.trans hE2,he2,hs2,hk⟩
theorem WP.ops(hU:∀t,aO P U t){id}{ops}{ρ}{h}{K}(hk:ko P U n ops.toList ops.toList ρ h (K .normal)):WP P n (.region id ops false) ρ h K:=by intro cx a h1 h2 h3;refine wp_region_list ?_;have:=rf (K:=K) hU cx ops.toList ρ h hk cx a (.refl _) h1 h2 h3;simpa using this
theorem Rep.wf1{c}{x}{u}(h:Rep c x u):wf1 x:=by
 cases x with
 |s l=>exact h.nF.2
 |sl xs p=>obtain⟨a,cap,sz,val,_,hs⟩:=h.iD;have:=hs.hc;have:=hs.hm;simp only[Ab.wf1];omega
 |_=>trivial
theorem Rep.wf{c}{x}{u}(h:Rep c x u):wfA x:=by
 cases x with
 |agg cs=>
  obtain⟨vs,_,_,hr,_⟩:=h.oK;intro x hx;obtain⟨i,hi,rfl⟩:=List.mem_iff_getElem.1 hx
  grind [wf1]
 |pe y off=>
  obtain⟨b,o,val,_,_,_,hr,_⟩:=h.uT;intro x hx;obtain⟨i,hi,rfl⟩:=List.mem_iff_getElem.1 hx
  grind [wf1]
 |_=>exact h.wf1
theorem cr.wf{c}{ρ}{a}(h:cr c n ρ a):Wf ρ:=fun t x hx=>(h.rep t x hx).wf
theorem Dq{ρ}{d}{x}(hd:lk ρ d=some x):lk ((d,x)::ρ)=lk ρ:=by grind [lk]
theorem pO(hU:∀t,aO P U t){all}{h}{K}:∀(l:List Oper) (ρ:Env),lT P U n all l ρ h K→dList P all.toArray h (fun F=>∃ρ,lk ρ=F∧K ρ) l (lk ρ)
 | [],ρ,hk=>⟨ρ,rfl,hk⟩
 |o::os,ρ,hk=>by
  obtain⟨hd,hk⟩:=hk;have yes:∀ρ',cF all.toArray (lk ρ) o=some true→lk ρ' =lk ρ→(ji P U ρ' h o fun X=>lT P U n all os (put ρ' o.dst X) h K)→vw P all.toArray h o (dList P all.toArray h (fun F=>∃ρ,lk ρ=F∧K ρ) os) (lk ρ):=by intro ρ' hw hl hv;obtain⟨X,hQ,hX⟩:=Ga hU hv;have:=pO hU os _ hQ;rw[sn,hl]at this;rw[hl]at hX;exact .inl ⟨hw,X,hX,this⟩
  have no:∀ρ',cF all.toArray (lk ρ) o=some false→lk ρ' =lk ρ→lT P U n all os (put ρ' o.dst (.v undef)) h K→vw P all.toArray h o (dList P all.toArray h (fun F=>∃ρ,lk ρ=F∧K ρ) os) (lk ρ):=by intro ρ' hw hl hv;have:=pO hU os _ hv;rw[sn,hl]at this;exact .inr ⟨hw,this⟩
  unfold jQ at hk;split at hk
  ·rename_i hg
   exact yes ρ (by grind [cF]) rfl hk
  ·rename_i g want hg
   split at hk
   ·rename_i d hd'
    have hd2:((all.toArray)[g]?).bind (·.dst)=some d:=by grind [qv]
    split at hk
    ·rename_i t ht
     have hw:cF all.toArray (lk ρ) o=some (t==want):=by grind [cF]
     by_cases e:t=want
     ·exact yes _ acL (by grind [Dq]) (hk.1 e)
     ·have e' :t= !want:=by cases t<;>cases want<;>simp_all
      exact no _ acL (by grind [Dq]) (hk.2 e')
    ·rename_i vs ht
     refine no ρ ?_ rfl hk
     grind [cF]
    ·exact ac7
   ·exact ac7
theorem WP.any(hm:P.follows .mixedOrders=true){id}{ops}{ρ}{h}{K}(hk:∀c0 c a,Ext c0 c→Sub h c.h→Good c→mC c n (lk ρ) a→wpAny P .any ops (WPK n K c0) ops.size (Array.replicate ops.size false) a c.w):WP P n (.region id ops true) ρ h K:=by
 intro cx a h1 h2 h3;have hE:Ext cx {cx with w:={cx.w with drawn:=cx.w.drawn+1}}:=Ext.draw rfl rfl rfl rfl
 exact wp_region_any hm (hk cx {cx with w:={cx.w with drawn:=cx.w.drawn+1}} a hE h1 (h2.draw rfl rfl rfl rfl) ⟨h3.size,h3.defers,fun t x hx=>(h3.rep t x hx).mono hE⟩)
theorem wI{ops}{K}{listed}{c0 c}{F}{h}{a}(hE:Ext c0 c)(hs:Sub h c.h)(g:Good c)(he:mC c n F a)(hz:xb .any ops none listed)(hK:∃ρ,lk ρ=F∧K .normal ρ h):wpAny P .any ops (WPK n K c0) 0 listed a c.w:=by obtain⟨ρ',rfl,hK⟩:=hK;exact⟨by simpa[xb,E0]using hz,c,ρ',h,rfl,g,hE,⟨he.1,he.2.1,he.2.2⟩,hs,hK⟩
theorem CO(hU:∀t,aO P U t){ops}{K}{z}{oz}(hoz:ops.toList.getLast? =some oz)(hgz:oz.guard=none)(hzz:ops[z]? =some oz)(hdst:∀o∈ops.toList,eS n o.dst=true){listed}{c0 c}{F}{h}{a}(hE:Ext c0 c)(hs:Sub h c.h)(g:Good c)(he:mC c n F a)
  (hz:xb .any ops (some z) listed) (hK:∃ρ,lk ρ=F∧pT P U ops.toList h (K .normal) ρ):wpAny P .any ops (WPK n K c0) 1 listed a c.w:=by
 obtain⟨ρ',rfl,hK⟩:=hK;simp only[xb,E0,Bool.and_eq_true,beq_iff_eq,List.isEmpty_iff]at hz;refine⟨fun e=>(by rw[hz.1]at e;cases e),fun i hi=>?_⟩
 rw[hz.1]at hi;obtain rfl:i=z:=acL;refine wpOp_mono (fun a w hh=>⟨hz.2,hh⟩) ?_
 unfold pT at hK;rw[hoz]at hK;have he' :cr c n ρ' a:=⟨he.1,he.2.1,he.2.2⟩;have hdz:eS n oz.dst=true:=acL;have hu:=mS hU hK hs g he';unfold wpOp;rw[hzz];simp only;rw[if_pos (by grind [Region.wanted])]
 left
 have next:∀u w',eT c (fun X h' =>K .normal (put ρ' oz.dst X) h') u w'→WPK n K c0 .normal (a.put oz.dst u) w' :=by
  rintro u w' ⟨c',x,h',rfl,g',hE',hr,hs',hK⟩
  exact⟨c',_,h',rfl,g',hE.trans hE',(he'.mono hE').put hdz hr,hs',hK⟩
 unfold Oper.wp;generalize (execOp a.eval oz).run P c.w=r at hu;cases r with
 |ok nx w' =>exact ag5
 |halt x w' =>exact hu.elim
theorem WP.draw(hU:∀t,aO P U t)(hm:P.follows .mixedOrders=true){id}{ops}{ρ}{h}{K}(hdst:∀o∈ops.toList,eS n o.dst=true)(hB:yq ops=true)
  (hk:lT P U n ops.toList ops.toList ρ h (fun ρ=>K .normal ρ h)):WP P n (.region id ops true) ρ h K:=
 WP.any hm fun c0 c a hE h1 h2 h3=>by
 have hd:=xC (md:=.any) (ops:=ops) (z:=none) (fun k e=>adb) ops.toList 0 (Array.replicate ops.size false) (lk ρ) h (.none _ _ _) acS (by grind [yq]) (by simpa using pO hU ops.toList ρ hk)
 simpa using xD (m:=0) hdst (fun listed c F g a k1 k2 k3 k4 he hq=>wI k1 k2 k3 k4 he hq) _ _ c _ h a hE h1 h2 h3 hd
theorem WP.Gt(hU:∀t,aO P U t)(hm:P.follows .mixedOrders=true){id}{ops}{ρ}{h hl}{K}{t}{Post}(hdst:∀o∈ops.toList,eS n o.dst=true)(hsub:Sub hl h)
  (hB:jX .any ops none t (Array.replicate ops.size false)=true) (hlen:t.len=ops.size)
  (hk:lK P U n ops.toList hl t ρ h Post) (hp:∀ρ h,Post ρ h→K .normal ρ h):WP P n (.region id ops true) ρ h K:=
 WP.any hm fun c0 c a hE h1 h2 h3=>by
 have hd:=kM (md:=.any) (all:=ops.toList) (z:=none) hU (xI fun k e=>adb) t (Array.replicate ops.size false) ρ h (.none _ _ _) hB hk
 have:=oV (m:=0) hdst (fun listed c F h a k1 k2 k3 k4 he ⟨ρ,e,hq⟩=>wI k1 k2 k3 k4 he ⟨ρ,e,hp _ _ hq⟩) _ _ c _ h a hE h1 (fun i k hi=>h1 _ _ (hsub _ _ hi)) h2 h3 hd
 rw[hlen,Nat.zero_add]at this;exact adr
theorem WP.TS(hU:∀t,aO P U t)(hm:P.follows .mixedOrders=true){id}{ops}{ρ}{h hl}{K}{l1 l2}(hdst:∀o∈ops.toList,eS n o.dst=true)(hsub:Sub hl h)
  (hB:wW .any ops l1 l2=true) (hk:dK P U n ops.toList hl l1 ρ h (fun ρ h=>∃hm2,Sub hm2 h∧dK P U n ops.toList hm2 l2 ρ h (K .normal))):WP P n (.region id ops true) ρ h K:=
 WP.any hm fun c0 c a hE h1 h2 h3=>by
 simp only[wW,Bool.and_eq_true,List.all_eq_true,beq_iff_eq]at hB;obtain⟨⟨⟨⟨b1,b2⟩,b3⟩,b4⟩,b5⟩:=hB;have hcl:=Closed.none .any ops ops.size;have hd:=jy (md:=.any) 0 l1 (Array.replicate ops.size false) (lk ρ) h (KG b2 b3) hcl b1 (jn (fun F h hh=>⟨rfl,hh⟩) l1 _ h (dM hU l1 ρ h hk))
 rw[Nat.zero_add]at hd;have:=oV (m:=l2.length) hdst (fun listed c F h a k1 k2 k3 k4 he hR=>by
  subst he;obtain⟨ρ',rfl,hm2,hs2,hk2⟩:=hR;have ha:=kM (md:=.any) (all:=ops.toList) (z:=none) (hm:=hm2) hU (xI fun k e=>adb) (.seq l2) _ ρ' h (iW l1 _ hcl b1) b4 hk2
  have:=oV (m:=0) hdst (fun listed c F h a k1 k2 k3 k4 he hq=>wI k1 k2 k3 k4 he hq) _ _ c _ h a k1 k2 (fun i k hi=>k2 _ _ (hs2 _ _ hi)) k3 k4 ha
  rwa [Nat.zero_add]at this) _ _ c _ h a hE h1 (fun i k hi=>h1 _ _ (hsub _ _ hi)) h2 h3 hd
 rw[b5]at this;exact adr
theorem WP.TR(hU:∀t,aO P U t)(hm:P.follows .mixedOrders=true){id}{ops}{ρ}{h hl}{K}{l1 l2}(hdst:∀o∈ops.toList,eS n o.dst=true)(hsub:Sub hl h)
  (hB:GP .any ops l1 l2=true) (hk:dK P U n ops.toList hl l1 ρ h (fun ρ h=>dK P U n ops.toList (fun _=>none) l2 ρ h (K .normal))):WP P n (.region id ops true) ρ h K:=
 WP.any hm fun c0 c a hE h1 h2 h3=>by
 simp only[GP,jX,Bool.and_eq_true,beq_iff_eq,List.all_eq_true]at hB;obtain⟨⟨⟨b1,b2,b5⟩,b3⟩,b4⟩:=hB;have hcl:=Closed.none .any ops ops.size;have hd2:mI P ops (yh hl l1) (fun F h=>∃ρ,lk ρ=F∧K .normal ρ h) (l1++l2) (lk ρ) h:=
  AD _ _ _ _ (xX (fun F h ⟨ρ',e,hk2⟩=>by subst e;exact xX (fun _ _ hh=>hh) l2 _ h (fun i hi=>by have:=b4 i hi;unfold yh;rw[if_neg (by simpa using this)]) (dM hU l2 ρ' h hk2)) l1 _ h (fun i hi=>by unfold yh;rw[if_pos (List.contains_iff_mem.2 hi)]) (dM hU l1 ρ h hk))
 have ha:=jy (md:=.any) (E:=xb .any ops none) 0 _ _ _ _ (fun i _=>xI (fun k e=>adb) i) hcl b2 (jn (fun F h hh=>⟨b5,hh⟩) _ _ h hd2)
 rw[Nat.zero_add]at ha;have:=Fx b1 hdst (fun listed c F h a k1 k2 k3 k4 he hq=>wI k1 k2 k3 k4 he hq) _ _ c _ h a hcl hE h1 (fun i k hi=>h1 _ _ (hsub _ _ hi)) h2 h3 ha
 rw[b3,Nat.zero_add]at this;exact adr
theorem yg:∀ {l:List Oper},rQ l=true→∃o,l.getLast? =some o∧o.guard=none
 | [o],h=>⟨o,rfl,by simp_all [rQ,Bool.and_eq_true]⟩
 |_::b::r,h=>by
  obtain⟨o,h1,h2⟩:=yg (l:=b::r) h
  grind
theorem WP.TU(hU:∀t,aO P U t)(hm:P.follows .mixedOrders=true){id}{ops}{ρ}{h hl}{K}{l}(hdst:∀o∈ops.toList,eS n o.dst=true)(hsub:Sub hl h)
  (hz:Ew .any ops l.len=true) (hg:(ops.toList.getLast?.map fun o=>o.guard.isNone)=some true) (hB:jX .any ops (some l.len) l (Array.replicate ops.size false)=true) (hlen:l.len+1=ops.size)
  (hk:lK P U n ops.toList hl l ρ h (fun ρ h=>pT P U ops.toList h (K .normal) ρ)):WP P n (.region id ops true) ρ h K:=
 WP.any hm fun c0 c a hE h1 h2 h3=>by
 obtain⟨oz,hoz,hgz⟩:=Option.map_eq_some_iff.1 hg;have hzz:ops[l.len]? =some oz:=by grind
 have hd:=kM (md:=.any) (all:=ops.toList) (z:=some l.len) hU (xI fun k e=>by cases e;exact hz) l (Array.replicate ops.size false) ρ h (.none _ _ _) hB hk
 have:=oV (m:=1) hdst (fun listed c F h a k1 k2 k3 k4 he hq=>CO hU hoz (by simpa using hgz) hzz hdst k1 k2 k3 k4 he hq) _ _ c _ h a hE h1 (fun i k hi=>h1 _ _ (hsub _ _ hi)) h2 h3 hd
 rw[Nat.add_comm,hlen]at this;exact adr
theorem WP.TT(hU:∀t,aO P U t)(hm:P.follows .mixedOrders=true){id}{ops}{ρ}{h}{K}(hdst:∀o∈ops.toList,eS n o.dst=true)(hl:rQ ops.toList=true)(hB:Lm ops=true)
  (hk:lT P U n ops.toList ops.toList.dropLast ρ h (pT P U ops.toList h (K .normal))):WP P n (.region id ops true) ρ h K:=
 WP.any hm fun c0 c a hE h1 h2 h3=>by
 obtain⟨oz,hoz,hgz⟩:=yg hl;unfold Lm at hB;rw[Bool.and_eq_true]at hB;have hpos:0<ops.size:=by grind
 have hz:ops[ops.size - 1]? =some oz:=by grind
 have hlen:ops.toList.dropLast.length=ops.size - 1:=acS;have hd:=xC (md:=.any) (ops:=ops) (z:=some (ops.size - 1)) (fun k e=>by cases e;exact hB.1) ops.toList.dropLast 0 (Array.replicate ops.size false) (lk ρ) h (.none _ _ _) acL acL (by simpa using pO hU ops.toList.dropLast ρ hk)
 have:=xD (m:=1) hdst (fun listed c F g a k1 k2 k3 k4 he hq=>CO hU hoz hgz hz hdst k1 k2 k3 k4 he hq) _ _ c _ h a hE h1 h2 h3 hd
 rw[hlen,Nat.add_comm,Nat.sub_add_cancel hpos]at this;exact adr
theorem dJ(hU:∀t,aO P U t)(hm:P.follows .mixedOrders=true):∀(c:Code) (ρ:Env) (h:Heap) (K:Exit→Env→Heap→Prop),bH P U n c ρ h K→WP P n c ρ h K
 |.skip,ρ,h,K,hk=>fun cx a h1 h2 h3=>wp_skip ⟨cx,ρ,h,rfl,h2,.refl _,h3,h1,hk⟩
 |.region id ops draw,ρ,h,K,hk=>by
  simp only[bH]at hk;cases draw with
  |true=>
   simp only[if_true]at hk;split at hk
   ·rename_i hl
    obtain⟨hb,hk⟩:=hk;rw[Bool.and_eq_true,List.all_eq_true]at hb;rw[Bool.and_eq_true]at hl;exact WP.TT hU hm hb.2 hl.1 hb.1 hk
   ·split at hk
    ·obtain⟨hb,hk⟩:=hk
     rw[List.all_eq_true]at hb;rcases hk with⟨h1,hk⟩|⟨hm',t,Post,h1,h2,h3,hk,hp⟩|⟨hm',l1,l2,h1,h2,hk⟩|⟨hm',l,h1,h2,h4,h5,h6,hk⟩|⟨hm',l1,l2,h1,h2,hk⟩
     ·exact WP.draw hU hm hb h1 hk
     ·exact WP.Gt hU hm hb h1 h2 h3 hk hp
     ·exact WP.TS hU hm hb h1 h2 hk
     ·exact WP.TU hU hm hb h1 h2 h4 h5 h6 hk
     ·exact WP.TR hU hm hb h1 h2 hk
    ·obtain⟨hb,hk⟩:=hk
     rw[Bool.and_eq_true,List.all_eq_true]at hb;exact WP.draw hU hm hb.2 hb.1 hk
  |false=>exact WP.ops hU acL
 |.seq a b,ρ,h,K,hk=>by
  simp only[bH]at hk;refine WP.seq ((dJ hU hm a ρ h _ hk).weaken fun e ρ' h' hh=>?_)
  cases e with
  |normal=>exact dJ hU hm b ρ' h' K hh
  |_=>exact hh
 |.cond c a b,ρ,h,K,hk=>by
  simp only[bH]at hk;obtain⟨y,hy,hk⟩:=aJ hk;split at hk
  ·rename_i t
   intro cx ac h1 h2 h3;have hv:=(aF h3 hy).bS;exact wp_cond_split hv (fun e=>dJ hU hm a ρ h K (hk.1 e) cx ac h1 h2 h3) (fun e=>dJ hU hm b ρ h K (hk.2 e) cx ac h1 h2 h3)
  ·exact ac7
 |.block id c,ρ,h,K,hk=>WP.block (dJ hU hm c ρ h _ (by grind [bH]))
 |.loop c,ρ,h,K,hk=>by simp only[bH]at hk;intro cx a h1 h2 h3;obtain⟨I,m,h0,hr⟩:=hk h3.wf;exact WP.loop I m h0 (fun m ρ h hI=>dJ hU hm c ρ h _ (hr m ρ h hI)) cx a h1 h2 h3
 |.exit id,ρ,h,K,hk=>fun cx a h1 h2 h3=>wp_exit ⟨cx,ρ,h,rfl,h2,.refl _,h3,h1,afO⟩
 |.ret,ρ,h,K,hk=>fun cx a h1 h2 h3=>wp_ret ⟨cx,ρ,h,rfl,h2,.refl _,h3,h1,afO⟩
 |.label l,ρ,h,K,hk=>fun cx a h1 h2 h3=>wp_label ⟨cx,ρ,h,rfl,h2,.refl _,h3,h1,afO⟩
 |.goto l,ρ,h,K,hk=>fun cx a h1 h2 h3=>wp_goto ⟨cx,ρ,h,rfl,h2,.refl _,h3,h1,afO⟩
 |.rangeFunc ..,_,_,_,hk=>by simp[bH]at hk
 |.scope c,ρ,h,K,hk=>by simp only[bH]at hk;obtain⟨l,rest,J,hf,h1,h2⟩:=hk;exact WP.scope l J hf (dJ hU hm c ρ h _ h1) h2
 |.refuse _,_,_,_,hk=>by simp[bH]at hk
def sB(ρ:Env)(h:Heap)(U:TypeId→TI):List ResultVar→(List AV→Prop)→Prop
 | [],k=>k []
 |.tmp t::r,k=>match lk ρ t with
  |some x=>sB ρ h U r fun xs=>k (x::xs)
  |none=>False
 |.cell t ty::r,k=>match lk ρ t with
  |some (.ptr id off)=>match h id with
   |some (.obj cs _)=>(U ty).sz≠0∧(U ty).k≠ .other∧iB cs off (U ty) fun x=>sB ρ h U r fun xs=>k (x::xs)
   |_=>False
  |_=>False
def ax(xs:List AV):AV:=match xs with
 | [x]=>x
 |xs=> .tup xs
inductive Weak:AV→AV→Prop where
 |refl (x:AV):Weak x x
 |sl (xs:List AV) (p:Perm):Weak (.sl xs p) (.sl xs .no)
 |agg (xs ys:List AV) (hl:xs.length=ys.length) (h:∀i (h1:i<xs.length) (h2:i<ys.length),Weak xs[i] ys[i]):Weak (.agg xs) (.agg ys)
 |tup (xs ys:List AV) (hl:xs.length=ys.length) (h:∀i (h1:i<xs.length) (h2:i<ys.length),Weak xs[i] ys[i]):Weak (.tup xs) (.tup ys)
 |deep (xs ys:List AV) (p:Perm) (hl:xs.length=ys.length) (hc:∀i (h1:i<xs.length) (h2:i<ys.length),xs[i].cells.length=ys[i].cells.length)
   (h:∀i (h1:i<xs.length) (h2:i<ys.length) j (h3:j<xs[i].cells.length) (h4:j<ys[i].cells.length),Weak xs[i].cells[j] ys[i].cells[j]):Weak (.sl xs p) (.sl ys .no)
theorem Rep.weak{c}{x y}(hw:Weak x y):∀ {u:Value},Rep c x u→Rep c y u:=by
 induction hw with
 |refl x=>simp
 |sl xs p=>intro u h;obtain⟨a,cap,sz,val,rfl,hs⟩:=h.iD;exact .sl xs .no a cap sz val hs.hc hs.hm hs.h0 hs.hs hs.hz hs.hf hs.hr hs.ho trivial
 |agg xs ys hl h ih=>intro u hu;obtain⟨vs,rfl,h1,h2,h3⟩:=hu.oK;exact .agg ys vs acK acL acL
 |tup xs ys hl h ih=>intro u hu;obtain⟨vs,rfl,h1,h2⟩:=hu.Cb;exact .tup ys vs acK acL
 |deep xs ys p hl hc h ih=>
  intro u hu;obtain⟨a,cap,sz,val,rfl,hs⟩:=hu.iD;rw[hl];exact .sl ys .no a cap sz val (by rw[←hl];exact hs.hc) hs.hm hs.h0 hs.hs (fun i hi=>by rw[←hc i acK hi];exact hs.hz i acK) (fun q hq i j hi hj=>hs.hf q hq i j acK hj)
   (fun i hi j hj=>ih i acK hi j acL hj (hs.hr i acK j acL)) (fun i j hi hj=>hs.ho i j acK hj) trivial
theorem sC(hU:∀t,aO P U t){c}{ρ}{h}{a}(hs:Sub h c.h)(g:Good c)(he:cr c n ρ a):∀(rs:List ResultVar) (k:List AV→Prop),sB ρ h U rs k→
  ∃(xs:List AV) (vs:List Value),k xs∧vs.length=xs.length∧(∀i (h1:i<xs.length) (h2:i<vs.length),Rep c xs[i] vs[i])∧
   (rs.mapM fun(r:ResultVar)=>match r with|.tmp t=>(pure (a.tmps.getD t undef):Sem Value)|.cell q t=>do loadVar t (←asAddr (a.tmps.getD q undef))).run P c.w= .ok vs c.w
 | [],k,hk=>⟨[],[],hk,rfl,fun i h=>adB,acS⟩
 |.tmp t::r,k,hk=>by
  simp only[sB]at hk;split at hk
  ·rename_i x hx
   obtain⟨xs,vs,h1,h2,h3,h4⟩:=sC hU hs g he r _ hk;refine⟨x::xs,a.tmps.getD t undef::vs,h1,acL,fun i hi1 hi2=>?_,?_⟩
   ·cases i with
    |zero=>exact he.rep _ _ hx
    |succ i=>exact h3 i acL acL
   simp_all
  grind
 |.cell t ty::r,k,hk=>by
  simp only[sB]at hk;split at hk
  ·rename_i id off hx
   split at hk
   ·rename_i cs t' hid
    obtain⟨hz,ht,hk⟩:=hk;obtain⟨x,hk,hX⟩:=sv (P:=P) hU hz ht hk;obtain⟨xs,vs,h1,h2,h3,h4⟩:=sC hU hs g he r _ hk;obtain⟨hu,_⟩:=(he.rep _ _ hx).kT;obtain⟨us,u1,u2,u3⟩:=g.obj id cs t' (hs _ _ hid);obtain⟨v,v1,v2⟩:=hX c (c.φ id).block 0 (fun j=>us.getD j undef) (fun j hj=>by simp_all [World.cell?]) (fun j hj=>(u3 j hj).1) (fun j hj=>(u3 j hj).2)
    rw[Nat.zero_add]at v1;refine⟨x::xs,v::vs,h1,acL,fun i hi1 hi2=>?_,?_⟩
    ·cases i with
     |zero=>exact v2
     |succ i=>exact h3 i acL acL
    simp_all [asAddr,undef,none]
   grind
  grind
def xK(args:List AV):Env:=args.zipIdx.map fun p=>(p.2,p.1)
theorem yt:∀(args:List AV) (k t:Nat),lk ((args.zipIdx k).map fun p=>(p.2,p.1)) t=if k≤t then args[t - k]? else none
 | [],k,t=>by simp[lk]
 |x::r,k,t=>by
  have ih:=yt r (k+1) t;simp only[List.zipIdx_cons,List.map_cons,lk,ih]
  by_cases e:k=t
  ·subst e;simp
  ·rw[if_neg e]
   by_cases h:k≤t
   ·rw[if_pos acK,if_pos h]
    rw[show t - k=(t - (k+1))+1 by omega]
    rfl
   ·rw[if_neg acK,if_neg h]
def vq(U:TypeId→TI)(rs:List ResultVar)(Q:AV→Heap→Prop)(e:Exit)(ρ:Env)(h:Heap):Prop:=
 (match e with|.ret|.normal=>True|_=>False)∧sB ρ h U rs fun xs=>∃y h',Weak (ax xs) y∧Sub h' h∧Q y h'
theorem ai.LC(hU:∀t,aO P U t){f}{fn}{c}{args}{h}{Q}(hf:P.funcs[f]? =some fn)(hb:fn.body=some c)
  (hn : (fn.name == "runtime.NumGoroutine") = false) (hl : args.length ≤ fn.ntmps)
  (hk:(∀x∈args,wfA x)→WP P fn.ntmps c (xK args) h (vq U fn.results.toList Q)):ai P f args h Q:=by
 intro cx vs hs g hv hr;refine .inl ⟨⟨fn,hf,hn,acL⟩,calls_of_wp hf hb ?_⟩;have hwf:∀x∈args,wfA x:=fun x hx=>by obtain⟨i,hi,rfl⟩:=List.mem_iff_getElem.1 hx;exact(hr i hi).wf
 have hw:=hk hwf;have he:cr cx fn.ntmps (xK args) {tmps:=vs++Array.replicate (fn.ntmps - vs.size) undef,defers:=[]}:=by
  refine⟨acL,rfl,fun t x hx=>?_⟩
  have:=yt args 0 t;simp only[Nat.zero_le,if_true,Nat.sub_zero]at this;have e:lk (xK args) t=args[t]? :=this;rw[e]at hx;obtain⟨hi,rfl⟩:=List.getElem?_eq_some_iff.1 hx;have h1:=hr t hi;have h2:t<vs.size:=acK;have e2:(vs++Array.replicate (fn.ntmps - vs.size) undef).getD t undef=vs.getD t undef:=by
   rw[Array.getD,dif_pos acL,Array.getD,dif_pos h2]
   simp_all
  simp only[e2];exact h1
 refine wp_mono (hw cx _ hs g he) fun e a w hq=>?_
 obtain⟨c',ρ',h',rfl,g',hE,he',hs',hk1,hk2⟩:=hq;obtain⟨xs,us,⟨y,h'',hwk,hsub,hQ⟩,hl',hr',hrun⟩:=sC hU hs' g' he' _ _ hk2;have hres:∃u,(results fn a.tmps).run P c'.w= .ok u c'.w∧Rep c' (ax xs) u:=by
  have hrun' :(fn.results.mapM fun(r:ResultVar)=>match r with|.tmp t=>(pure (a.tmps.getD t undef):Sem Value)|.cell q t=>do loadVar t (←asAddr (a.tmps.getD q undef))).run P c'.w= .ok us.toArray c'.w:=by simp_all [Array.mapM_eq_mapM_toList,Sem.run_map]
  have hres0:(results fn a.tmps).run P c'.w= .ok (if h:us.toArray.size=1 then us.toArray[0]else .tuple us.toArray) c'.w:=by
   have e0:results fn a.tmps=(fn.results.mapM fun(r:ResultVar)=>match r with|.tmp t=>(pure (a.tmps.getD t undef):Sem Value)|.cell q t=>do loadVar t (←asAddr (a.tmps.getD q undef)))>>=fun vs=>pure (if h:vs.size=1 then vs[0]else .tuple vs):=rfl
   rw[e0,Sem.run_bind,hrun'];rfl
  by_cases h1:us.length=1
  ·obtain⟨u,rfl⟩:=List.length_eq_one_iff.1 h1
   obtain⟨x,rfl⟩:=List.length_eq_one_iff.1 (hl'.symm.trans h1);refine⟨u,?_,hr' 0 acS acS⟩
   grind
  ·refine⟨.tuple us.toArray,?_,?_⟩
   ·grind
   ·have:ax xs= .tup xs:=by
     cases xs with
     |nil=>rfl
     |cons x r=>cases r with
      |nil=>grind
      |cons y q=>rfl
    rw[this];refine .tup xs _ acK fun i hi=>?_
    have:=hr' i hi acK;simpa[show i<us.length by omega]using this
 obtain⟨u,hu1,hu2⟩:=hres;have fin:a.defers= []∧∃v,(results fn a.tmps).run P c'.w= .ok v c'.w∧∃u,Ending.returned v= .returned u∧eT cx Q u c'.w:=
  ⟨he'.defers,u,hu1,u,rfl,c',y,h'',rfl,g',hE,hu2.weak hwk,fun id k hk=>hs' _ _ (hsub _ _ hk),hQ⟩
 cases e with
 |normal=>exact fin
 |ret=>exact fin
 |_=>exact hk1.elim
theorem ai.UQ(hU:∀t,aO P U t)(hm:P.follows .mixedOrders=true){f}{fn}{c}{args}{h}{Q}(hf:P.funcs[f]? =some fn)(hb:fn.body=some c)
  (hn : (fn.name == "runtime.NumGoroutine") = false) (hl : args.length ≤ fn.ntmps)
  (hk:(∀x∈args,wfA x)→bH P U fn.ntmps c (xK args) h (vq U fn.results.toList Q)):ai P f args h Q:=
 ai.LC hU hf hb hn hl fun hw=>dJ hU hm c _ h _ (hk hw)
end
def zy:AV→Value→Bool
 |.v (.int k n),.int k' m=>decide (k=k') && decide (n=m)
 |.v (.bool a),.bool b=>a==b
 |.s [],.string b=>b.data.toList.isEmpty
 |.sl [] .full,.slice none 0 0=>true
 |.v (.pointer none),.pointer none=>true
 |.v .nilIface,.nilIface=>true
 |.v .nilFunc,.nilFunc=>true
 |.v (.map none),.map none=>true
 |.v (.complex k a b),.complex k' a' b' =>decide (k=k') && a==a' && b==b'
 |_,_=>false
theorem sI{x}{v}(h:zy x v=true)(c):Rep c x v∧v.oneCell' =true:=by
 unfold zy at h;split at h
 ·simp at h;obtain⟨rfl,rfl⟩:=h;exact⟨.v _,rfl⟩
 ·simp at h;subst h;exact⟨.v _,rfl⟩
 ·rename_i b
  have e:b=⟨([]:List UInt8).toArray⟩:=by
   apply ByteArray.ext
   grind
  subst e;exact⟨.s [] acN,rfl⟩
 ·exact⟨yZ c (.slice none 0 0),rfl⟩
 ·exact agI
 ·exact agI
 ·exact agI
 ·exact agI
 ·simp at h;obtain⟨⟨rfl,rfl⟩,rfl⟩:=h;exact⟨.v _,rfl⟩
 grind
def vl:List AV→List Value→Bool
 | [],[]=>true
 |x::xs,v::vs=>zy x v && vl xs vs
 |_,_=>false
theorem wg:∀ {xs:List AV} {vs:List Value},vl xs vs=true→xs.length=vs.length∧∀i (h1:i<xs.length) (h2:i<vs.length),zy xs[i] vs[i]=true
 | [],[],_=>acS
 |x::xs,v::vs,h=>by
  simp only[vl,Bool.and_eq_true]at h;obtain⟨h1,h2⟩:=wg h.2
  grind
 | [],_::_,h=>by grind [vl]
 |_::_,[],h=>by grind [vl]
def MQ:AV→Value→Bool
 |.agg xs,.agg vs=>vl xs vs.toList
 |x,v=>zy x v
theorem JU{x}{v}(h:MQ x v=true)(c):Rep c x v:=by
 unfold MQ at h;split at h
 ·rename_i xs vs
  obtain⟨h1,h2⟩:=wg h;have hl:vs.size=xs.length:=acL;refine .agg xs vs hl (fun i hi=>?_) (fun i hi=>?_)
  ·have:=(sI (h2 i hi acK) c).1
   simpa[show i<vs.size by omega]using this
  ·have:=(sI (h2 i hi acK) c).2
   simpa[show i<vs.size by omega]using this
 ·exact(sI h c).1
def Kz(P:Program)(U:TypeId→TI)(t:TypeId):Bool:=
 match (U t).k,P.underlying t with
 |.int k,some (.int k')=>decide (k' =k)
 |.bool,some .bool=>true
 |.str,some .string=>true
 |.slice e,some (.slice e')=>decide (e' =e)
 |.strct fs,some (.struct fields)=>decide (fields.toList.map (fun f=>(f.offset,f.type))=fs) && fs.all fun p=>(U p.2).sz !=0
 |.ptr e,some (.pointer e')=>decide (e' =e)
 |.arr n e,some (.array n' e')=>decide (n' =n) && decide (e' =e)
 |.iface,some (.interface _)=>true
 |.cplx k,some (.complex k')=>decide (k' =k)
 |.map k e,some (.map k' e')=>decide (k' =k) && decide (e' =e)
 |.other,_=>true
 |_,_=>false
def K0(P:Program)(U:TypeId→TI)(t:TypeId):Bool:=
 (U t).sz==0||match P.info? t with
  |some i=>i.size==(U t).sz && i.bytes==(U t).bytes && match i.zero with
   |some z=>z.cells.size==(U t).sz && MQ (U t).zero z
   |none=>false
  |none=>false
def MC(P:Program)(U:TypeId→TI)(t:TypeId):Bool:=match (U t).k with
 |.strct []=>match P.info? t with
  |some i=>match i.zero with
   |some (.agg vs)=>vs.isEmpty && i.size==0
   |_=>false
  |none=>false
 |_=>true
def RV:TK→TK→Bool
 |.int a,.int b=>decide (a=b)
 |.bool,.bool=>true
 |.str,.str=>true
 |.cplx a,.cplx b=>decide (a=b)
 |_,_=>false
theorem OF{a b}(h:RV a b=true):a=b:=by
 unfold RV at h
 grind
def ua:List TK→List TK→Bool
 | [],[]=>true
 |x::xs,y::ys=>RV x y && ua xs ys
 |_,_=>false
theorem uc:∀ {a b:List TK},ua a b=true→a=b
 | [],[],_=>rfl
 | [],_::_,h=>adB
 |_::_,[],h=>adB
 |x::xs,y::ys,h=>by simp only[ua,Bool.and_eq_true]at h;rw[OF h.1,uc h.2]
def zo(U:TypeId→TI)(r:Nat):List (Nat×TypeId)→Nat→List TK→Bool
 | [],_,l=>l.isEmpty
 |f::fs,o,l=>match (U f.2).eq with
  |some (r',l')=>f.1==o && decide (r' <r) && ua (l.take l'.length) l' && zo U r fs (o+l'.length) (l.drop l'.length)
  |none=>false
theorem vX{U}{r}:∀ {fs:List (Nat×TypeId)} {o:Nat} {l:List TK},zo U r fs o l=true→Ek U r fs o l
 | [],o,l,h=>by grind [zo,Ek]
 |f::fs,o,l,h=>by
  unfold zo at h;split at h
  ·rename_i r' l' he
   simp only[Bool.and_eq_true,beq_iff_eq,decide_eq_true_eq]at h;obtain⟨⟨⟨h1,h2⟩,h3⟩,h4⟩:=h;exact⟨h1,r',l',he,h2,uc h3,vX h4⟩
  grind
def eqB(P:Program)(U:TypeId→TI)(t:TypeId):Bool:=match (U t).eq with
 |none=>true
 |some (r,l)=>l.length==(U t).sz && !l.isEmpty && decide (r<100) && match (U t).k with
  |.int k=>ua l [.int k]
  |.bool=>ua l [.bool]
  |.str=>ua l [.str]
  |.cplx k=>ua l [.cplx k]
  | .strct fs => !P.stoodInHeld t && !P.eqGuardType P.depth t && (P.fieldsOf t).toList.all (fun f => f.name != "_") && zo U r fs 0 l
  |.arr n e=> !P.eqGuardType P.depth t && match (U e).eq with
   |some (r',l')=>decide (r' <r) && ua l (List.replicate n l').flatten
   |none=>false
  |_=>false
theorem KH{P}{U}{t}(h:eqB P U t=true):∀r l,(U t).eq=some (r,l)→MY P U t r l:=by
 intro r l he;unfold eqB at h;rw[he]at h;simp only[Bool.and_eq_true,beq_iff_eq,decide_eq_true_eq,Bool.not_eq_true']at h;obtain⟨⟨⟨h1,h2⟩,h3⟩,h4⟩:=h;refine⟨h1,(by intro e;rw[e]at h2;cases h2),h3,?_⟩
 cases hk:(U t).k<;>rw[hk]at h4<;>simp only at h4⊢<;>first|exact uc h4|(cases h4)|skip
 ·simp only[Bool.and_eq_true,Bool.not_eq_true',List.all_eq_true]at h4
  obtain⟨⟨⟨g1,g2⟩,g3⟩,g4⟩:=h4;exact⟨g1,g2,fun f hf=>by simpa using g3 f (by simpa using hf),vX g4⟩
 ·simp only[Bool.and_eq_true,Bool.not_eq_true']at h4
  obtain⟨g1,g2⟩:=h4;split at g2
  ·rename_i r' l' he'
   simp only[Bool.and_eq_true,decide_eq_true_eq]at g2;exact⟨g1,r',l',he',g2.1,uc g2.2⟩
  ·cases g2
theorem J9{P}{U}{t}(h1:Kz P U t=true)(h2:K0 P U t=true)(h3:MC P U t=true)(h4:eqB P U t=true):aO P U t:=by
 refine⟨?_,fun hz=>?_,fun hz=>?_,KH h4⟩
 ·unfold Kz at h1
  grind
 ·unfold K0 at h2
  simp only[Bool.or_eq_true,beq_iff_eq,hz,false_or]at h2;split at h2
  ·rename_i i hi
   simp only[Bool.and_eq_true,beq_iff_eq]at h2;obtain⟨⟨h3,h4⟩,h5⟩:=h2;split at h5
   ·simp_all [Bool.and_eq_true,beq_iff_eq,JU]
   grind
  grind
 ·unfold MC at h3
  grind
theorem HP{P}{U}(N)(h:(List.range N).all (fun t=>Kz P U t && K0 P U t && MC P U t && eqB P U t)=true)(h' :∀t,N≤t→U t=⟨.other,0,0,default,none⟩):∀t,aO P U t:=by
 intro t
 by_cases ht:t<N
 ·simp_all [List.all_eq_true,Bool.and_eq_true,J9]
 ·have:=h' t acL
  exact⟨acL,fun hz=>acL,fun hz=>acL,fun r l he=>acL⟩
section
variable {P : Program} {U : TypeId → TI} {n : Nat} {ρ : Env} {h : Heap}
def aE{α:Type}(o:Option α)(k:α→Prop):Prop:=match o with
 |some y=>k y
 |none=>False
@[congr] theorem O8{α:Type}{o o' :Option α}{k:α→Prop}(e:o=o'):aE o k=aE o' k:=by rw[e]
theorem dj{α:Type}(y:α)(k:α→Prop):aE (some y) k=k y:=(rfl)
def Br(t:Bool)(A B:Prop):Prop:=(t=true→A)∧(t=false→B)
@[congr] theorem Th{t t'}{A B:Prop}(e:t=t'):Br t A B=Br t' A B:=by rw[e]
attribute [go_sem] dj
@[go_sem] theorem Vo(A B:Prop):Br true A B=A:=by simp[Br]
theorem Ti(A B:Prop):Br false A B=B:=by simp[Br]
def atH(Q:AV→Heap→Prop)(h:Heap)(r:AV):Prop:=Q r h
theorem WD(Q)(h)(r):atH Q h r=Q r h:=(rfl)
def atK(t:TK)(k:TK→Prop):Prop:=k t
@[congr] theorem Su{t t'}{k}(e:t=t'):atK t k=atK t' k:=by rw[e]
theorem VA(x)(k):atK (.int x) k=k (.int x):=(rfl)
theorem VC(k):atK .str k=k .str:=(rfl)
theorem Sv(x)(k):atK (.slice x) k=k (.slice x):=(rfl)
theorem Sw(x)(k):atK (.strct x) k=k (.strct x):=(rfl)
def fP(xs:List AV)(m:Int)(sz:Nat)(k:AV→Prop):Prop:=Idx xs m fun b=>b.cells.length=sz∧k (.pe b 0)
theorem fP.at{xs}{sz:Nat}{k:AV→Prop}(j:Nat)(hj:j<xs.length)(hz:xs[j].cells.length=sz)(hk:k (.pe xs[j] 0)):fP xs (j:Int) sz k:=⟨acK,xs[j],acS,hz,hk⟩
def M3(l:List UInt8)(m:Int)(k:AV→Prop):Prop:=Idx l m fun b=>k (aI b)
theorem M3.at{l}{k:AV→Prop}(j:Nat)(hj:j<l.length)(hk:k (aI l[j])):M3 l (j:Int) k:=⟨acK,l[j],acS,hk⟩
@[congr] theorem PW{f f'}{a a'}{h h'}{Q}(h0:f=f')(h1:a=a')(h2:h=h'):ai P f a h Q=ai P f' a' h' Q:=by grind
theorem Wd(k)(x)(r)(t):lk ((k,x)::r) t=if k=t then some x else lk r t:=(rfl)
theorem Pm(d)(x)(r)(t):lk (put r (some d) x) t=if d=t then some x else lk r t:=(rfl)
theorem Pk(x)(r)(t):lk (put r none x) t=lk r t:=(rfl)
theorem Xd(args)(t):lk (xK args) t=args[t]? :=by have:=yt args 0 t;exact adr
theorem Um{α:Type}(x:α)(r:List α):(x::r)[0]? =some x:=(rfl)
attribute [go_sem] Ti VA VC Sv Sw Um
attribute [go_sem↓] WD Wd Pm Pk Xd
theorem Ul{α:Type}(x:α)(r:List α)(i):(x::r)[i+1]? =r[i]? :=by simp
theorem W5(t):ev ρ (.tmp t)=lk ρ t:=(rfl)
theorem W3(k)(m):ev ρ (.const (.int k m))=some (.v (.int k m)):=(rfl)
theorem VR(b):ev ρ (.const (.bool b))=some (.b b):=(rfl)
theorem W4(a):ev ρ (.const (.pointer a))=some (.v (.pointer a)):=(rfl)
theorem VS(k)(a b):ev ρ (.const (.complex k a b))=some (.v (.complex k a b)):=(rfl)
theorem Ua(k)(a):ev ρ (.const (.float k a))=some (.v (.float k a)):=(rfl)
theorem Pg:ev ρ (.const (.slice none 0 0))=some (.sl [] .full):=(rfl)
theorem VU:ev ρ (.const (.string ⟨#[]⟩))=some (.s []):=(rfl)
theorem VV(a0):ev ρ (.const (.string ⟨#[a0]⟩))=some (.s [a0]):=(rfl)
theorem VW(a0 a1):ev ρ (.const (.string ⟨#[a0,a1]⟩))=some (.s [a0,a1]):=(rfl)
theorem VX(a0 a1 a2):ev ρ (.const (.string ⟨#[a0,a1,a2]⟩))=some (.s [a0,a1,a2]):=(rfl)
theorem VY(a0 a1 a2 a3):ev ρ (.const (.string ⟨#[a0,a1,a2,a3]⟩))=some (.s [a0,a1,a2,a3]):=(rfl)
theorem VZ(a0 a1 a2 a3 a4):ev ρ (.const (.string ⟨#[a0,a1,a2,a3,a4]⟩))=some (.s [a0,a1,a2,a3,a4]):=(rfl)
theorem V0(a0 a1 a2 a3 a4 a5):ev ρ (.const (.string ⟨#[a0,a1,a2,a3,a4,a5]⟩))=some (.s [a0,a1,a2,a3,a4,a5]):=(rfl)
theorem V1(a0 a1 a2 a3 a4 a5 a6):ev ρ (.const (.string ⟨#[a0,a1,a2,a3,a4,a5,a6]⟩))=some (.s [a0,a1,a2,a3,a4,a5,a6]):=(rfl)
theorem V2(a0 a1 a2 a3 a4 a5 a6 a7):ev ρ (.const (.string ⟨#[a0,a1,a2,a3,a4,a5,a6,a7]⟩))=some (.s [a0,a1,a2,a3,a4,a5,a6,a7]):=(rfl)
theorem Ub(a0 a1 a2 a3 a4 a5 a6 a7 a8 a9):ev ρ (.const (.string ⟨#[a0,a1,a2,a3,a4,a5,a6,a7,a8,a9]⟩))=some (.s [a0,a1,a2,a3,a4,a5,a6,a7,a8,a9]):=(rfl)
theorem Uc(a0 a1 a2 a3 a4 a5 a6 a7 a8 a9 a10):ev ρ (.const (.string ⟨#[a0,a1,a2,a3,a4,a5,a6,a7,a8,a9,a10]⟩))=some (.s [a0,a1,a2,a3,a4,a5,a6,a7,a8,a9,a10]):=(rfl)
theorem Ud(a0 a1 a2 a3 a4 a5 a6 a7 a8 a9 a10 a11):ev ρ (.const (.string ⟨#[a0,a1,a2,a3,a4,a5,a6,a7,a8,a9,a10,a11]⟩))=some (.s [a0,a1,a2,a3,a4,a5,a6,a7,a8,a9,a10,a11]):=(rfl)
theorem Ue(a0 a1 a2 a3 a4 a5 a6 a7 a8 a9 a10 a11 a12):ev ρ (.const (.string ⟨#[a0,a1,a2,a3,a4,a5,a6,a7,a8,a9,a10,a11,a12]⟩))=some (.s [a0,a1,a2,a3,a4,a5,a6,a7,a8,a9,a10,a11,a12]):=(rfl)
theorem Uf(a0 a1 a2 a3 a4 a5 a6 a7 a8 a9 a10 a11 a12 a13 a14 a15):ev ρ (.const (.string ⟨#[a0,a1,a2,a3,a4,a5,a6,a7,a8,a9,a10,a11,a12,a13,a14,a15]⟩))=some (.s [a0,a1,a2,a3,a4,a5,a6,a7,a8,a9,a10,a11,a12,a13,a14,a15]):=(rfl)
theorem Ug(a0 a1 a2 a3 a4 a5 a6 a7 a8 a9 a10 a11 a12 a13 a14 a15 a16):ev ρ (.const (.string ⟨#[a0,a1,a2,a3,a4,a5,a6,a7,a8,a9,a10,a11,a12,a13,a14,a15,a16]⟩))=some (.s [a0,a1,a2,a3,a4,a5,a6,a7,a8,a9,a10,a11,a12,a13,a14,a15,a16]):=(rfl)
theorem VT(f):ev ρ (.func f)=some (.fn f []):=(rfl)
def Pb(x:Option AV)(r:Option (List AV)):Option (List AV):=match x,r with
 |some y,some ys=>some (y::ys)
 |_,_=>none
theorem Qu(y)(ys):Pb (some y) (some ys)=some (y::ys):=(rfl)
theorem V3:evs ρ []=some []:=(rfl)
theorem Uh(x)(r):evs ρ (x::r)=Pb (ev ρ x) (evs ρ r):=(rfl)
theorem bT(x)(k):withv ρ x k=aE (ev ρ x) k:=by grind [withv,aE,ev]
theorem gK(xs)(k):withvs ρ xs k=aE (evs ρ xs) k:=by grind [withvs,aE,evs]
theorem Xw(K):bH P U n .skip ρ h K=K .normal ρ h:=(rfl)
theorem US(id)(l)(K):bH P U n (.region id l.toArray false) ρ h K=ko P U n l l ρ h (K .normal):=(rfl)
def Cj(P:Program)(U:TypeId→TI)(n:Nat)(b:Code)(K:Exit→Env→Heap→Prop):Exit→Env→Heap→Prop:=KSeq (fun ρ h=>bH P U n b ρ h K) K
theorem aaC(a b)(K):bH P U n (.seq a b) ρ h K=bH P U n a ρ h (Cj P U n b K):=(rfl)
theorem M5(b)(K):Cj P U n b K .normal ρ h=bH P U n b ρ h K:=(rfl)
theorem Sk(b)(K):Cj P U n b K .ret ρ h=K .ret ρ h:=(rfl)
theorem P7(b)(K)(i):Cj P U n b K (.exit i) ρ h=K (.exit i) ρ h:=(rfl)
theorem P8(b)(K)(i):Cj P U n b K (.goto i) ρ h=K (.goto i) ρ h:=(rfl)
def oe(P:Program)(U:TypeId→TI)(n:Nat)(a b:Code)(ρ:Env)(h:Heap)(K:Exit→Env→Heap→Prop)(y:AV):Prop:=match y with
 |.v (.bool t)=>(t=true→bH P U n a ρ h K)∧(t=false→bH P U n b ρ h K)
 |_=>False
attribute [go_sem] Ul Qu
attribute [go_sem↓] W5 W3 VR W4 VS Ua Pg VU VV VW VX VY VZ V0 V1 V2 Ub Uc Ud Ue Uf Ug VT V3 Uh bT gK Xw US aaC M5 Sk P7 P8
@[go_sem↓] theorem PU(a b)(K):oe P U n a b ρ h K (.b true)=bH P U n a ρ h K:=by simp[oe]
theorem OW(a b)(K):oe P U n a b ρ h K (.b false)=bH P U n b ρ h K:=by simp[oe]
theorem oe.intro{a b}{K}{t}(h1:t=true→bH P U n a ρ h K)(h2:t=false→bH P U n b ρ h K):oe P U n a b ρ h K (.b t):=⟨h1,h2⟩
theorem oe.no{a b}{K}{t}(e:t=false)(h1:bH P U n b ρ h K):oe P U n a b ρ h K (.b t):=⟨fun h=>absurd (e.symm.trans h) acS,fun _=>h1⟩
attribute [go_sem↓] OW
theorem Xq(c)(a b)(K):bH P U n (.cond c a b) ρ h K=aE (ev ρ c) (oe P U n a b ρ h K):=by
 simp only[bH,withv];cases ev ρ c with
 |none=>rfl
 |some y=>rfl
theorem Wq(id)(c)(K):bH P U n (.block id c) ρ h K=bH P U n c ρ h (KBlock id K):=(rfl)
def J1(P:Program)(U:TypeId→TI)(n:Nat)(c:Code)(ρ:Env)(h:Heap)(K:Exit→Env→Heap→Prop):Prop:=J2 (fun ρ h K=>bH P U n c ρ h K) ρ h K
def KRound(I:Nat→Env→Heap→Prop)(m:Nat)(K:Exit→Env→Heap→Prop):Exit→Env→Heap→Prop:=KSeq (fun ρ' h' =>∃m',m' <m∧I m' ρ' h') K
theorem P6{I}{m}{K}:KRound I m K .ret ρ h=K .ret ρ h:=(rfl)
theorem O1{I}{m}{K}(i):KRound I m K (.exit i) ρ h=K (.exit i) ρ h:=(rfl)
theorem J1.intro{c}{K}(I)(m)(h0:I m ρ h)(hr:∀m ρ h,I m ρ h→bH P U n c ρ h (KRound I m K)):J1 P U n c ρ h K:=fun _=>⟨I,m,h0,hr⟩
theorem Xv(c)(K):bH P U n (.loop c) ρ h K=J1 P U n c ρ h K:=(rfl)
theorem Si(l)(J)(K):KJump l J K .ret ρ h=K .ret ρ h:=(rfl)
attribute [go_sem↓] Xq Wq P6 O1 Xv Si
theorem P4(l)(J)(K):KJump l J K (.goto l) ρ h=J ρ h:=by simp[KJump]
theorem Xt(id)(K):bH P U n (.exit id) ρ h K=K (.exit id) ρ h:=(rfl)
theorem aaB(K):bH P U n .ret ρ h K=K .ret ρ h:=(rfl)
theorem Ws(l)(K):bH P U n (.label l) ρ h K=K .normal ρ h:=(rfl)
theorem Xu(l)(K):bH P U n (.goto l) ρ h K=K (.goto l) ρ h:=(rfl)
theorem MS(id)(K):KBlock id K .normal ρ h=K .normal ρ h:=(rfl)
theorem PZ(id)(K):KBlock id K .ret ρ h=K .ret ρ h:=(rfl)
theorem O0(id)(K)(j):KBlock id K (.exit j) ρ h=if j=id then K .normal ρ h else K (.exit j) ρ h:=(rfl)
theorem aaA(all)(K):ko P U n all [] ρ h K=K ρ h:=(rfl)
def KOps(P:Program)(U:TypeId→TI)(n:Nat)(all os:List Oper)(K:Env→Heap→Prop)(ρ:Env)(d:Option Tmp)(x:AV)(h:Heap):Prop:=ko P U n all os (put ρ d x) h K
theorem Vr(all os)(K)(d)(x):KOps P U n all os K ρ d x h=ko P U n all os (put ρ d x) h K:=(rfl)
theorem Xr(all)(d)(op)(t)(p)(a)(os)(K):
  ko P U n all (⟨d,op,t,p,a,none⟩::os) ρ h K=(eS n d=true∧bh P U ρ h ⟨d,op,t,p,a,none⟩ (KOps P U n all os K ρ d)):=(rfl)
attribute [go_sem↓] P4 Xt aaB Ws Xu MS PZ O0 aaA Vr Xr
@[go_sem] theorem QJ(d):(eS n (some d)=true)=(d<n):=by simp[eS]
theorem QI:(eS n none=true)=True:=by simp[eS]
def gB(d:Nat)(w:Bool)(ρ:Env)(yes no:Env→Prop)(x:AV):Prop:=match x with
 |.v (.bool t)=>if w then Br t (yes ((d,.b true)::ρ)) (no ((d,.b false)::ρ))else Br t (no ((d,.b true)::ρ)) (yes ((d,.b false)::ρ))
 |.v (.tuple _)=>no ρ
 |_=>False
theorem QH(d)(op)(t)(p)(a)(g)(os):qv (⟨d,op,t,p,a,g⟩::os) 0=d:=(rfl)
theorem QG(o)(os)(i):qv (o::os) (i+1)=qv os i:=(rfl)
attribute [go_sem] QI
attribute [go_sem↓] QH QG
theorem uA(all)(g)(w)(yes no):jQ all ρ (some (g,w)) yes no=aE (qv all g) fun d=>aE (lk ρ d) fun x=>gB d w ρ yes no x:=by
 simp only[jQ];cases qv all g with
 |none=>rfl
 |some d=>
  simp only[dj];cases lk ρ d with
  |none=>rfl
  |some x=>cases x with
   |v u=>cases u<;>first|rfl|(rename_i t;cases w<;>cases t<;>simp[aE,gB,Br])
   |_=>rfl
def jl(P:Program)(U:TypeId→TI)(n:Nat)(all os:List Oper)(ρ:Env)(h:Heap)(K:Env→Heap→Prop)(w:Bool)(d:Option Tmp)(op:Op)(t:TypeId)(p:String)(a:Array Edge)(s:Nat)(x:AV):Prop:=
 gB s w ρ (fun ρ=>bh P U ρ h ⟨d,op,t,p,a,none⟩ (KOps P U n all os K ρ d)) (fun ρ=>ko P U n all os (put ρ d (.v undef)) h K) x
section
variable {all os : List Oper} {K : Env → Heap → Prop} {d : Option Tmp} {op : Op} {t : TypeId} {p : String} {a : Array Edge} {s : Nat}
@[go_sem↓] theorem Sd:jl P U n all os ρ h K true d op t p a s (.b true)=bh P U ((s,.b true)::ρ) h ⟨d,op,t,p,a,none⟩ (KOps P U n all os K ((s,.b true)::ρ) d):=by simp[jl,gB,Br]
@[go_sem↓] theorem Sc:jl P U n all os ρ h K true d op t p a s (.b false)=ko P U n all os (put ((s,.b false)::ρ) d (.v undef)) h K:=by simp[jl,gB,Br]
@[go_sem↓] theorem Sb:jl P U n all os ρ h K false d op t p a s (.b true)=ko P U n all os (put ((s,.b true)::ρ) d (.v undef)) h K:=by simp[jl,gB,Br]
theorem Sa:jl P U n all os ρ h K false d op t p a s (.b false)=bh P U ((s,.b false)::ρ) h ⟨d,op,t,p,a,none⟩ (KOps P U n all os K ((s,.b false)::ρ) d):=by simp[jl,gB,Br]
theorem M0(w):jl P U n all os ρ h K w d op t p a s (.v undef)=ko P U n all os (put ρ d (.v undef)) h K:=(rfl)
theorem jl.intro{w b}(h1:b=true→jl P U n all os ρ h K w d op t p a s (.b true))(h2:b=false→jl P U n all os ρ h K w d op t p a s (.b false)):jl P U n all os ρ h K w d op t p a s (.b b):=by
 cases b
 ·grind
 grind
attribute [go_sem↓] Sa M0
end
@[go_sem↓] theorem Wr(all)(d)(op)(t)(p)(a)(g)(w)(os)(K):
  ko P U n all (⟨d,op,t,p,a,some (g,w)⟩::os) ρ h K=(eS n d=true∧aE (qv all g) fun s=>aE (lk ρ s) (jl P U n all os ρ h K w d op t p a s)):=by
 have:=uA (ρ:=ρ) all g w (fun ρ=>bh P U ρ h ⟨d,op,t,p,a,none⟩ (KOps P U n all os K ρ d)) (fun ρ=>ko P U n all os (put ρ d (.v undef)) h K)
 rw[show(fun s=>aE (lk ρ s) (jl P U n all os ρ h K w d op t p a s))=fun d_1=>aE (lk ρ d_1) fun x=>gB d_1 w ρ (fun ρ=>bh P U ρ h ⟨d,op,t,p,a,none⟩ (KOps P U n all os K ρ d)) (fun ρ=>ko P U n all os (put ρ d (.v undef)) h K) x from rfl,←this]
 rfl
variable {d : Option Tmp} {t : TypeId} {p : String} {a : Array Edge} {g : Option (Nat × Bool)} {Q : AV → Heap → Prop}
theorem Xj(x):bh P U ρ h ⟨d,.move x,t,p,a,g⟩ Q=aE (ev ρ x) (atH Q h):=(bT x _)
theorem UO(x):bh P U ρ h ⟨d,.assign x,t,p,a,g⟩ Q=aE (ev ρ x) (atH Q h):=(bT x _)
def LN(ρ:Env)(x z:Operand)(k:AV→Prop)(y:AV):Prop:=match y with
 |.v (.bool true)=>aE (ev ρ x) k
 |.v (.bool false)=>aE (ev ρ z) k
 |_=>False
theorem Rx(x z)(k):LN ρ x z k (.b true)=aE (ev ρ x) k:=(rfl)
theorem Px(x z)(k):LN ρ x z k (.b false)=aE (ev ρ z) k:=(rfl)
attribute [go_sem↓] Xj UO Rx Px
theorem Xk(x y z):bh P U ρ h ⟨d,.pick x y z,t,p,a,g⟩ Q=aE (ev ρ x) (LN ρ y z (atH Q h)):=by
 simp only[bh,pv,bT]
 congr 1
def Pr(k:AV→Prop)(y:AV):Prop:=match y with
 |.ptr .. |.pe .. |.fn .. =>k y
 |_=>False
theorem SX(i o)(k):Pr k (.ptr i o)=k (.ptr i o):=(rfl)
attribute [go_sem↓] Xk SX
theorem Ro(x):bh P U ρ h ⟨d,.nilCheck x,t,p,a,g⟩ Q=aE (ev ρ x) (Pr (atH Q h)):=by
 simp only[bh,pv,bT]
 congr 1
@[congr] theorem Qp{op}{ty}{x x' y y'}{K}(e1:x=x')(e2:y=y'):cy U op ty x y K=cy U op ty x' y' K:=by grind
attribute [go_sem↓] Ro
theorem uQ(op)(ty ty')(x y)(hy:FF y=false):bh P U ρ h ⟨d,.binOp op ty x y ty',t,p,a,g⟩ Q=aE (ev ρ x) fun u=>aE (ev ρ y) fun v=>cy U op ty u v (atH Q h):=by simp only[bh,pv,bT,hy];rfl
theorem Wi(op)(ty ty')(x)(y):bh P U ρ h ⟨d,.binOp op ty x (.tmp y) ty',t,p,a,g⟩ Q=aE (ev ρ x) fun u=>aE (ev ρ (.tmp y)) fun v=>cy U op ty u v (atH Q h):=uQ _ _ _ _ _ rfl
theorem S0(op)(ty ty')(x)(ik)(im):bh P U ρ h ⟨d,.binOp op ty x (.const (.int ik im)) ty',t,p,a,g⟩ Q=aE (ev ρ x) fun u=>cy U op ty u (.v (.int ik im)) (atH Q h):=uQ _ _ _ _ _ rfl
theorem SY(op)(ty ty')(x)(ik)(im jm):bh P U ρ h ⟨d,.binOp op ty x (.const (.complex ik im jm)) ty',t,p,a,g⟩ Q=aE (ev ρ x) fun u=>cy U op ty u (.v (.complex ik im jm)) (atH Q h):=uQ _ _ _ _ _ rfl
theorem SZ(op)(ty ty')(x)(ik)(im):bh P U ρ h ⟨d,.binOp op ty x (.const (.float ik im)) ty',t,p,a,g⟩ Q=aE (ev ρ x) fun u=>cy U op ty u (.v (.float ik im)) (atH Q h):=uQ _ _ _ _ _ rfl
theorem S3(op)(ty ty')(x)(b):bh P U ρ h ⟨d,.binOp op ty x (.const (.string b)) ty',t,p,a,g⟩ Q=aE (ev ρ x) fun u=>aE (ev ρ (.const (.string b))) fun v=>cy U op ty u v (atH Q h):=uQ _ _ _ _ _ rfl
theorem S2(op)(ty ty')(x)(b):bh P U ρ h ⟨d,.binOp op ty x (.const (.pointer b)) ty',t,p,a,g⟩ Q=aE (ev ρ x) fun u=>cy U op ty u (.v (.pointer b)) (atH Q h):=uQ _ _ _ _ _ rfl
def Rm(h:Heap)(op:BinOp)(x:AV)(Q:AV→Heap→Prop)(tk:TK):Prop:=match tk,op,x with
 |.slice _,.eql,.sl xs _=>∀b:Bool,(xs≠ []→b=false)→Q (.b b) h
 |.slice _,.neq,.sl xs _=>∀b:Bool,(xs≠ []→b=true)→Q (.b b) h
 |.slice _,.eql,.oa .. =>Q (.b false) h
 |.slice _,.neq,.oa .. =>Q (.b true) h
 |.slice _,.eql,.ob .. =>Q (.b false) h
 |.slice _,.neq,.ob .. =>Q (.b true) h
 |_,_,_=>False
attribute [go_sem↓] Wi S0 SY SZ S3 S2
@[go_sem↓] theorem S1(op)(ty ty')(x)(l k):bh P U ρ h ⟨d,.binOp op ty x (.const (.slice none l k)) ty',t,p,a,g⟩ Q=aE (ev ρ x) fun u=>atK (U ty).k (Rm h op u Q):=by simp only[bh,FF,bT,atK,if_true];rfl
section
variable {ty : TypeId} {K : AV → Prop}
@[go_sem] theorem aac(k)(x y):cy U .add ty (.v (.int k x)) (.v (.int k y)) K=K (.v (.int k (k.wrap (x+y)))):=by simp[cy,ga,rJ]
@[go_sem] theorem aal(k)(x y):cy U .sub ty (.v (.int k x)) (.v (.int k y)) K=K (.v (.int k (k.wrap (x - y)))):=by simp[cy,ga,rJ]
@[go_sem] theorem aai(k)(x y):cy U .mul ty (.v (.int k x)) (.v (.int k y)) K=K (.v (.int k (k.wrap (x*y)))):=by simp[cy,ga,rJ]
@[go_sem] theorem aak(k)(x y):cy U .quo ty (.v (.int k x)) (.v (.int k y)) K=(y≠0∧K (.v (.int k (k.wrap (x.tdiv y))))):=by simp[cy,ga,rJ]
@[go_sem] theorem Ki(k)(x y):cy U .and ty (.v (.int k x)) (.v (.int k y)) K=K (.v (.int k (k.wrap (BitVec.ofInt k.bits x &&& BitVec.ofInt k.bits y).toNat))):=by simp[cy,ga,rJ]
@[go_sem] theorem Qo(k)(x y):cy U .or ty (.v (.int k x)) (.v (.int k y)) K=K (.v (.int k (k.wrap (BitVec.ofInt k.bits x|||BitVec.ofInt k.bits y).toNat))):=by simp[cy,ga,rJ]
@[go_sem] theorem O7(k)(x y):cy U .xor ty (.v (.int k x)) (.v (.int k y)) K=K (.v (.int k (k.wrap (BitVec.ofInt k.bits x ^^^ BitVec.ofInt k.bits y).toNat))):=by simp[cy,ga,rJ]
@[go_sem] theorem aad(k)(x y):cy U .eql ty (.v (.int k x)) (.v (.int k y)) K=K (.b (x==y)):=by simp[cy,ga,rJ]
@[go_sem] theorem aaj(k)(x y):cy U .neq ty (.v (.int k x)) (.v (.int k y)) K=K (.b (x !=y)):=by simp[cy,ga,rJ]
@[go_sem] theorem aah(k)(x y):cy U .lss ty (.v (.int k x)) (.v (.int k y)) K=K (.b (decide (x<y))):=by simp[cy,ga,rJ]
@[go_sem] theorem aag(k)(x y):cy U .leq ty (.v (.int k x)) (.v (.int k y)) K=K (.b (decide (x≤y))):=by simp[cy,ga,rJ]
@[go_sem] theorem aaf(k)(x y):cy U .gtr ty (.v (.int k x)) (.v (.int k y)) K=K (.b (decide (y<x))):=by simp[cy,ga,rJ]
theorem aae(k)(x y):cy U .geq ty (.v (.int k x)) (.v (.int k y)) K=K (.b (decide (y≤x))):=by simp[cy,ga,rJ]
theorem O6(k k')(x y):cy U .shl ty (.v (.int k x)) (.v (.int k' y)) K=(0≤y∧K (.v (.int k (k.wrap (x*2 ^ (min y.toNat k.bits)))))):=(rfl)
theorem Kj(k k')(x y):cy U .shr ty (.v (.int k x)) (.v (.int k' y)) K=(0≤y∧K (.v (.int k (x.fdiv (2 ^ (min y.toNat k.bits)))))):=(rfl)
theorem WL(x y):cy U .add ty (.s x) (.s y) K=(x.length+y.length<lim∧K (.s (x++y))):=(rfl)
theorem WM(x y):cy U .eql ty (.s x) (.s y) K=K (.b (x==y)):=(rfl)
theorem WQ(x y):cy U .neq ty (.s x) (.s y) K=K (.b (!(x==y))):=(rfl)
theorem VD(k k')(x y)(op):cy U op ty (.v (.float k x)) (.v (.float k' y)) K=gy op (.float k x) (.float k' y) K:=(rfl)
theorem WJ(k k')(x y z w)(op):cy U op ty (.v (.complex k x y)) (.v (.complex k' z w)) K=gy op (.complex k x y) (.complex k' z w) K:=(rfl)
theorem oC{op}{x y r}(h:∀(P:Program) (ty:TypeId) (w:World),(binOp op ty x y).run P w= .ok r w)(K):gy op x y K=K (.v r):=propext ⟨fun⟨r',h',hk⟩=>by have e:=(h default 0 default).symm.trans (h' default 0 default);cases e;exact hk,fun hk=>⟨r,h,hk⟩⟩
theorem WO(x y):cy U .lss ty (.s x) (.s y) K=K (.b (Op.bytesLess x y)):=(rfl)
theorem WN(x y):cy U .geq ty (.s x) (.s y) K=K (.b (!(Op.bytesLess x y))):=(rfl)
def eqK(tk:TK)(e:Option (Nat×List TK))(xs ys:List AV)(k:Bool→Prop):Prop:=match e with
 |some (_,l)=>tk.agg=true∧cB l xs∧cB l ys∧k (eqL xs ys)
 |none=>False
@[congr] theorem SN{tk tk'}{e e'}{xs ys}{k}(h1:tk=tk')(h2:e=e'):eqK tk e xs ys k=eqK tk' e' xs ys k:=by grind
attribute [go_sem] aae O6 Kj WL WM WQ VD WJ WO WN
@[go_sem] theorem aas(fs)(r)(l)(xs ys)(k):eqK (.strct fs) (some (r,l)) xs ys k=(cB l xs∧cB l ys∧k (eqL xs ys)):=by simp[eqK,TK.agg]
@[go_sem] theorem WG(xs ys):cy U .eql ty (.agg xs) (.agg ys) K=eqK (U ty).k (U ty).eq xs ys fun b=>K (.b b):=by simp only[cy,Kl,eqK];grind
theorem WH(xs ys):cy U .neq ty (.agg xs) (.agg ys) K=eqK (U ty).k (U ty).eq xs ys fun b=>K (.b (!b)):=by simp only[cy,Kl,eqK];grind
theorem RY(xs):cB [] xs=(xs= []):=(rfl)
theorem PI(t)(ts)(x)(xs):cB (t::ts) (x::xs)=(qp t x∧cB ts xs):=(rfl)
theorem TE(k k')(n):qp (.int k) (.v (.int k' n))=(k' =k):=(rfl)
theorem TC(b):qp .bool (.b b)=True:=(rfl)
theorem TD(k k')(a b):qp (.cplx k) (.v (.complex k' a b))=(k' =k):=(rfl)
theorem TF(l):qp .str (.s l)=True:=(rfl)
theorem VQ:eqL [] []=true:=(rfl)
theorem TZ(x y)(xs ys):eqL (x::xs) (y::ys)=(eqC x y && eqL xs ys):=(rfl)
theorem aaq(k k')(n m):eqC (.v (.int k n)) (.v (.int k' m))=(n==m):=(rfl)
theorem aap(b c):eqC (.b b) (.b c)=(b==c):=(rfl)
theorem aar(l m):eqC (.s l) (.s m)=(l==m):=(rfl)
def tkB(k:TK)(A:Prop):Prop:=k= .bool∧A
def tkP(k:TK)(A:Prop):Prop:=(∃e,k= .ptr e)∧A
@[congr] theorem Tc{k k'}{A:Prop}(e:k=k'):tkB k A=tkB k' A:=by rw[e]
@[congr] theorem Td{k k'}{A:Prop}(e:k=k'):tkP k A=tkP k' A:=by rw[e]
attribute [go_sem] WH RY PI TE TC TD TF VQ TZ aaq aap aar
@[go_sem] theorem U2(A:Prop):tkB .bool A=A:=by simp[tkB]
theorem Ww(e)(A:Prop):tkP (.ptr e) A=A:=by simp[tkP]
theorem WI(x y):cy U .neq ty (.b x) (.b y) K=tkB (U ty).k (K (.b (!(x==y)))):=by grind [cy,Nl,tkB]
attribute [go_sem] Ww WI
@[go_sem] theorem WK(i o):cy U .eql ty (.ptr i o) (.v (.pointer none)) K=tkP (U ty).k (K (.b false)):=by simp only[cy,Nn,N6,tkP];grind
end
def unA(op:UnOp)(y:AV)(k:AV→Prop):Prop:=match op,y with
 |.not,.v (.bool b)=>k (.b (!b))
 |.neg,.v (.int kk n)=>k (.v (.int kk (kk.wrap (0 - n))))
 |.xor,.v (.int kk n)=>k (.v (.int kk (kk.wrap (BitVec.ofInt kk.bits (if kk.signed then -1 else kk.max) ^^^ BitVec.ofInt kk.bits n).toNat)))
 |_,_=>False
@[congr] theorem Tf{op}{y y'}{k}(e:y=y'):unA op y k=unA op y' k:=by rw[e]
theorem Wz(b)(k):unA .not (.b b) k=k (.b (!b)):=(rfl)
theorem Ce(kk)(m)(k):unA .xor (.v (.int kk m)) k=k (.v (.int kk (kk.wrap (BitVec.ofInt kk.bits (if kk.signed then -1 else kk.max) ^^^ BitVec.ofInt kk.bits m).toNat))):=(rfl)
attribute [go_sem] Wz Ce
theorem Xm(op)(ty)(x):bh P U ρ h ⟨d,.unOp op ty x,t,p,a,g⟩ Q=aE (ev ρ x) fun y=>unA op y (atH Q h):=by
 simp only[bh,pv,bT]
 congr 1
def cvA(U:TypeId→TI)(s d:TK)(y:AV)(k:AV→Prop):Prop:=match s,d,y with
 |.int _,.int kk,.v (.int _ n)=>k (.v (.int kk (kk.wrap n)))
 |.str,.str,.s l=>k (.s l)
 |.slice e,.str,.sl xs _=>(U e).k= .int .u8∧∃l:List UInt8,xs=l.map aI∧k (.s l)
 |.str,.slice e,.s l=>(U e).k= .int .u8∧k (.sl (l.map aI) .no)
 |.cplx _,.cplx kk,.v (.complex kf a b)=>kf=kk∧k (.v (.complex kk a b))
 |_,_,_=>False
@[congr] theorem SE{s s' d d'}{y y'}{k}(e1:s=s')(e2:d=d')(e:y=y'):cvA U s d y k=cvA U s' d' y' k:=by grind
theorem WW(k0 kk k1)(m)(k):cvA U (.int k0) (.int kk) (.v (.int k1 m)) k=k (.v (.int kk (kk.wrap m))):=(rfl)
attribute [go_sem↓] Xm
attribute [go_sem] WW
theorem aan(e)(l)(pm)(k):cvA U (.slice e) .str (.sl (l.map aI) pm) k=((U e).k= .int .u8∧k (.s l)):=by
 simp only[cvA]
 congr 1
 apply propext;constructor
 ·rintro⟨l',e1,hk⟩
  have:l=l' :=by
   have inj:∀(x y:List UInt8),x.map aI=y.map aI→x=y:=by
    intro x
    induction x with
    |nil=>simp
    |cons b r ih=>
     intro y e;cases y with
     |nil=>grind
     |cons b' r' =>
      simp only[List.map_cons,List.cons.injEq,aI,AV.v.injEq,Value.int.injEq,true_and,Int.natCast_inj]at e
      grind [UInt8.toNat_inj]
   exact inj _ _ e1
  rw[this];exact hk
 grind
theorem u8m(k:TK)(X:Prop):(match k with|.int .u8=>X|_=>False)=(k= .int .u8∧X):=by grind
attribute [go_sem] aan
@[go_sem↓] theorem S5(s e)(x):bh P U ρ h ⟨d,.convert s e x,t,p,a,g⟩ Q=aE (ev ρ x) fun y=>cvA U (U s).k (U e).k y (atH Q h):=by
 simp only[bh,pv,bT]
 congr 1
 funext y
 generalize (U s).k=ks;generalize (U e).k=ke;cases ks<;>cases ke<;>cases y<;>(first|rfl|(rename_i u;cases u<;>rfl)|skip)
 ·simp only[cvA]
  exact u8m _ _
 ·simp only[cvA]
  exact u8m _ _
end
attribute [go_sem] true_and and_true List.length_cons List.length_nil List.drop_succ_cons List.drop_zero List.drop_nil List.take_succ_cons List.take_zero List.take_nil List.append_nil List.cons_append List.nil_append List.map_cons List.map_nil ne_eq not_false_eq_true reduceCtorEq Nat.zero_add Nat.add_zero
section
variable {P : Program} {U : TypeId → TI} {n : Nat} {ρ : Env} {h : Heap}
variable {d : Option Tmp} {t : TypeId} {p : String} {a : Array Edge} {g : Option (Nat × Bool)} {Q : AV → Heap → Prop} {k : AV → Prop}
theorem Vu(x):TK.agg (.int x)=false:=(rfl)
theorem oL(x y):TK.agg (.map x y)=false:=(rfl)
theorem Tu:TK.agg .bool=false:=(rfl)
theorem Vw:TK.agg .str=false:=(rfl)
theorem Sr(x):TK.agg (.slice x)=false:=(rfl)
theorem Ss(x):TK.agg (.strct x)=true:=(rfl)
theorem Vv(x):TK.agg (.ptr x)=false:=(rfl)
theorem Tv(x):TK.agg (.cplx x)=false:=(rfl)
theorem Sz(cs):AV.cells (.agg cs)=cs:=(rfl)
theorem VG(x):AV.cells (.v x)= [.v x]:=(rfl)
theorem VF(x):AV.cells (.s x)= [.s x]:=(rfl)
theorem TH(x)(q):AV.cells (.sl x q)= [.sl x q]:=(rfl)
theorem SA(i o):AV.cells (.ptr i o)= [.ptr i o]:=(rfl)
theorem SS(cs):bC (.agg cs)=true:=(rfl)
theorem V9(x):bC (.v x)=false:=(rfl)
theorem V8(x):bC (.s x)=false:=(rfl)
theorem Uu(x)(q):bC (.sl x q)=false:=(rfl)
theorem V4(cs)(m):fit (.agg cs) m=(cs.length=m):=(rfl)
attribute [go_sem] Vu oL Tu Vw Sr Ss Vv Tv Sz VG VF TH SA SS V9 V8 Uu V4
@[go_sem] theorem V5(x)(i)(m):fit (.v (.int x i)) m=(m=1):=by simp[fit,Value.oneCell']
@[go_sem] theorem Ui(i)(m):fit (.b i) m=(m=1):=by simp[fit,Value.oneCell']
theorem Uj(x)(i j)(m):fit (.v (.complex x i j)) m=(m=1):=by simp[fit,Value.oneCell']
theorem aat(l)(m):fit (.s l) m=(m=1):=(rfl)
theorem W7(l)(q)(m):fit (.sl l q) m=(m=1):=(rfl)
theorem V6(i o)(m):fit (.ptr i o) m=(m=1):=(rfl)
theorem Uk(m):fits m []=True:=(rfl)
theorem SP(m)(y)(r):fits m (y::r)=(fit y m∧fits m r):=(rfl)
attribute [go_sem] Uj aat W7 V6 Uk SP
theorem DK(cs)(off)(i):iB cs off i k=Br i.k.agg (off+i.sz≤cs.length∧k (.agg ((cs.drop off).take i.sz))) (aE cs[off]? k):=by
 unfold iB;cases i.k.agg with
 |true=>simp[Br]
 |false=>grind [Br,aE]
theorem Kf(y)(off)(i):atA y off i k=if off=0∧y.cells.length=i.sz∧bC y=i.k.agg then k y else iB y.cells off i k:=(rfl)
def E3(U:TypeId→TI)(f:Nat)(y:AV)(k:AV→Prop)(tk:TK):Prop:=match tk,y with
 |.strct fs,.agg cs=>aE fs[f]? fun q=>(U q.2).sz≠0∧(U q.2).k≠ .other∧iB cs q.1 (U q.2) k
 |_,_=>False
theorem SO(f)(cs)(fs):E3 U f (.agg cs) k (.strct fs)=aE fs[f]? fun q=>(U q.2).sz≠0∧(U q.2).k≠ .other∧iB cs q.1 (U q.2) k:=(rfl)
attribute [go_sem↓] DK Kf SO
theorem Wk(ty)(x)(f):bh P U ρ h ⟨d,.field ty x f,t,p,a,g⟩ Q=aE (ev ρ x) fun y=>atK (U ty).k (E3 U f y (atH Q h)):=by
 simp only[bh,pv,bT,atK]
 congr 1
 funext y
 cases (U ty).k<;>cases y<;>simp only[E3]
 rename_i fs cs
 cases fs[f]? <;>rfl
def My(y:AV)(i:Nat)(k:AV→Prop):Prop:=match y with
 |.tup vs=>aE vs[i]? k
 |_=>False
@[congr] theorem RW{y y'}{i}(e:y=y'):My y i k=My y' i k:=by rw[e]
theorem Wx(vs)(i):My (.tup vs) i k=aE vs[i]? k:=(rfl)
attribute [go_sem↓] Wk Wx
theorem S6(x)(i):bh P U ρ h ⟨d,.extract x i,t,p,a,g⟩ Q=aE (ev ρ x) fun y=>My y i (atH Q h):=by
 simp only[bh,pv,bT]
 grind [My,aE,atH]
def HD(tk:TK)(y z:AV)(k:AV→Prop):Prop:=match tk,y,z with
 |.str,.s l,.v (.int _ n)=>M3 l n k
 |_,_,_=>False
@[congr] theorem PE{tk tk'}{y y' z z'}(e0:tk=tk')(e1:y=y')(e2:z=z'):HD tk y z k=HD tk' y' z' k:=by grind
theorem U1(l)(x)(m):HD .str (.s l) (.v (.int x m)) k=M3 l m k:=(rfl)
attribute [go_sem↓] S6 U1
theorem Wl(ty)(x i):bh P U ρ h ⟨d,.index ty x i,t,p,a,g⟩ Q=aE (ev ρ x) fun y=>aE (ev ρ i) fun z=>HD (U ty).k y z (atH Q h):=by
 simp only[bh,pv,bT]
 congr 1
def xN(U:TypeId→TI)(f:Nat)(y:AV)(k:AV→Prop)(tk:TK):Prop:=match tk with
 |.strct fs=>aE fs[f]? fun q=>(U q.2).sz≠0∧match y with
  |.ptr id o=>k (.ptr id (o+q.1))
  |.pe z o=>k (.pe z (o+q.1))
  |_=>False
 |_=>False
theorem E2(f id o)(fs):xN U f (.ptr id o) k (.strct fs)=aE fs[f]? fun q=>(U q.2).sz≠0∧k (.ptr id (o+q.1)):=(rfl)
theorem Ip(f o)(z)(fs):xN U f (.pe z o) k (.strct fs)=aE fs[f]? fun q=>(U q.2).sz≠0∧k (.pe z (o+q.1)):=(rfl)
attribute [go_sem↓] Wl E2 Ip
theorem Pt(ty)(x)(f):bh P U ρ h ⟨d,.fieldAddr ty x f,t,p,a,g⟩ Q=aE (ev ρ x) fun y=>atK (U ty).k (xN U f y (atH Q h)):=by
 simp only[bh,pv,bT,atK]
 congr 1
 funext y
 cases (U ty).k<;>simp only[xN]
 rename_i fs
 cases fs[f]? with
 |none=>rfl
 |some q=>rfl
def oW(U:TypeId→TI)(y z:AV)(k:AV→Prop)(tk:TK):Prop:=match tk,y,z with
 |.slice e,.sl xs _,.v (.int _ n)=>(U e).sz≠0∧fP xs n (U e).sz k
 |.slice e,.oa id off len,.v (.int _ n)=>(U e).sz≠0∧0≤n∧n<len∧k (.ptr id (off+n.toNat*(U e).sz))
 |.arr len e,.ptr id off,.v (.int _ n)=>(U e).sz≠0∧0≤n∧n<len∧k (.ptr id (off+n.toNat*(U e).sz))
 |.slice e,.ob id off len _ sz,.v (.int _ n)=>(U e).sz≠0∧sz=(U e).sz∧0≤n∧n<len∧k (.ptr id (off+n.toNat*sz))
 |_,_,_=>False
theorem AG(id off len cap sz)(x)(m)(e):oW U (.ob id off len cap sz) (.v (.int x m)) k (.slice e)=((U e).sz≠0∧sz=(U e).sz∧0≤m∧m<len∧k (.ptr id (off+m.toNat*sz))):=(rfl)
theorem uC(xs)(q)(x)(m)(e):oW U (.sl xs q) (.v (.int x m)) k (.slice e)=((U e).sz≠0∧fP xs m (U e).sz k):=(rfl)
theorem AF(id off len)(x)(m)(e):oW U (.oa id off len) (.v (.int x m)) k (.slice e)=((U e).sz≠0∧0≤m∧m<len∧k (.ptr id (off+m.toNat*(U e).sz))):=(rfl)
attribute [go_sem↓] Pt AG uC AF
theorem Pu(ty)(x i):bh P U ρ h ⟨d,.indexAddr ty x i,t,p,a,g⟩ Q=aE (ev ρ x) fun y=>aE (ev ρ i) fun z=>atK (U ty).k (oW U y z (atH Q h)):=by
 simp only[bh,pv,bT,atK]
 congr 1
def qb(b:Blk)(f:List AV→TypeId→Prop):Prop:=match b with
 |.obj cs t=>f cs t
 |_=>False
@[congr] theorem Rp{b b'}{f}(e:b=b'):qb b f=qb b' f:=by rw[e]
theorem B0(cs)(t)(f):qb (.obj cs t) f=f cs t:=(rfl)
def nq(U:TypeId→TI)(h:Heap)(ty:TypeId)(y:AV)(k:AV→Prop):Prop:=match y with
 |.ptr id off=>aE (h id) fun b=>qb b fun cs _=>iB cs off (U ty) k
 |.pe z off=>atA z off (U ty) k
 |_=>False
@[congr] theorem Pn{ty}{y y'}(e:y=y'):nq U h ty y k=nq U h ty y' k:=by rw[e]
theorem I4(ty)(id off):nq U h ty (.ptr id off) k=aE (h id) fun b=>qb b fun cs _=>iB cs off (U ty) k:=(rfl)
theorem Ln(ty)(z)(off):nq U h ty (.pe z off) k=atA z off (U ty) k:=(rfl)
attribute [go_sem↓] Pu B0 I4 Ln
theorem Xi(ty)(x):bh P U ρ h ⟨d,.load ty x,t,p,a,g⟩ Q=((U ty).sz≠0∧(U ty).k≠ .other∧aE (ev ρ x) fun y=>nq U h ty y (atH Q h)):=by
 simp only[bh,pv,bT]
 congr 1
 congr 1
 congr 1
 funext y
 cases y with
 |ptr id off=>simp only[nq];exact ag2
 |_=>rfl
def Df(y:AV)(f:Int→Prop):Prop:=match y with
 |.v (.int _ m)=>f m
 |_=>False
@[congr] theorem Q4{y y'}{f}(e:y=y'):Df y f=Df y' f:=by rw[e]
theorem ni(x)(m)(f):Df (.v (.int x m)) f=f m:=(rfl)
theorem mz(m)(f):dZ ρ none m f=f m:=(rfl)
attribute [go_sem↓] Xi ni mz
theorem fo(x)(m)(f):dZ ρ (some x) m f=aE (ev ρ x) fun y=>Df y f:=by
 simp only[dZ,bT]
 congr 1
def gD(U:TypeId→TI)(ρ:Env)(y:AV)(lo hi mx:Option Operand)(k:AV→Prop)(tk:TK):Prop:=match y with
 |.s l=>tk= .str∧mx=none∧dZ ρ lo 0 fun a=>dZ ρ hi l.length fun b=>0≤a∧a≤b∧b≤l.length∧k (.s (oN l a b lo.isSome hi.isSome))
 |.sl xs p=>match tk with
  |.slice e=>(U e).sz≠0∧(lo.isSome=true→∀z∈xs,z.cells.length=(U e).sz)∧match mx with
   |none=>dZ ρ lo 0 fun a=>dZ ρ hi xs.length fun b=>0≤a∧a≤b∧b≤xs.length∧k (.sl (oN xs a b lo.isSome hi.isSome) (xB xs p lo.isSome hi.isSome))
   |some m=>hi.isSome=true∧dZ ρ lo 0 fun a=>dZ ρ hi xs.length fun b=>dZ ρ (some m) 0 fun c=>0≤a∧a≤b∧b=c∧c≤xs.length∧k (.sl (oN xs a b lo.isSome true) .full)
  |_=>False
 |.oa id off len=>match tk with
  |.slice e=>(U e).sz≠0∧(lo.isSome=true→(U e).sz=1)∧mx=none∧dZ ρ lo 0 fun a=>dZ ρ hi len fun b=>0≤a∧a≤b∧b≤len∧k (.oa id (off+a.toNat*(U e).sz) (b.toNat - a.toNat))
  |_=>False
 |.ob id off len cap sz=>match tk with
  |.slice e=>(U e).sz≠0∧sz=(U e).sz∧match mx with
   |none=>dZ ρ lo 0 fun a=>dZ ρ hi len fun b=>0≤a∧a≤b∧b≤cap∧k (.ob id (off+a.toNat*sz) (b.toNat - a.toNat) (cap - a.toNat) sz)
   |some m=>hi.isSome=true∧dZ ρ lo 0 fun a=>dZ ρ hi len fun b=>dZ ρ (some m) 0 fun c=>0≤a∧a≤b∧b≤c∧c≤cap∧k (.ob id (off+a.toNat*sz) (b.toNat - a.toNat) (c.toNat - a.toNat) sz)
  |_=>False
 |_=>False
theorem A8(id off len cap sz)(lo hi)(e):gD U ρ (.ob id off len cap sz) lo hi none k (.slice e)=((U e).sz≠0∧sz=(U e).sz∧dZ ρ lo 0 fun a=>dZ ρ hi len fun b=>0≤a∧a≤b∧b≤cap∧k (.ob id (off+a.toNat*sz) (b.toNat - a.toNat) (cap - a.toNat) sz)):=(rfl)
attribute [go_sem↓] fo A8
@[go_sem↓] theorem U0(l)(lo hi):gD U ρ (.s l) lo hi none k .str=dZ ρ lo 0 fun a=>dZ ρ hi l.length fun b=>0≤a∧a≤b∧b≤l.length∧k (.s (oN l a b lo.isSome hi.isSome)):=by simp[gD]
@[go_sem↓] theorem nH(xs)(q)(hi)(e):gD U ρ (.sl xs q) none hi none k (.slice e)=((U e).sz≠0∧dZ ρ hi xs.length fun b=>0≤b∧b≤xs.length∧k (.sl (oN xs 0 b false hi.isSome) (xB xs q false hi.isSome))):=by simp[gD,dZ]
@[go_sem↓] theorem qT(xs)(q)(lo)(hi)(e):gD U ρ (.sl xs q) (some lo) hi none k (.slice e)=((U e).sz≠0∧Sized (U e).sz xs∧dZ ρ (some lo) 0 fun a=>dZ ρ hi xs.length fun b=>0≤a∧a≤b∧b≤xs.length∧k (.sl (oN xs a b true hi.isSome) (xB xs q true hi.isSome))):=by simp[gD,Sized]
theorem rE(id off len)(lo hi)(e):gD U ρ (.oa id off len) lo hi none k (.slice e)=((U e).sz≠0∧(lo.isSome=true→(U e).sz=1)∧dZ ρ lo 0 fun a=>dZ ρ hi len fun b=>0≤a∧a≤b∧b≤len∧k (.oa id (off+a.toNat*(U e).sz) (b.toNat - a.toNat))):=by simp[gD]
theorem mb{α:Type}(xs:List α)(a b):oN xs a b true false=xs.drop a.toNat:=(rfl)
theorem sR{α:Type}(xs:List α)(a b):oN xs a b false true=xs.take b.toNat:=(rfl)
theorem Ns{α:Type}(xs:List α)(a b):oN xs a b true true=(xs.drop a.toNat).take (b.toNat - a.toNat):=(rfl)
theorem VJ(xs)(a b):xB xs .no a b= .no:=by cases xs<;>cases a<;>cases b<;>rfl
theorem SD(xs):xB xs .full true false= .full:=by cases xs<;>rfl
attribute [go_sem↓] rE
attribute [go_sem] mb sR Ns VJ SD
@[go_sem↓] theorem Wm(ty)(x)(lo hi mx):bh P U ρ h ⟨d,.slice ty x lo hi mx,t,p,a,g⟩ Q=aE (ev ρ x) fun y=>atK (U ty).k (gD U ρ y lo hi mx (atH Q h)):=by
 simp only[bh,pv,bT,atK]
 congr 1
end
section
variable {P : Program} {U : TypeId → TI} {n : Nat} {ρ : Env} {h : Heap}
variable {d : Option Tmp} {t : TypeId} {p : String} {a : Array Edge} {g : Option (Nat × Bool)} {Q : AV → Heap → Prop} {k : AV → Prop}
def J3(h:Heap)(b:Blk)(Q:AV→Heap→Prop):Prop:=∀id,h id=none→Q (.ptr id 0) (upd h id (some b))
def WB(h:Heap)(xs:List AV)(b:Blk)(Q:AV→Heap→Prop):Prop:=∀id,h id=none→Q (.sl xs (.own id)) (upd h id (some b))
def oc(U:TypeId→TI)(h:Heap)(xs ys:List AV)(e:TypeId)(Q:AV→Heap→Prop):Prop:=
 (∀id,h id=none→Q (.sl (xs++ys) (.own id)) (upd h id (some (.spare (xs.length+ys.length) (U e).sz))))∨
  ((U e).sz=1∧fit (U e).zero 1∧bC (U e).zero=false∧(∀z∈xs++ys,bC z=false)∧∀id m,h id=none→Q (.oa id 0 (xs.length+ys.length)) (upd h id (some (.obj (xs++ys++List.replicate m (U e).zero) e))))∨
  (fit (U e).zero (U e).sz∧j9 h (au xs++au ys) (xs.length+ys.length) (U e).sz e Q)
@[congr] theorem OU{h h'}{xs xs' ys ys'}{e}(e0:h=h')(e1:xs=xs')(e2:ys=ys'):oc U h xs ys e Q=oc U h' xs' ys' e Q:=by grind
theorem oc.own{xs ys}{e}(hk:WB h (xs++ys) (.spare (xs.length+ys.length) (U e).sz) Q):oc U h xs ys e Q:=.inl hk
theorem oc.oa{xs ys}{e}(h1:(U e).sz=1)(h2:fit (U e).zero 1)(h3:bC (U e).zero=false)(h4:∀z∈xs++ys,bC z=false)
  (hk:∀id m,h id=none→Q (.oa id 0 (xs.length+ys.length)) (upd h id (some (.obj (xs++ys++List.replicate m (U e).zero) e)))):oc U h xs ys e Q:=.inr (.inl ⟨h1,h2,h3,h4,hk⟩)
theorem oc.ob{xs ys}{e}(h1:fit (U e).zero (U e).sz)(hk:j9 h (au xs++au ys) (xs.length+ys.length) (U e).sz e Q):oc U h xs ys e Q:=.inr (.inr ⟨h1,hk⟩)
def rV(U:TypeId→TI)(h:Heap)(xs ys:List AV)(e:TypeId)(Q:AV→Heap→Prop):Prop:=(ys= []→Q (.sl xs .full) h)∧(ys≠ []→oc U h xs ys e Q)
@[congr] theorem MX{h h'}{xs xs' ys ys'}{e}(e0:h=h')(e1:xs=xs')(e2:ys=ys'):rV U h xs ys e Q=rV U h' xs' ys' e Q:=by grind
theorem OT(xs)(y)(r)(e):rV U h xs (y::r) e Q=oc U h xs (y::r) e Q:=by simp[rV]
theorem gp{α:Type}(f:Nat→α)(i)(x:α):upd f i x i=x:=ah f i x
theorem ak{α:Type}(f:Nat→α)(i j)(x:α)(e:¬j=i):upd f i x j=f j:=ag f x e
theorem nK{α:Type}(f:Nat→α)(i)(x y:α):upd (upd f i x) i y=upd f i y:=by grind [upd]
def qE:List (Nat×Operand)→Nat→Bool
 | [],_=>true
 |(i,_)::r,k=>i==k && qE r (k+1)
attribute [go_sem↓] OT
attribute [go_sem] gp ak nK
theorem AH:∀(l:List (Nat×Operand)) (k:Nat),qE l k=true↔l.map (·.1)=List.range' k l.length
 | [],k=>by simp[qE]
 |(i,x)::r,k=>by simp[qE,AH r (k+1),List.range'_succ]
@[go_sem] theorem SR(k):qE [] k=true:=(rfl)
@[go_sem] theorem Q2(i)(x)(r)(k):(qE ((i,x)::r) k=true)=(i=k∧qE r (k+1)=true):=by simp[qE]
theorem IW(l)(m):(l.map (·.1)=List.range m)=(qE l 0=true∧l.length=m):=by
 apply propext;rw[AH,List.range_eq_range'];constructor
 ·intro e
  have:=congrArg List.length e;simp at this;exact⟨acL,this⟩
 grind
def bsK(U:TypeId→TI)(ρ:Env)(len:Nat)(parts:List (Nat×Operand))(k:AV→Prop)(tk:TK):Prop:=match tk with
 |.slice e=>(U e).sz≠0∧len*(U e).sz≤16777216∧(qE parts 0=true∧parts.length=len)∧aE (evs ρ (parts.map (·.2))) fun xs=>fits (U e).sz xs∧k (.sl xs .full)
 |_=>False
@[go_sem↓] theorem WS(len)(parts)(e):bsK U ρ len parts k (.slice e)=((U e).sz≠0∧len*(U e).sz≤16777216∧(qE parts 0=true∧parts.length=len)∧aE (evs ρ (parts.map (·.2))) fun xs=>fits (U e).sz xs∧k (.sl xs .full)):=(rfl)
theorem Oe(ty)(len)(parts):bh P U ρ h ⟨d,.buildSlice ty len parts.toArray,t,p,a,g⟩ Q=atK (U ty).k (bsK U ρ len parts (atH Q h)):=by
 simp only[bh,pv,atK];cases (U ty).k<;>simp only[bsK,gK,IW]
 rfl
def Qh(k:AV→Prop)(cs:List AV):Prop:=k (.agg cs)
theorem Vt(cs):Qh k cs=k (.agg cs):=(rfl)
def Gg(z:AV):Option (List AV):=match z with
 |.agg cs=>some cs
 |_=>none
theorem Sq(cs):Gg (.agg cs)=some cs:=(rfl)
def bK(U:TypeId→TI)(ρ:Env)(ty:TypeId)(parts:List (Nat×Operand))(k:AV→Prop)(tk:TK):Prop:=match tk with
 |.strct fs=>(U ty).sz≠0∧aE (Gg (U ty).zero) fun cs0=>withps U ρ fs parts cs0 (Qh k)
 |_=>False
theorem aab(ty)(parts)(fs):bK U ρ ty parts k (.strct fs)=((U ty).sz≠0∧aE (Gg (U ty).zero) fun cs0=>withps U ρ fs parts cs0 (Qh k)):=(rfl)
def bU(U:TypeId→TI)(ρ:Env)(ty:TypeId)(parts:List (Nat×Operand))(k:AV→Prop)(b:Bool):Prop:=match b with
 |true=>parts= []∧k (.agg [])
 |false=>atK (U ty).k (bK U ρ ty parts k)
theorem acw(ty)(parts):bU U ρ ty parts k true=(parts= []∧k (.agg [])):=(rfl)
theorem acv(ty)(parts):bU U ρ ty parts k false=atK (U ty).k (bK U ρ ty parts k):=(rfl)
theorem Uz:isUnit (.strct [])=true:=(rfl)
theorem Uy(f)(fs):isUnit (.strct (f::fs))=false:=(rfl)
theorem Ux(x):isUnit (.int x)=false:=(rfl)
theorem Uv:isUnit .bool=false:=(rfl)
theorem Q6:isUnit .str=false:=(rfl)
theorem SU(e):isUnit (.slice e)=false:=(rfl)
theorem Uw(x):isUnit (.cplx x)=false:=(rfl)
attribute [go_sem↓] Oe Vt aab acw acv
attribute [go_sem] Sq Uz Uy Ux Uv Q6 SU Uw
theorem LB(ty)(parts):(match (U ty).k with
  |.strct fs=>(U ty).sz≠0∧∃cs0,(U ty).zero= .agg cs0∧withps U ρ fs parts cs0 fun cs=>(atH Q h) (.agg cs)
  |_=>False)=atK (U ty).k (bK U ρ ty parts (atH Q h)):=by
 congr 1
 cases hz:(U ty).zero<;>simp[Gg,aE]
 rfl
theorem Wj(ty)(parts):bh P U ρ h ⟨d,.build ty parts.toArray,t,p,a,g⟩ Q=bU U ρ ty parts (atH Q h) (isUnit (U ty).k):=by
 simp only[bh,pv];cases isUnit (U ty).k
 ·simp only[bU,Bool.false_eq_true,if_false]
  exact LB ty parts
 rfl
@[congr] theorem MW{fs}{ps}{cs cs'}{k}(e:cs=cs'):withps U ρ fs ps cs k=withps U ρ fs ps cs' k:=by rw[e]
theorem R5(fs)(cs)(k):withps U ρ fs [] cs k=k cs:=(rfl)
attribute [go_sem↓] Wj
attribute [go_sem] R5
theorem PM(fs)(i)(x)(r)(cs)(k):
  withps U ρ fs ((i,x)::r) cs k=aE fs[i]? fun q=>(U q.2).sz≠0∧aE (ev ρ x) fun y=>fit y (U q.2).sz∧q.1+(U q.2).sz≤cs.length∧withps U ρ fs r (over cs q.1 y.cells) k:=by
 simp only[withps,bT];cases fs[i]? <;>rfl
theorem Wo(cs)(o)(xs):over cs o xs=cs.take o++xs++cs.drop (o+xs.length):=(rfl)
attribute [go_sem] PM Wo
section
variable {ty : TypeId} {y : AV}
end
def UH(f:FuncId)(k:AV→Prop)(ys:List AV):Prop:=k (.fn f ys)
@[go_sem↓] theorem We(f)(ys):UH f k ys=k (.fn f ys):=(rfl)
theorem Rn(f)(cap):bh P U ρ h ⟨d,.makeFunc (.func f) #[] cap.toArray,t,p,a,g⟩ Q=aE (evs ρ cap) (UH f (atH Q h)):=by simp only[bh,pv,gK];rfl
def fnA(y:AV)(f:FuncId→List AV→Prop):Prop:=match y with
 |.fn g cap=>f g cap
 |_=>False
@[congr] theorem SQ{y y'}{f}(e:y=y'):fnA y f=fnA y' f:=by rw[e]
theorem W8(g)(cap)(f):fnA (.fn g cap) f=f g cap:=(rfl)
attribute [go_sem↓] Rn W8
theorem Xf(q)(args)(ts):bh P U ρ h ⟨d,.call ⟨.value q,args.toArray,ts⟩,t,p,a,g⟩ Q=aE (ev ρ q) fun y=>fnA y fun f cap=>aE (evs ρ args) fun ys=>ai P f (ys++cap) h Q:=by
 simp only[bh,bT,gK]
 congr 1
def wA(y:AV)(k:AV→Prop)(tk:TK):Prop:=match tk,y with
 |.str,.s l=>k (.i l.length)
 |.slice _,.sl xs _=>k (.i xs.length)
 |.slice _,.oa _ _ len=>k (.i len)
 |.slice _,.ob _ _ len _ _=>k (.i len)
 |_,_=>False
def NY(k:AV→Prop)(b:Blk):Prop:=match b with
 |.mp m=>k (.i m.length)
 |_=>False
@[congr] theorem Rb{b b'}(e:b=b'):NY k b=NY k b' :=by rw[e]
def Rc(h:Heap)(y:AV)(k:AV→Prop)(tk:TK):Prop:=match tk,y with
 |.map _ _,.mp id=>aE (h id) (NY k)
 |tk,y=>wA y k tk
theorem UC(y):Rc h y k .str=wA y k .str:=(rfl)
theorem Re(y)(e):Rc h y k (.slice e)=wA y k (.slice e):=(rfl)
theorem Wb(i o l c s)(e):wA (.ob i o l c s) k (.slice e)=k (.i l):=(rfl)
theorem Xc(l):wA (.s l) k .str=k (.i l.length):=(rfl)
theorem Wc(xs)(q)(e):wA (.sl xs q) k (.slice e)=k (.i xs.length):=(rfl)
attribute [go_sem↓] Xf UC Re Wb Xc Wc
theorem aax(x)(ty):bh P U ρ h ⟨d,.call ⟨.builtin .len, #[x], #[ty]⟩,t,p,a,g⟩ Q=aE (ev ρ x) fun y=>atK (U ty).k (Rc h y (atH Q h)):=by
 simp only[bh,pv,pvB,bT,atK]
 congr 1
 funext y
 cases (U ty).k with
 |map a b=>
  cases y with
  |mp id=>
   show(match h id with
    |some (.mp m)=>Q (.i m.length) h
    |_=>False)=aE (h id) (NY (atH Q h))
   exact ag2
  |_=>rfl
 |_=>cases y<;>rfl
def TB(y:AV)(k:AV→Prop)(tk:TK):Prop:=match tk,y with
 |.slice _,.sl xs .full=>k (.i xs.length)
 |.slice _,.ob _ _ _ cap _=>k (.i cap)
 |_,_=>False
theorem VE(i o l c s)(e):TB (.ob i o l c s) k (.slice e)=k (.i c):=(rfl)
attribute [go_sem↓] aax VE
theorem aaw(x)(ty):bh P U ρ h ⟨d,.call ⟨.builtin .cap, #[x], #[ty]⟩,t,p,a,g⟩ Q=aE (ev ρ x) fun y=>atK (U ty).k (TB y (atH Q h)):=by
 simp only[bh,pv,pvB,bT,atK]
 congr 1
@[congr] theorem Rj{ys ys'}(e:ys=ys'):Dv ys k=Dv ys' k:=by rw[e]
@[congr] theorem Rg{ys ys'}(e:ys=ys'):zI ys k=zI ys' k:=by rw[e]
attribute [go_sem↓] aaw
@[go_sem] theorem UG(x)(i j):Dv [.v (.int x i),.v (.int x j)] k=k (.v (.int x (if j<i then j else i))):=by simp[Dv]
theorem UE(x)(i j):zI [.v (.int x i),.v (.int x j)] k=k (.v (.int x (if i<j then j else i))):=by simp[zI]
@[congr] theorem Py{ys ys'}(e:ys=ys'):yW ys k=yW ys' k:=by rw[e]
@[congr] theorem Pj{ys ys'}(e:ys=ys'):ya ys k=ya ys' k:=by rw[e]
@[congr] theorem Pc{ys ys'}(e:ys=ys'):xA ys k=xA ys' k:=by rw[e]
theorem UT(x)(i j):yW [.v (.complex x i j)] k=k (.v (.float x i)):=(rfl)
theorem Ur(x)(i j):ya [.v (.complex x i j)] k=k (.v (.float x j)):=(rfl)
theorem TL(x y)(i j):xA [.v (.float x i),.v (.float y j)] k=(x=y∧k (.v (.complex x i j))):=(rfl)
theorem Fy{x y}{i j}{r}(h:∀(P:Program) (ts:Array TypeId) (ty:TypeId) (w:World),(Builtin.max_ ts ty #[.float x i,.float y j]).run P w= .ok r w)(k):zI [.v (.float x i),.v (.float y j)] k=k (.v r):=propext ⟨fun⟨r',h',hk⟩=>by have e:=(h default #[] 0 default).symm.trans (h' default #[] 0 default);cases e;exact hk,fun hk=>⟨r,h,hk⟩⟩
attribute [go_sem] UE TL
attribute [go_sem↓] UT Ur
@[go_sem↓] theorem Xl(args)(ts):bh P U ρ h ⟨d,.call ⟨.builtin .real,args.toArray,ts⟩,t,p,a,g⟩ Q=aE (evs ρ args) fun ys=>yW ys (atH Q h):=by simp only[bh,pv,pvB,gK];rfl
@[go_sem↓] theorem Xh(args)(ts):bh P U ρ h ⟨d,.call ⟨.builtin .imag,args.toArray,ts⟩,t,p,a,g⟩ Q=aE (evs ρ args) fun ys=>ya ys (atH Q h):=by simp only[bh,pv,pvB,gK];rfl
@[go_sem↓] theorem S4(args)(ts):bh P U ρ h ⟨d,.call ⟨.builtin .complex,args.toArray,ts⟩,t,p,a,g⟩ Q=aE (evs ρ args) fun ys=>xA ys (atH Q h):=by simp only[bh,pv,pvB,gK];rfl
@[go_sem↓] theorem aaz(args)(ts):bh P U ρ h ⟨d,.call ⟨.builtin .min,args.toArray,ts⟩,t,p,a,g⟩ Q=aE (evs ρ args) fun ys=>Dv ys (atH Q h):=by simp only[bh,pv,pvB,gK];rfl
theorem aay(args)(ts):bh P U ρ h ⟨d,.call ⟨.builtin .max,args.toArray,ts⟩,t,p,a,g⟩ Q=aE (evs ρ args) fun ys=>zI ys (atH Q h):=by simp only[bh,pv,pvB,gK];rfl
@[congr] theorem RM{e}{y y'}{f}(h1:y=y'):gX U e h y f=gX U e h y' f:=by rw[h1]
theorem Wt(e)(ys)(q)(f):gX U e h (.sl ys q) f=f ys:=(rfl)
theorem Mk(e)(l)(f):gX U e h (.s l) f=((U e).k= .int .u8∧(U e).sz=1∧f (l.map aI)):=(rfl)
def apK(U:TypeId→TI)(h:Heap)(x y:AV)(Q:AV→Heap→Prop)(tk:TK):Prop:=match tk,x with
 |.slice e,.sl xs .full=>(U e).sz≠0∧(U e).bytes≠0∧gX U e h y fun ys=>Sized (U e).sz xs∧Sized (U e).sz ys∧(xs.length+ys.length)*(U e).bytes≤140737488355328∧
   rV U h xs ys e Q
 |.slice e,.sl xs (.own id)=>(U e).sz≠0∧(U e).bytes≠0∧gX U e h y fun ys=>Sized (U e).sz xs∧Sized (U e).sz ys∧(xs.length+ys.length)*(U e).bytes≤140737488355328∧
   h id=some (.spare xs.length (U e).sz)∧Q (.sl (xs++ys) (.own id)) (upd h id (some (.spare (xs.length+ys.length) (U e).sz)))
 |.slice e,.oa id off len=>(U e).sz≠0∧(U e).bytes≠0∧(U e).sz=1∧gX U e h y fun ys=>Sized 1 ys∧(∀z∈ys,bC z=false)∧(len+ys.length)*(U e).bytes≤140737488355328∧aE (h id) fun b=>qb b fun cs t=>
   off+len≤cs.length∧(∀z∈(cs.drop off).take len,bC z=false)∧fit (U e).zero 1∧bC (U e).zero=false∧
     (off+(len+ys.length)≤cs.length→Q (.oa id off (len+ys.length)) (upd h id (some (.obj (over cs (off+len) ys) t))))∧
     (∀id' m,h id' =none→Q (.oa id' 0 (len+ys.length)) (upd h id' (some (.obj ((cs.drop off).take len++ys++List.replicate m (U e).zero) e))))
 |.slice e,.ob id off len cap sz=>(U e).sz≠0∧(U e).bytes≠0∧sz=(U e).sz∧gX U e h y fun ys=>Sized (U e).sz ys∧(len+ys.length)*(U e).bytes≤140737488355328∧aE (h id) fun b=>qb b fun cs t=>
   off+len*(U e).sz≤cs.length∧fit (U e).zero (U e).sz∧
     (len+ys.length≤cap→Q (.ob id off (len+ys.length) cap (U e).sz) (upd h id (some (.obj (over cs (off+len*(U e).sz) (au ys)) t))))∧
     (cap<len+ys.length→j9 h ((cs.drop off).take (len*(U e).sz)++au ys) (len+ys.length) (U e).sz e Q)
 |_,_=>False
theorem qg(xs)(y)(e):apK U h (.sl xs .full) y Q (.slice e)=((U e).sz≠0∧(U e).bytes≠0∧gX U e h y fun ys=>Sized (U e).sz xs∧Sized (U e).sz ys∧(xs.length+ys.length)*(U e).bytes≤140737488355328∧
   rV U h xs ys e Q):=(rfl)
theorem BB(xs)(y)(id)(e):apK U h (.sl xs (.own id)) y Q (.slice e)=((U e).sz≠0∧(U e).bytes≠0∧gX U e h y fun ys=>Sized (U e).sz xs∧Sized (U e).sz ys∧(xs.length+ys.length)*(U e).bytes≤140737488355328∧
   h id=some (.spare xs.length (U e).sz)∧Q (.sl (xs++ys) (.own id)) (upd h id (some (.spare (xs.length+ys.length) (U e).sz)))):=(rfl)
attribute [go_sem↓] aay Wt Mk qg BB
theorem Eo(ts)(x y):qZ U h ts x y Q=atK (U ts).k (apK U h x y Q):=by
 unfold qZ atK;cases (U ts).k with
 |slice e=>
  cases x with
  |sl xs q=>
   cases q with
   |no=>
    simp only[apK];apply propext;constructor
    ·rintro⟨_,_,hk⟩
     obtain⟨ys,hh,_⟩:∃ys:List AV,(Sized (U e).sz xs∧Sized (U e).sz ys∧(xs.length+ys.length)*(U e).bytes≤140737488355328∧False)∧True:=by
      unfold gX at hk
      grind
     grind
    simp
   |full=>rfl
   |own id=>rfl
  |oa id off len=>
   refine congrArg (fun q=>(U e).sz≠0∧(U e).bytes≠0∧(U e).sz=1∧q) (congrArg (fun f=>gX U e h y f) (funext fun ys=>?_))
   exact ag2
  |ob id off len cap sz=>
   refine congrArg (fun q=>(U e).sz≠0∧(U e).bytes≠0∧sz=(U e).sz∧q) (congrArg (fun f=>gX U e h y f) (funext fun ys=>?_))
   exact ag2
  |_=>simp[apK]
 |_=>rfl
theorem St(e)(A B:Prop):apT A B (.slice e)=A:=(rfl)
theorem Vy(A B:Prop):apT A B .str=A:=(rfl)
theorem Vx(x)(A B:Prop):apT A B (.int x)=B:=(rfl)
def Ni(U:TypeId→TI)(h:Heap)(x y:AV)(Q:AV→Heap→Prop)(tk:TK):Prop:=match tk,x,y with
 |.slice e,.ob id off len cap sz,.v (.int _ n)=>(U e).sz≠0∧(U e).bytes≠0∧sz=(U e).sz∧0<n∧(len+n.toNat)*(U e).bytes≤140737488355328∧fit (U e).zero (U e).sz∧cap<len+n.toNat∧aE (h id) fun b=>qb b fun cs _=>off+len*(U e).sz≤cs.length∧j9 h ((cs.drop off).take (len*(U e).sz)++cJ (U e).zero n.toNat (U e).sz) (len+n.toNat) (U e).sz e Q
 |_,_,_=>False
theorem Vz(id off len cap sz)(x)(n)(e):Ni U h (.ob id off len cap sz) (.v (.int x n)) Q (.slice e)=((U e).sz≠0∧(U e).bytes≠0∧sz=(U e).sz∧0<n∧(len+n.toNat)*(U e).bytes≤140737488355328∧fit (U e).zero (U e).sz∧cap<len+n.toNat∧aE (h id) fun b=>qb b fun cs _=>off+len*(U e).sz≤cs.length∧j9 h ((cs.drop off).take (len*(U e).sz)++cJ (U e).zero n.toNat (U e).sz) (len+n.toNat) (U e).sz e Q):=(rfl)
attribute [go_sem↓] St Vy Vx Vz
theorem MH(ts)(x y):Ep U h ts x y Q=atK (U ts).k (Ni U h x y Q):=by
 unfold Ep atK;cases (U ts).k with
 |slice e=>
  cases x with
  |ob id off len cap sz=>
   cases y with
   |v u=>
    cases u with
    |int k n=>simp only[Ni];exact ag2
    |_=>rfl
   |_=>rfl
  |_=>rfl
 |_=>rfl
theorem UN(x y)(t1 t2):bh P U ρ h ⟨d,.call ⟨.builtin .append, #[x,y], #[t1,t2]⟩,t,p,a,g⟩ Q=aE (ev ρ x) fun u=>aE (ev ρ y) fun v=>atK (U t2).k (apT (atK (U t1).k (apK U h u v Q)) (atK (U t1).k (Ni U h u v Q))):=by simp[bh,bT,Eo,MH,atK]
def alU(U:TypeId→TI)(h:Heap)(ty:TypeId)(Q:AV→Heap→Prop)(b:Bool):Prop:=match b with
 |true=>J3 h (.obj [] ty) Q
 |false=>(U ty).sz≠0∧fit (U ty).zero (U ty).sz∧J3 h (.obj (U ty).zero.cells ty) Q
theorem aaa(ty):alU U h ty Q true=J3 h (.obj [] ty) Q:=(rfl)
theorem Z9(ty):alU U h ty Q false=((U ty).sz≠0∧fit (U ty).zero (U ty).sz∧J3 h (.obj (U ty).zero.cells ty) Q):=(rfl)
attribute [go_sem↓] UN aaa Z9
@[go_sem↓] theorem Wh(ty):bh P U ρ h ⟨d,.alloc ty,t,p,a,g⟩ Q=alU U h ty Q (isUnit (U ty).k):=by simp only[bh];cases isUnit (U ty).k<;>rfl
theorem aav(ty)(x):bh P U ρ h ⟨d,.box ty x,t,p,a,g⟩ Q=((U ty).sz≠0∧aE (ev ρ x) fun y=>fit y (U ty).sz∧J3 h (.obj y.cells ty) Q):=by simp only[bh,bT];rfl
def stA(U:TypeId→TI)(h:Heap)(ty:TypeId)(q y:AV)(Q:AV→Heap→Prop):Prop:=match q with
 |.ptr id off=>aE (h id) fun b=>qb b fun cs t' =>fit y (U ty).sz∧off+(U ty).sz≤cs.length∧Q (.v undef) (upd h id (some (.obj (over cs off y.cells) t')))
 |_=>False
@[congr] theorem Tb{ty}{q q' y y'}(e1:q=q')(e2:y=y'):stA U h ty q y Q=stA U h ty q' y' Q:=by grind
theorem Wu(ty)(id off)(y):stA U h ty (.ptr id off) y Q=aE (h id) fun b=>qb b fun cs t' =>fit y (U ty).sz∧off+(U ty).sz≤cs.length∧Q (.v undef) (upd h id (some (.obj (over cs off y.cells) t'))):=(rfl)
def utA(h:Heap)(u y:AV)(Q:AV→Heap→Prop):Prop:=y= .agg []∧match u with
 |.ptr .. =>Q (.v undef) h
 |_=>False
@[congr] theorem Tg{u u' y y'}(e1:u=u')(e2:y=y'):utA h u y Q=utA h u' y' Q:=by grind
attribute [go_sem↓] aav Wu
theorem XE(i o):utA h (.ptr i o) (.agg []) Q=Q (.v undef) h:=by simp[utA]
def stU(U:TypeId→TI)(ρ:Env)(h:Heap)(ty:TypeId)(q x:Operand)(Q:AV→Heap→Prop)(b:Bool):Prop:=match b with
 |true=>aE (ev ρ q) fun u=>aE (ev ρ x) fun y=>utA h u y Q
 |false=>(U ty).sz≠0∧aE (ev ρ q) fun u=>aE (ev ρ x) fun y=>stA U h ty u y Q
theorem aaE(ty)(q x):stU U ρ h ty q x Q true=aE (ev ρ q) fun u=>aE (ev ρ x) fun y=>utA h u y Q:=(rfl)
theorem aaD(ty)(q x):stU U ρ h ty q x Q false=((U ty).sz≠0∧aE (ev ρ q) fun u=>aE (ev ρ x) fun y=>stA U h ty u y Q):=(rfl)
attribute [go_sem↓] XE aaE aaD
theorem Wn(ty)(q x):bh P U ρ h ⟨d,.store ty q x,t,p,a,g⟩ Q=stU U ρ h ty q x Q (isUnit (U ty).k):=by
 simp only[bh,bT];cases isUnit (U ty).k
 case true=>rfl
 simp only[stU,Bool.false_eq_true,if_false]
 congr 1
 congr 1
 funext u
 congr 1
 funext y
 cases u<;>simp only[stA]
 rename_i id off
 exact ag2
def lV(xs:List AV)(h:Heap)(Q:AV→Heap→Prop):Prop:=∃y h',Weak (ax xs) y∧Sub h' h∧Q y h'
@[congr] theorem O3{xs xs'}{h h'}{Q}(e1:xs=xs')(e2:h=h'):lV xs h Q=lV xs' h' Q:=by grind
attribute [go_sem↓] Wn
@[go_sem↓] theorem Sx(rs):vq U rs Q .ret ρ h=sB ρ h U rs fun xs=>lV xs h Q:=by simp[vq,lV]
theorem No(rs):vq U rs Q .normal ρ h=sB ρ h U rs fun xs=>lV xs h Q:=by simp[vq,lV]
theorem UU(f):sB ρ h U [] f=f []:=(rfl)
attribute [go_sem↓] No UU
theorem UW(i)(r)(f):sB ρ h U (.tmp i::r) f=aE (lk ρ i) fun x=>sB ρ h U r fun xs=>f (x::xs):=by simp only[sB];cases lk ρ i<;>rfl
def CB(U:TypeId→TI)(h:Heap)(ty:TypeId)(y:AV)(k:AV→Prop):Prop:=match y with
 |.ptr id off=>aE (h id) fun b=>qb b fun cs _=>(U ty).sz≠0∧(U ty).k≠ .other∧iB cs off (U ty) k
 |_=>False
@[congr] theorem Pa{ty}{y y'}(e:y=y'):CB U h ty y k=CB U h ty y' k:=by rw[e]
theorem Sy(ty)(id off):CB U h ty (.ptr id off) k=aE (h id) fun b=>qb b fun cs _=>(U ty).sz≠0∧(U ty).k≠ .other∧iB cs off (U ty) k:=(rfl)
attribute [go_sem↓] UW Sy
theorem S8(i)(ty)(r)(f):sB ρ h U (.cell i ty::r) f=aE (lk ρ i) fun y=>CB U h ty y fun x=>sB ρ h U r fun xs=>f (x::xs):=by
 simp only[sB];cases lk ρ i with
 |none=>rfl
 |some y=>
  cases y<;>simp only[dj,CB]
  rename_i id off
  exact ag2
theorem lV.mk{xs}{h h'}{Q}(y)(hw:Weak (ax xs) y)(hs:Sub h' h)(hq:Q y h'):lV xs h Q:=⟨y,h',hw,hs,hq⟩
theorem lV.same{xs}{h h'}{Q}(hs:Sub h' h)(hq:Q (ax xs) h'):lV xs h Q:=⟨_,h',.refl _,hs,hq⟩
theorem Sub.refl(h):Sub h h:=fun _ _ e=>e
theorem Sub.trans{a b c}(h1:Sub a b)(h2:Sub b c):Sub a c:=fun i k e=>h2 i k (h1 i k e)
theorem Sub.new{a b}(hs:Sub a b){id}(hid:b id=none)(k):Sub a (Ab.upd b id k):=fun j l e=>by
 by_cases ej:j=id
 ·subst ej;rw[hs _ _ e]at hid;grind
 ·rw[ag _ _ ej];exact hs _ _ e
theorem Sub.none{a b}(hs:Sub a b){id}(hid:b id=none):a id=none:=by
 cases hh:a id with
 |none=>rfl
 |some k=>rw[hs _ _ hh]at hid;omega
attribute [go_sem↓] S8
theorem ai.body(hU:∀t,aO P U t)(hm:P.follows .mixedOrders=true){f}{fn}{c}{args}{h}{Q}(hf:P.funcs[f]? =some fn)(hb:fn.body=some c)
  (hn : (fn.name == "runtime.NumGoroutine") = false) (m) (hm' : fn.ntmps = m) (rs) (hr : fn.results.toList = rs) (hl : args.length ≤ m)
  (hk:(∀x∈args,wfA x)→bH P U m c (xK args) h (vq U rs Q)):ai P f args h Q:=by
 subst hm';subst hr
 exact ai.UQ hU hm hf hb hn hl hk
end
section
variable {P : Program} {U : TypeId → TI} {n : Nat} {ρ : Env} {h : Heap}
variable {d : Option Tmp} {t : TypeId} {p : String} {a : Array Edge} {g : Option (Nat × Bool)} {Q : AV → Heap → Prop} {k : AV → Prop}
def dsts(n:Nat):List Oper→Bool
 | []=>true
 |o::os=>eS n o.dst && dsts n os
theorem ng(l):dsts n l=l.all fun o=>eS n o.dst:=by induction l with
 |nil=>rfl
 |cons o os ih=>grind [dsts]
@[go_sem] theorem TV:(dsts n []=true)=True:=by simp[dsts]
theorem SG(o)(os):(dsts n (o::os)=true)=(eS n o.dst=true∧dsts n os=true):=by simp[dsts]
def Ck(ops:Array Oper):Prop:=yq ops=true
theorem Ck.of{ops}(h:yq ops=true):Ck ops:=h
def ER(k:AV→Prop)(x:AV)(_:Heap):Prop:=k x
theorem SC(x):ER k x h=k x:=(rfl)
def KDr(P:Program)(U:TypeId→TI)(n:Nat)(all os:List Oper)(h:Heap)(K:Env→Prop)(ρ:Env)(d:Option Tmp)(x:AV):Prop:=lT P U n all os (put ρ d x) h K
theorem WA(all os)(K)(x):KDr P U n all os h K ρ d x=lT P U n all os (put ρ d x) h K:=(rfl)
def atN(K:Exit→Env→Heap→Prop)(h:Heap)(ρ:Env):Prop:=K .normal ρ h
theorem WE(K):atN K h ρ=K .normal ρ h:=(rfl)
def J0(ops:Array Oper):Prop:=Lm ops=true
theorem J0.of{ops}(h:Lm ops=true):J0 ops:=h
attribute [go_sem] SG
attribute [go_sem↓] SC WA WE
attribute [go_sem] Bool.not_false Bool.not_true BT Option.isNone_none Option.isNone_some Bool.and_true Bool.true_and Bool.and_false Bool.false_and List.dropLast_singleton
theorem Fw(o o')(r):rQ (o::o' ::r)=rQ (o' ::r):=(rfl)
theorem zD(o o' :Oper)(r:List Oper):(o::o' ::r).dropLast=o::(o' ::r).dropLast:=(rfl)
theorem SV(o)(K):pT P U [o] h K ρ=bh P U ρ h o (fun X h' =>K (put ρ o.dst X) h'):=(rfl)
theorem Ra(o o')(r)(K):pT P U (o::o' ::r) h K ρ=pT P U (o' ::r) h K ρ:=(rfl)
def HM(l:List Oper)(k:List Oper→Prop):Prop:=k l
@[congr] theorem PL{l l'}{k}(e:l=l'):HM l k=HM l' k:=by rw[e]
theorem R4(o)(r)(k):HM (o::r) k=k (o::r):=(rfl)
attribute [go_sem] Fw zD R4
attribute [go_sem↓] SV Ra
section
variable (l : List Oper)
theorem RR:nZ []=true:=(rfl)
theorem Ei(o):nZ (o::l)=(!dL o.op && nZ l):=(rfl)
attribute [go_sem] RR Ei
end
section
variable (x y z : Operand) (ty ty' : TypeId)
theorem SK:dL (.move x)=false:=(rfl)
theorem Pf:dL (.assign x)=false:=(rfl)
theorem SL:dL (.pick x y z)=false:=(rfl)
theorem MV:dL (.nilCheck x)=false:=(rfl)
theorem QL(op):dL (.binOp op ty x y ty')=false:=(rfl)
theorem SM(op):dL (.unOp op ty x)=false:=(rfl)
theorem NA:dL (.convert ty ty' x)=false:=(rfl)
theorem NC(f):dL (.extract x f)=false:=(rfl)
theorem QN:dL (.index ty x y)=false:=(rfl)
theorem KE(f):dL (.fieldAddr ty x f)=false:=(rfl)
theorem KF:dL (.indexAddr ty x y)=false:=(rfl)
theorem SJ:dL (.load ty x)=false:=(rfl)
theorem QO(lo hi mx):dL (.slice ty x lo hi mx)=false:=(rfl)
theorem JY(m)(ps):dL (.buildSlice ty m ps)=false:=(rfl)
theorem QM(ps):dL (.build ty ps)=false:=(rfl)
theorem TW(aa)(ts):dL (.call ⟨.builtin .len,aa,ts⟩)=false:=(rfl)
theorem TX(aa)(ts):dL (.call ⟨.builtin .min,aa,ts⟩)=false:=(rfl)
theorem SH(aa)(ts):dL (.call ⟨.value x,aa,ts⟩)=true:=(rfl)
theorem Pe(aa)(ts):dL (.call ⟨.builtin .append,aa,ts⟩)=true:=(rfl)
theorem SI(aa)(ts):dL (.call ⟨.builtin .copy,aa,ts⟩)=true:=(rfl)
theorem QK:dL (.alloc ty)=true:=(rfl)
theorem QS:dL (.store ty x y)=true:=(rfl)
attribute [go_sem] SK Pf SL MV QL SM NA NC QN KE KF SJ QO JY QM TW TX SH Pe SI QK QS
end
def lU(P:Program)(U:TypeId→TI)(n:Nat)(l:List Oper)(ρ:Env)(h:Heap)(K:Exit→Env→Heap→Prop):Prop:=PK P U n l.toArray ρ h (K .normal)
theorem lU.quiet{l}{K}(hB:yq l.toArray=true)(hk:dsts n l=true∧lT P U n l l ρ h (atN K h)):lU P U n l ρ h K:=
 ⟨agM,.inl ⟨hB,hk.2⟩⟩
theorem lU.calls{l}{K}(hm)(os)(hs:Sub hm h)(hB:jX .any l.toArray none (.seq os) (Array.replicate l.toArray.size false)=true)(hl:os.length=l.toArray.size)
  (hk:dsts n l=true∧dK P U n l hm os ρ h (K .normal)):lU P U n l ρ h K:=
 ⟨agM,.inr (.inl ⟨hm,.seq os,_,hs,hB,hl,hk.2,fun _ _ h=>h⟩)⟩
def Qf(P:Program)(U:TypeId→TI)(n:Nat)(l:List Oper)(o2:List Nat)(K:Exit→Env→Heap→Prop)(ρ:Env)(h:Heap):Prop:=∃hm2,Sub hm2 h∧dK P U n l hm2 o2 ρ h (K .normal)
theorem lU.tree{l}{K}(hm)(t)(hs:Sub hm h)(hB:jX .any l.toArray none t (Array.replicate l.toArray.size false)=true)(hl:t.len=l.toArray.size)
  (hk:dsts n l=true∧lK P U n l hm t ρ h (K .normal)):lU P U n l ρ h K:=
 ⟨agM,.inr acL⟩
theorem lU.stage{l}{K}(hm)(o1 o2)(hs:Sub hm h)(hB:wW .any l.toArray o1 o2=true)
  (hk:dsts n l=true∧dK P U n l hm o1 ρ h (Qf P U n l o2 K)):lU P U n l ρ h K:=
 ⟨agM,.inr (.inr (.inl ⟨hm,o1,o2,hs,hB,hk.2⟩))⟩
theorem lU.late{l}{K}(hm)(o1 o2)(hs:Sub hm h)(hB:GP .any l.toArray o1 o2=true)
  (hk:dsts n l=true∧dK P U n l hm o1 ρ h (fun ρ h=>dK P U n l (fun _=>none) o2 ρ h (K .normal))):lU P U n l ρ h K:=
 ⟨agM,.inr (.inr (.inr (.inr ⟨hm,o1,o2,hs,hB,hk.2⟩)))⟩
def Gf(P:Program)(U:TypeId→TI)(l:List Oper)(K:Exit→Env→Heap→Prop)(ρ:Env)(h:Heap):Prop:=pT P U l h (K .normal) ρ
theorem Sl(o)(K):Gf P U [o] K ρ h=bh P U ρ h o (fun X h' =>K .normal (put ρ o.dst X) h'):=(rfl)
theorem P9(o o')(r)(K):Gf P U (o::o' ::r) K ρ h=Gf P U (o' ::r) K ρ h:=(rfl)
theorem lU.last{l}{K}(hm)(os)(hs:Sub hm h)(hz:Ew .any l.toArray os.length=true)(hg:(l.getLast?.map fun o=>o.guard.isNone)=some true)(hB:jX .any l.toArray (some os.length) (.seq os) (Array.replicate l.toArray.size false)=true)(hl:os.length+1=l.toArray.size)
  (hk:dsts n l=true∧dK P U n l hm os ρ h (Gf P U l K)):lU P U n l ρ h K:=
 ⟨agM,.inr (.inr (.inr (.inl ⟨hm,.seq os,hs,hz,hg,hB,hl,hk.2⟩)))⟩
def vn(P:Program)(U:TypeId→TI)(n:Nat)(l:List Oper)(ρ:Env)(h:Heap)(K:Exit→Env→Heap→Prop)(b:Bool)(e:Bool):Prop:=match b,e with
 |true,_=>J0 l.toArray∧dsts n l=true∧lT P U n l l.dropLast ρ h (pT P U l h (K .normal))
 |false,true=>Ck l.toArray∧dsts n l=true∧lT P U n l l ρ h (atN K h)
 |false,false=>lU P U n l ρ h K
@[congr] theorem OY{l}{K}{b b' e e'}(h1:b=b')(h2:e=e'):vn P U n l ρ h K b e=vn P U n l ρ h K b' e' :=by grind
theorem PV(l)(K)(e):vn P U n l ρ h K true e=(J0 l.toArray∧dsts n l=true∧HM l.dropLast fun l' =>lT P U n l l' ρ h (pT P U l h (K .normal))):=(rfl)
theorem OZ(l)(K):vn P U n l ρ h K false true=(Ck l.toArray∧dsts n l=true∧lT P U n l l ρ h (atN K h)):=(rfl)
theorem R7(l)(K):vn P U n l ρ h K false false=lU P U n l ρ h K:=(rfl)
def sD(l:List Oper):Bool:=rQ l && nZ l.dropLast
attribute [go_sem↓] Sl P9 PV OZ R7
theorem RQ(o):sD [o]=(BT o.op && o.guard.isNone):=by simp[sD,rQ,nZ]
theorem PD(o o')(r):sD (o::o' ::r)=(!dL o.op && sD (o' ::r)):=by grind [sD,Fw,zD,Ei,dL]
attribute [go_sem] RQ PD
theorem Xs(id)(l)(K):bH P U n (.region id l.toArray true) ρ h K=vn P U n l ρ h K (sD l) (nZ l):=by
 simp only[bH,if_true,sD];cases hb:(rQ l && nZ l.dropLast)with
 |true=>simp[if_true,Bool.and_eq_true,vn,J0,ng,and_assoc]
 |false=>
  cases he:nZ l with
  |true=>simp only[Bool.false_eq_true,if_false,Bool.and_eq_true,vn,Ck,ng,and_assoc,Bool.true_eq_false];rfl
  |false=>rfl
def rH(P:Program)(U:TypeId→TI)(n:Nat)(all:List Oper)(hm:Heap)(is:List Nat)(K:Env→Heap→Prop)(ρ:Env)(d:Option Tmp)(X:AV)(h:Heap):Prop:=dK P U n all hm is (put ρ d X) h K
theorem Vp(all)(hm)(is)(K)(d)(X):rH P U n all hm is K ρ d X h=dK P U n all hm is (put ρ d X) h K:=(rfl)
def P0(P:Program)(U:TypeId→TI)(n:Nat)(all:List Oper)(hm:Heap)(is:List Nat)(K:Env→Heap→Prop)(ρ:Env)(d:Option Tmp)(X:AV)(h:Heap):Prop:=Sub hm h∧dK P U n all hm is (put ρ d X) h K
theorem Vq(all)(hm)(is)(K)(d)(X):P0 P U n all hm is K ρ d X h=(Sub hm h∧dK P U n all hm is (put ρ d X) h K):=(rfl)
theorem Ts:Sub (fun _=>none) h=True:=eq_true fun _ _ e=>by cases e
theorem aau(all)(hm)(K):dK P U n all hm [] ρ h K=K ρ h:=(rfl)
def mD(P:Program)(U:TypeId→TI)(n:Nat)(all:List Oper)(hm:Heap)(is:List Nat)(K:Env→Heap→Prop)(ρ:Env)(h:Heap)(o:Oper)(e:Bool):Prop:=match e with
 |true=>bh P U ρ h o (P0 P U n all hm is K ρ o.dst)
 |false=>pv U ρ hm o.op fun X=>dK P U n all hm is (put ρ o.dst X) h K
@[congr] theorem Qc{all}{hm}{is}{K}{o}{e e'}(he:e=e'):mD P U n all hm is K ρ h o e=mD P U n all hm is K ρ h o e' :=by rw[he]
def ia(k:AV→Heap→Prop)(h:Heap)(x:AV)(_:Heap):Prop:=k x h
theorem SB(k)(h h')(x):ia k h x h' =k x h:=(rfl)
theorem So(all)(hm)(is)(K)(op):mD P U n all hm is K ρ h ⟨d,op,t,p,a,g⟩ true=bh P U ρ h ⟨d,op,t,p,a,g⟩ (P0 P U n all hm is K ρ d):=(rfl)
def notNil:Op→Bool
 |.binOp _ _ _ y _=> !FF y
 |_=>true
attribute [go_sem↓] Xs Vp Vq aau SB So
attribute [go_sem] Ts
theorem Ok{hm}{op}{k}(h1:dL op=false)(h2:notNil op=true):bh P U ρ hm ⟨d,op,t,p,a,g⟩ (ia k h)=pv U ρ hm op fun X=>k X h:=by
 cases op with
 |call c=>
  obtain⟨cal,args,ts⟩:=c;cases cal with
  |value q=>grind [dL]
  |builtin b=>cases b<;>first|rfl|grind [dL]
  |_=>rfl
 |binOp op ty x y ty' =>simp only[notNil,Bool.not_eq_true']at h2;simp only[bh,h2];rfl
 |alloc=>grind [dL]
 |box=>grind [dL]
 |store=>grind [dL]
 |makeSlice=>grind [dL]
 |makeMap=>grind [dL]
 |mapUpdate=>grind [dL]
 |_=>rfl
theorem cY{all}{hm}{is}{K}{op}(h1:dL op=false)(h2:notNil op=true):
  mD P U n all hm is K ρ h ⟨d,op,t,p,a,g⟩ false=bh P U ρ hm ⟨d,op,t,p,a,g⟩ (ia (rH P U n all hm is K ρ d) h):=by
 rw[Ok h1 h2];rfl
section
variable (all : List Oper) (hm : Heap) (is : List Nat) (K : Env → Heap → Prop) (x y z : Operand) (ty ty' : TypeId)
theorem Sn:mD P U n all hm is K ρ h ⟨d,.move x,t,p,a,g⟩ false=bh P U ρ hm ⟨d,.move x,t,p,a,g⟩ (ia (rH P U n all hm is K ρ d) h):=cY rfl rfl
theorem O2:mD P U n all hm is K ρ h ⟨d,.assign x,t,p,a,g⟩ false=bh P U ρ hm ⟨d,.assign x,t,p,a,g⟩ (ia (rH P U n all hm is K ρ d) h):=cY rfl rfl
theorem MT:mD P U n all hm is K ρ h ⟨d,.nilCheck x,t,p,a,g⟩ false=bh P U ρ hm ⟨d,.nilCheck x,t,p,a,g⟩ (ia (rH P U n all hm is K ρ d) h):=cY rfl rfl
theorem M8(f):mD P U n all hm is K ρ h ⟨d,.extract x f,t,p,a,g⟩ false=bh P U ρ hm ⟨d,.extract x f,t,p,a,g⟩ (ia (rH P U n all hm is K ρ d) h):=cY rfl rfl
theorem J4(f):mD P U n all hm is K ρ h ⟨d,.fieldAddr ty x f,t,p,a,g⟩ false=bh P U ρ hm ⟨d,.fieldAddr ty x f,t,p,a,g⟩ (ia (rH P U n all hm is K ρ d) h):=cY rfl rfl
theorem J5:mD P U n all hm is K ρ h ⟨d,.indexAddr ty x y,t,p,a,g⟩ false=bh P U ρ hm ⟨d,.indexAddr ty x y,t,p,a,g⟩ (ia (rH P U n all hm is K ρ d) h):=cY rfl rfl
theorem Sm:mD P U n all hm is K ρ h ⟨d,.load ty x,t,p,a,g⟩ false=bh P U ρ hm ⟨d,.load ty x,t,p,a,g⟩ (ia (rH P U n all hm is K ρ d) h):=cY rfl rfl
theorem Qd(lo hi mx):mD P U n all hm is K ρ h ⟨d,.slice ty x lo hi mx,t,p,a,g⟩ false=bh P U ρ hm ⟨d,.slice ty x lo hi mx,t,p,a,g⟩ (ia (rH P U n all hm is K ρ d) h):=cY rfl rfl
theorem JX(m)(ps):mD P U n all hm is K ρ h ⟨d,.buildSlice ty m ps,t,p,a,g⟩ false=bh P U ρ hm ⟨d,.buildSlice ty m ps,t,p,a,g⟩ (ia (rH P U n all hm is K ρ d) h):=cY rfl rfl
theorem Qb(ps):mD P U n all hm is K ρ h ⟨d,.build ty ps,t,p,a,g⟩ false=bh P U ρ hm ⟨d,.build ty ps,t,p,a,g⟩ (ia (rH P U n all hm is K ρ d) h):=cY rfl rfl
theorem Tp(aa)(ts):mD P U n all hm is K ρ h ⟨d,.call ⟨.builtin .len,aa,ts⟩,t,p,a,g⟩ false=bh P U ρ hm ⟨d,.call ⟨.builtin .len,aa,ts⟩,t,p,a,g⟩ (ia (rH P U n all hm is K ρ d) h):=cY rfl rfl
theorem Tq(aa)(ts):mD P U n all hm is K ρ h ⟨d,.call ⟨.builtin .min,aa,ts⟩,t,p,a,g⟩ false=bh P U ρ hm ⟨d,.call ⟨.builtin .min,aa,ts⟩,t,p,a,g⟩ (ia (rH P U n all hm is K ρ d) h):=cY rfl rfl
theorem Qa(op)(w):mD P U n all hm is K ρ h ⟨d,.binOp op ty x (.tmp w) ty',t,p,a,g⟩ false=bh P U ρ hm ⟨d,.binOp op ty x (.tmp w) ty',t,p,a,g⟩ (ia (rH P U n all hm is K ρ d) h):=cY rfl rfl
theorem M7(op)(ik)(im):mD P U n all hm is K ρ h ⟨d,.binOp op ty x (.const (.int ik im)) ty',t,p,a,g⟩ false=bh P U ρ hm ⟨d,.binOp op ty x (.const (.int ik im)) ty',t,p,a,g⟩ (ia (rH P U n all hm is K ρ d) h):=cY rfl rfl
attribute [go_sem↓] Sn O2 MT M8 J4 J5 Sm Qd JX Qb Tp Tq Qa M7
end
def PY(P:Program)(U:TypeId→TI)(n:Nat)(all:List Oper)(hm:Heap)(is:List Nat)(ρ:Env)(h:Heap)(K:Env→Heap→Prop)(w:Bool)(o:Oper)(s:Nat)(x:AV):Prop:=
 gB s w ρ (fun ρ=>mD P U n all hm is K ρ h o (dL o.op)) (fun ρ=>dK P U n all hm is (put ρ o.dst (.v undef)) h K) x
section
variable {all : List Oper} {hm : Heap} {is : List Nat} {K : Env → Heap → Prop} {o : Oper} {s : Nat}
end
def Mm(P:Program)(U:TypeId→TI)(n:Nat)(all:List Oper)(hm:Heap)(is:List Nat)(ρ:Env)(h:Heap)(K:Env→Heap→Prop)(o:Oper):Prop:=match o.guard with
 |none=>mD P U n all hm is K ρ h o (dL o.op)
 |some (gi,w)=>aE (qv all gi) fun s=>aE (lk ρ s) (PY P U n all hm is ρ h K w o s)
@[go_sem↓] theorem RP(all)(hm)(is)(K)(op):Mm P U n all hm is ρ h K ⟨d,op,t,p,a,none⟩=mD P U n all hm is K ρ h ⟨d,op,t,p,a,none⟩ (dL op):=(rfl)
theorem W9(all)(hm)(i)(is)(K):dK P U n all hm (i::is) ρ h K=aE all[i]? (Mm P U n all hm is ρ h K):=by
 simp only[dK];cases all[i]? with
 |none=>rfl
 |some o=>
  simp only[dj,Mm];have e:∀ρ',Er P U hm o ρ' h (fun X h' =>dK P U n all hm is (put ρ' o.dst X) h' K)=mD P U n all hm is K ρ' h o (dL o.op):=fun ρ' =>by unfold Er mD vcE;cases dL o.op<;>rfl
  cases hg:o.guard with
  |none=>simp only[jQ];exact e ρ
  |some gg=>rw[uA];simp only[e];rfl
@[congr] theorem R9{f f'}{a a'}{hm}{k}(h0:f=f')(h1:a=a'):FnQ P f a hm k=FnQ P f' a' hm k:=by grind
attribute [go_sem↓] W9
theorem Xp(hm)(q)(args)(ts)(k):vcQ P U ρ hm ⟨d,.call ⟨.value q,args.toArray,ts⟩,t,p,a,g⟩ k=aE (ev ρ q) fun y=>fnA y fun f cap=>aE (evs ρ args) fun ys=>FnQ P f (ys++cap) hm k:=by
 simp only[vcQ,bT,gK]
 congr 1
def QStep(P:Program)(U:TypeId→TI)(n:Nat)(all:List Oper)(hm:Heap)(t:Ord)(ρ:Env)(h:Heap)(K:Env→Heap→Prop)(o:Oper):Prop:=o.guard=none∧vcQ P U ρ hm o fun X=>lK P U n all hm t (put ρ o.dst X) h K
attribute [go_sem↓] Xp
theorem Tr(all)(hm)(t')(K)(op):QStep P U n all hm t' ρ h K ⟨d,op,t,p,a,none⟩=vcQ P U ρ hm ⟨d,op,t,p,a,none⟩ fun X=>lK P U n all hm t' (put ρ d X) h K:=by simp[QStep]
theorem aaF(all)(hm)(l)(K):lK P U n all hm (.seq l) ρ h K=dK P U n all hm l ρ h K:=(rfl)
attribute [go_sem↓] Tr aaF
theorem Wv(all)(hm)(l)(i)(t')(K):lK P U n all hm (.quiet l i t') ρ h K=dK P U n all hm l ρ h fun ρ h=>aE all[i]? (QStep P U n all hm t' ρ h K):=by
 simp only[lK]
 congr 1
 funext ρ h
 cases all[i]? <;>rfl
theorem Xz(all)(hm)(l is)(t')(K):lK P U n all hm (.news l is t') ρ h K=dK P U n all hm l ρ h fun ρ h=>Sub hm h∧mg U all is∧rU P U all is ρ h fun ρ h=>lK P U n all hm t' ρ h K:=(rfl)
def PA(U:TypeId→TI)(o:Oper):Prop:=ze U o.op
theorem UZ(ty):PA U ⟨d,.alloc ty,t,p,a,g⟩=(isUnit (U ty).k=true∨(U ty).sz≠0∧fit (U ty).zero (U ty).sz):=(rfl)
theorem S9(all):mg U all []=True:=(rfl)
attribute [go_sem↓] Wv Xz UZ S9
theorem RI(all)(i)(is):mg U all (i::is)=(aE all[i]? (PA U)∧mg U all is):=by simp only[mg];cases all[i]? <;>rfl
def NStep(P:Program)(U:TypeId→TI)(all:List Oper)(is:List Nat)(ρ:Env)(h:Heap)(K:Env→Heap→Prop)(o:Oper):Prop:=bh P U ρ h o fun X h' =>rU P U all is (put ρ o.dst X) h' K
theorem Tn(all)(is)(K)(op):NStep P U all is ρ h K ⟨d,op,t,p,a,g⟩=bh P U ρ h ⟨d,op,t,p,a,g⟩ fun X h' =>rU P U all is (put ρ d X) h' K:=(rfl)
theorem Wg(all)(K):rU P U all [] ρ h K=K ρ h:=(rfl)
attribute [go_sem↓] RI Tn Wg
theorem UJ(all)(i)(is)(K):rU P U all (i::is) ρ h K=aE all[i]? (NStep P U all is ρ h K):=by simp only[rU];cases all[i]? <;>rfl
theorem aao(all)(K):lT P U n all [] ρ h K=K ρ:=(rfl)
theorem WZ(all)(op)(os)(K):
  lT P U n all (⟨d,op,t,p,a,none⟩::os) ρ h K=(eS n d=true∧ji P U ρ h ⟨d,op,t,p,a,none⟩ (KDr P U n all os h K ρ d)):=(rfl)
def nN(P:Program)(U:TypeId→TI)(n:Nat)(all os:List Oper)(ρ:Env)(h:Heap)(K:Env→Prop)(w:Bool)(d:Option Tmp)(op:Op)(t:TypeId)(p:String)(a:Array Edge)(g:Option (Nat×Bool))(s:Nat)(x:AV):Prop:=
 gB s w ρ (fun ρ=>ji P U ρ h ⟨d,op,t,p,a,g⟩ (KDr P U n all os h K ρ d)) (fun ρ=>lT P U n all os (put ρ d (.v undef)) h K) x
attribute [go_sem↓] UJ aao WZ
section
variable {all os : List Oper} {K : Env → Prop} {op : Op} {s : Nat}
@[go_sem↓] theorem Sh:nN P U n all os ρ h K true d op t p a g s (.b true)=ji P U ((s,.b true)::ρ) h ⟨d,op,t,p,a,g⟩ (KDr P U n all os h K ((s,.b true)::ρ) d):=by simp[nN,gB,Br]
@[go_sem↓] theorem Sg:nN P U n all os ρ h K true d op t p a g s (.b false)=lT P U n all os (put ((s,.b false)::ρ) d (.v undef)) h K:=by simp[nN,gB,Br]
@[go_sem↓] theorem Sf:nN P U n all os ρ h K false d op t p a g s (.b true)=lT P U n all os (put ((s,.b true)::ρ) d (.v undef)) h K:=by simp[nN,gB,Br]
@[go_sem↓] theorem Se:nN P U n all os ρ h K false d op t p a g s (.b false)=ji P U ((s,.b false)::ρ) h ⟨d,op,t,p,a,g⟩ (KDr P U n all os h K ((s,.b false)::ρ) d):=by simp[nN,gB,Br]
end
theorem VP(all)(op)(gi)(w)(os)(K):
  lT P U n all (⟨d,op,t,p,a,some (gi,w)⟩::os) ρ h K=(eS n d=true∧aE (qv all gi) fun s=>aE (lk ρ s) (nN P U n all os ρ h K w d op t p a (some (gi,w)) s)):=by
 have:=uA (ρ:=ρ) all gi w (fun ρ=>ji P U ρ h ⟨d,op,t,p,a,some (gi,w)⟩ (KDr P U n all os h K ρ d)) (fun ρ=>lT P U n all os (put ρ d (.v undef)) h K)
 rw[show(fun s=>aE (lk ρ s) (nN P U n all os ρ h K w d op t p a (some (gi,w)) s))=fun d_1=>aE (lk ρ d_1) fun x=>gB d_1 w ρ (fun ρ=>ji P U ρ h ⟨d,op,t,p,a,some (gi,w)⟩ (KDr P U n all os h K ρ d)) (fun ρ=>lT P U n all os (put ρ d (.v undef)) h K) x from rfl,←this]
 rfl
def FnD(P:Program)(f:FuncId)(args:List AV)(h:Heap)(k:AV→Prop):Prop:=∃X,ai P f args h (fun x h' =>x=X∧h' =h)∧k X
@[congr] theorem R8{f f'}{a a'}{h h'}(h0:f=f')(h1:a=a')(h2:h=h'):FnD P f a h k=FnD P f' a' h' k:=by grind
attribute [go_sem↓] VP
theorem VK(q)(args)(ts):ji P U ρ h ⟨d,.call ⟨.value q,args.toArray,ts⟩,t,p,a,g⟩ k=aE (ev ρ q) fun y=>fnA y fun f cap=>aE (evs ρ args) fun ys=>FnD P f (ys++cap) h k:=by
 simp only[ji,bT,gK]
 congr 1
def opD(P:Program)(U:TypeId→TI)(ρ:Env)(h:Heap)(d:Option Tmp)(op:Op)(t:TypeId)(p:String)(a:Array Edge)(g:Option (Nat×Bool))(k:AV→Prop):Prop:=bh P U ρ h ⟨d,op,t,p,a,g⟩ (ER k)
theorem Xn(op):opD P U ρ h d op t p a g k=bh P U ρ h ⟨d,op,t,p,a,g⟩ (ER k):=(rfl)
attribute [go_sem↓] VK Xn
section
theorem VM(x):ji P U ρ h ⟨d,.move x,t,p,a,g⟩ k=opD P U ρ h d (.move x) t p a g k:=(rfl)
theorem SF(x):ji P U ρ h ⟨d,.assign x,t,p,a,g⟩ k=opD P U ρ h d (.assign x) t p a g k:=(rfl)
theorem VN(x y z):ji P U ρ h ⟨d,.pick x y z,t,p,a,g⟩ k=opD P U ρ h d (.pick x y z) t p a g k:=(rfl)
theorem Pd(x):ji P U ρ h ⟨d,.nilCheck x,t,p,a,g⟩ k=opD P U ρ h d (.nilCheck x) t p a g k:=(rfl)
attribute [go_sem↓] VM SF VN Pd
theorem BH(op)(ty ty')(x y)(hy:FF y=false):ji P U ρ h ⟨d,.binOp op ty x y ty',t,p,a,g⟩ k=opD P U ρ h d (.binOp op ty x y ty') t p a g k:=by simp only[ji,opD,bh,hy];rfl
theorem TM(op)(ty ty')(x)(y):ji P U ρ h ⟨d,.binOp op ty x (.tmp y) ty',t,p,a,g⟩ k=opD P U ρ h d (.binOp op ty x (.tmp y) ty') t p a g k:=BH _ _ _ _ _ rfl
theorem Qx(op)(ty ty')(x)(ik)(im):ji P U ρ h ⟨d,.binOp op ty x (.const (.int ik im)) ty',t,p,a,g⟩ k=opD P U ρ h d (.binOp op ty x (.const (.int ik im)) ty') t p a g k:=BH _ _ _ _ _ rfl
theorem Qy(op)(ty ty')(x)(b):ji P U ρ h ⟨d,.binOp op ty x (.const (.string b)) ty',t,p,a,g⟩ k=opD P U ρ h d (.binOp op ty x (.const (.string b)) ty') t p a g k:=BH _ _ _ _ _ rfl
theorem VO(op)(ty)(x):ji P U ρ h ⟨d,.unOp op ty x,t,p,a,g⟩ k=opD P U ρ h d (.unOp op ty x) t p a g k:=(rfl)
theorem Qz(s e)(x):ji P U ρ h ⟨d,.convert s e x,t,p,a,g⟩ k=opD P U ρ h d (.convert s e x) t p a g k:=(rfl)
theorem QA(x)(i):ji P U ρ h ⟨d,.extract x i,t,p,a,g⟩ k=opD P U ρ h d (.extract x i) t p a g k:=(rfl)
theorem TO(ty)(x i):ji P U ρ h ⟨d,.index ty x i,t,p,a,g⟩ k=opD P U ρ h d (.index ty x i) t p a g k:=(rfl)
theorem Nt(ty)(x)(f):ji P U ρ h ⟨d,.fieldAddr ty x f,t,p,a,g⟩ k=opD P U ρ h d (.fieldAddr ty x f) t p a g k:=(rfl)
theorem Nu(ty)(x i):ji P U ρ h ⟨d,.indexAddr ty x i,t,p,a,g⟩ k=opD P U ρ h d (.indexAddr ty x i) t p a g k:=(rfl)
theorem VL(ty)(x):ji P U ρ h ⟨d,.load ty x,t,p,a,g⟩ k=opD P U ρ h d (.load ty x) t p a g k:=(rfl)
theorem TP(ty)(x)(lo hi mx):ji P U ρ h ⟨d,.slice ty x lo hi mx,t,p,a,g⟩ k=opD P U ρ h d (.slice ty x lo hi mx) t p a g k:=(rfl)
theorem MU(ty)(len)(parts):ji P U ρ h ⟨d,.buildSlice ty len parts,t,p,a,g⟩ k=opD P U ρ h d (.buildSlice ty len parts) t p a g k:=(rfl)
theorem TN(ty)(parts):ji P U ρ h ⟨d,.build ty parts,t,p,a,g⟩ k=opD P U ρ h d (.build ty parts) t p a g k:=(rfl)
theorem WX(x)(ty):ji P U ρ h ⟨d,.call ⟨.builtin .len, #[x], #[ty]⟩,t,p,a,g⟩ k=opD P U ρ h d (.call ⟨.builtin .len, #[x], #[ty]⟩) t p a g k:=(rfl)
attribute [go_sem↓] TM Qx Qy VO Qz QA TO Nt Nu VL TP MU TN WX
end
@[go_sem↓] theorem OA(e)(id off len)(f):gX U e h (.oa id off len) f=((U e).sz=1∧aE (h id) fun b=>qb b fun cs _=>off+len≤cs.length∧(∀x∈(cs.drop off).take len,x.cells.length=1)∧(∀x∈(cs.drop off).take len,bC x=false)∧f ((cs.drop off).take len)):=by
 simp only[gX]
 congr 1
 exact ag2
theorem OB(e)(id off len cap sz)(f):gX U e h (.ob id off len cap sz) f=(sz=(U e).sz∧aE (h id) fun b=>qb b fun cs _=>∃ys:List AV,ys.length=len∧off+len*sz≤cs.length∧au ys=(cs.drop off).take (len*sz)∧f ys):=by
 simp only[gX]
 congr 1
 exact ag2
theorem VI(xs)(q)(n):ES (.sl xs q) n= .sl xs q:=(rfl)
theorem VH(i o l c s n):ES (.ob i o l c s) n= .ob i o (min l n) c s:=(rfl)
def cpK(U:TypeId→TI)(h:Heap)(x y:AV)(Q:AV→Heap→Prop)(tk:TK):Prop:=match tk,x with
 |.slice e,.oa id off len=>(U e).sz=1∧gX U e h y fun ys=>Sized 1 ys∧(∀z∈ys,bC z=false)∧aE (h id) fun b=>qb b fun cs t=>ys.length≤len∧off+len≤cs.length∧Q (.i ys.length) (upd h id (some (.obj (over cs off ys) t)))
 |.slice e,.ob id off len _ sz=>(U e).sz≠0∧sz=(U e).sz∧gX U e h (ES y len) fun ys=>Sized (U e).sz ys∧aE (h id) fun b=>qb b fun cs t=>ys.length≤len∧off+len*(U e).sz≤cs.length∧Q (.i ys.length) (upd h id (some (.obj (over cs off (au ys)) t)))
 |_,_=>False
theorem WU(id off len cap sz)(y)(e):cpK U h (.ob id off len cap sz) y Q (.slice e)=((U e).sz≠0∧sz=(U e).sz∧gX U e h (ES y len) fun ys=>Sized (U e).sz ys∧aE (h id) fun b=>qb b fun cs t=>ys.length≤len∧off+len*(U e).sz≤cs.length∧Q (.i ys.length) (upd h id (some (.obj (over cs off (au ys)) t)))):=(rfl)
attribute [go_sem↓] OB WU
attribute [go_sem] VI VH
@[go_sem↓] theorem Xg(x y)(t1 t2):bh P U ρ h ⟨d,.call ⟨.builtin .copy, #[x,y], #[t1,t2]⟩,t,p,a,g⟩ Q=aE (ev ρ x) fun u=>aE (ev ρ y) fun v=>atK (U t1).k (cpK U h u v Q):=by
 simp only[bh,bT,Cf,atK]
 congr 1
 funext u
 congr 1
 funext v
 cases (U t1).k with
 |slice e=>
  cases u with
  |oa id off len=>
   refine congrArg (fun f=>(U e).sz=1∧gX U e h v f) (funext fun ys=>?_)
   exact ag2
  |ob id off len cap sz=>
   refine congrArg (fun f=>(U e).sz≠0∧sz=(U e).sz∧gX U e h (ES v len) f) (funext fun ys=>?_)
   exact ag2
  |_=>simp[cpK]
 |_=>simp[cpK]
end
section
variable {P : Program} {U : TypeId → TI} {n : Nat} {ρ : Env} {h h' : Heap} {tb : TypeId} {y : AV} {l : List UInt8}
theorem TA(c):aI c= .v (.int .u8 c.toNat):=(rfl)
theorem gu(l:List UInt8):Sized 1 (l.map aI)=True:=by apply eq_true;intro z hz;obtain⟨c,_,rfl⟩:=List.mem_map.1 hz;rfl
attribute [go_sem] TA gu
@[go_sem] theorem Sp(m):Sized m []=True:=by simp[Sized]
theorem Qe(m)(x)(r):Sized m (x::r)=(x.cells.length=m∧Sized m r):=by simp[Sized]
theorem Dz(l:List UInt8):∀z∈l.map aI,bC z=false:=by intro z hz;obtain⟨c,_,rfl⟩:=List.mem_map.1 hz;rfl
theorem N0(l:List UInt8):(l.map aI).length=l.length:=acA ..
theorem Sub.aj{id}{k}(hid:h id=Option.none):Sub h (Ab.upd h id k):=(Sub.refl h).new hid k
def Keep(id:Nat)(h h' :Heap):Prop:=∀j k,j≠id→h j=some k→h' j=some k
theorem Keep.refl(id)(h):Keep id h h:=fun _ _ _ e=>e
theorem Keep.trans{a b c}{id}(x:Keep id a b)(y:Keep id b c):Keep id a c:=fun j k e hj=>y j k e (x j k e hj)
theorem Sub.keep(hs:Sub h h')(id:Nat):Keep id h h' :=fun _ _ _ e=>hs _ _ e
theorem Keep.upd(id)(k):Keep id h (Ab.upd h id k):=fun _ _ e hj=>adm
def Bytes(tb:TypeId)(h:Heap)(y:AV)(l:List UInt8):Prop:=
 (∃q,y= .sl (l.map aI) q)∨∃id off cs,y= .oa id off l.length∧h id=some (.obj cs tb)∧off+l.length≤cs.length∧(cs.drop off).take l.length=l.map aI
theorem Bytes.sl(l)(q):Bytes tb h (.sl (l.map aI) q) l:=.inl ⟨q,rfl⟩
theorem Bytes.nil(q):Bytes tb h (.sl [] q) []:=.inl ⟨q,rfl⟩
theorem Bytes.oa{id off}{cs}(h1:h id=some (.obj cs tb))(h2:off+l.length≤cs.length)(h3:(cs.drop off).take l.length=l.map aI):Bytes tb h (.oa id off l.length) l:=.inr ⟨id,off,cs,rfl,h1,h2,h3⟩
theorem Bytes.sub(hb:Bytes tb h y l)(hs:Sub h h'):Bytes tb h' y l:=by
 rcases hb with hb|⟨id,off,cs,rfl,h1,h2,h3⟩
 ·exact agD
 ·exact .oa (hs _ _ h1) h2 h3
theorem Bytes.keep(hb:Bytes tb h y l){id:Nat}(hs:Keep id h h'){cs:List AV}{t:TypeId}(hid:h id=some (.obj cs t))(ht:t≠tb):Bytes tb h' y l:=by
 rcases hb with hb|⟨i,off,cs',rfl,h1,h2,h3⟩
 ·exact agD
 ·refine .oa (hs _ _ (fun e=>?_) h1) h2 h3
  grind
theorem Bytes.new(hb:Bytes tb h y l){id:Nat}{k:Option Blk}(hid:h id=none):Bytes tb (Ab.upd h id k) y l:=hb.sub (Sub.aj hid)
theorem Bytes.cells(hb:Bytes tb h y l):y.cells= [y]:=by exact ahL
theorem Bytes.fit(hb:Bytes tb h y l)(m:Nat):Ab.fit y m=(m=1):=by exact ahL
theorem Bytes.len(hb:Bytes tb h y l)(e:TypeId)(k:AV→Prop):wA y k (.slice e)=k (.i l.length):=by
 rcases hb with⟨q,rfl⟩|⟨id,off,cs,rfl,_⟩
 ·grind [wA,acA]
 ·rfl
attribute [go_sem] Qe N0
theorem Bytes.src(hb:Bytes tb h y l){e:TypeId}(he:(U e).sz=1)(k:List AV→Prop):gX U e h y k=k (l.map aI):=by
 rcases hb with⟨q,rfl⟩|⟨id,off,cs,rfl,h1,h2,h3⟩
 ·rfl
 ·rw[OA,h1,he]
  simp only[dj,B0,h3,h2,true_and];apply propext;constructor
  ·simp
  ·intro hk
   exact⟨fun x hx=>by obtain⟨c,_,rfl⟩:=List.mem_map.1 hx;rfl,Dz l,hk⟩
theorem Bytes.UK(hb:Bytes tb h y l){e:TypeId}{w:Heap}{Q:AV→Heap→Prop}(hk:∀b:Bool,(l≠ []→b=false)→Q (.b b) w):Rm w .eql y Q (.slice e):=by
 rcases hb with⟨q,rfl⟩|⟨id,off,cs,rfl,h1,h2,h3⟩
 ·intro b hb
  exact hk b fun hl=>hb agP
 ·exact hk false fun _=>rfl
def Tj(U:TypeId→TI)(tb:TypeId)(h:Heap)(p:AV)(c:UInt8):Prop:=∀k:AV→Prop,nq U h tb p k=k (aI c)
theorem Bytes.idx(hb:Bytes tb h y l){m:Int}{x:IntKind}{K:AV→Prop}(j:Nat)(hm:m=j)(hj:j<l.length)(hz:(U tb).sz=1)(ha:(U tb).k.agg=false)
  (hk:∀p,Tj U tb h p l[j]→K p):oW U y (.v (.int x m)) K (.slice tb):=by
 subst hm;rcases hb with⟨q,rfl⟩|⟨id,off,cs,rfl,h1,h2,h3⟩
 ·refine(uC ..).mpr ⟨acK,?_⟩
  refine fP.at j acL (by rw[acB,hz];rfl) ?_
  refine hk _ fun k=>?_
  simp_all [nq,Kf,aI,AV.cells,bC,List.length_cons,List.length_nil,Nat.zero_add,and_self,if_true]
 ·refine(AF ..).mpr ⟨acK,acK,acK,?_⟩
  refine hk _ fun k=>?_
  have e1:cs[off+j]? =some (aI l[j]):=by
   have:=congrArg (fun q=>q[j]?) h3
   simp only[List.getElem?_take,hj,if_true,List.getElem?_drop,List.getElem?_map,List.getElem?_eq_getElem hj,Option.map_some]at this;exact adr
  simp only[nq,h1,dj,B0,hz,Nat.mul_one,Int.toNat_natCast,DK,ha,Br,e1];simp
theorem Bytes.take(hb:Bytes tb h y l){hi:Operand}{m:Int}{x:IntKind}{K:AV→Prop}(j:Nat)(hm:ev ρ hi=some (.v (.int x m)))(hj:m=j)(hl:j≤l.length)(hz:(U tb).sz=1)(hk:∀z,Bytes tb h z (l.take j)→K z):
  gD U ρ y none (some hi) none K (.slice tb):=by
 subst hj;rcases hb with⟨q,rfl⟩|⟨id,off,cs,rfl,h1,h2,h3⟩
 ·grind [nH,fo,dj,ni,Option.isSome_some,sR,Int.toNat_natCast,List.map_take,sl]
 ·rw[rE]
  refine⟨acK,fun _=>hz,?_⟩
  simp only[mz,fo,hm,dj,ni];refine⟨acK,acK,acK,?_⟩;have e:(l.take j).length=j:=acL;have:=hk (.oa id off (l.take j).length) (by grind [oa,List.map_take,Nat.min_eq_left])
  rw[e]at this;simpa using this
end
section
variable {P : Program} {U : TypeId → TI} {n : Nat} {ρ : Env} {h h' h2 : Heap} {e tb : TypeId} {y v : AV} {xs zs : List AV} {l : List UInt8} {Q : AV → Heap → Prop}
def eu(h h' :Heap):Prop:=∀j cs t,h j=some (.obj cs t)→h' j=some (.obj cs t)
theorem eu.refl(h):eu h h:=fun _ _ _ e=>e
theorem eu.trans{a b c}(x:eu a b)(y:eu b c):eu a c:=fun j cs t e=>y j cs t (x j cs t e)
theorem Sub.fR(hs:Sub h h'):eu h h' :=fun _ _ _ e=>hs _ _ e
theorem Bytes.fR(hb:Bytes tb h y l)(hs:eu h h'):Bytes tb h' y l:=by
 rcases hb with hb|⟨id,off,cs,rfl,h1,h2,h3⟩
 ·exact agD
 ·exact .oa (hs _ _ _ h1) h2 h3
def Acc(U:TypeId→TI)(e:TypeId)(h h' :Heap)(y:AV)(xs:List AV):Prop:=
 Sub h h'∧(y= .sl xs .full∨∃id,h id=none∧y= .sl xs (.own id)∧h' id=some (.spare xs.length (U e).sz))
theorem Acc.full(hs:Sub h h'):Acc U e h h' (.sl xs .full) xs:=⟨hs,.inl rfl⟩
theorem Acc.sub(ha:Acc U e h h' y xs)(hs:Sub h' h2):Acc U e h h2 y xs:=by
 obtain⟨h1,rfl|⟨id,i1,rfl,i2⟩⟩:=ha
 ·exact⟨h1.trans hs,.inl rfl⟩
 ·exact⟨h1.trans hs,.inr ⟨id,i1,rfl,hs _ _ i2⟩⟩
theorem Acc.row(ha:Acc U e h h' y xs):∃q,y= .sl xs q:=by obtain⟨h1,rfl|⟨id,i1,rfl,i2⟩⟩:=ha<;>exact⟨_,rfl⟩
theorem Acc.weak(ha:Acc U e h h' y xs):Weak y (.sl xs .no):=by obtain⟨q,rfl⟩:=ha.row;exact .sl _ _
theorem Acc.len(ha:Acc U e h h' y xs)(t:TypeId)(k:AV→Prop):wA y k (.slice t)=k (.i xs.length):=by obtain⟨q,rfl⟩:=ha.row;rfl
theorem Acc.app(ha:Acc U e h h' y xs)(hz:(U e).sz≠0)(hb:(U e).bytes≠0)(hsrc:∀k:List AV→Prop,k zs→gX U e h' v k)(s1:Sized (U e).sz xs)(s2:Sized (U e).sz zs)
  (hlen:(xs.length+zs.length)*(U e).bytes≤140737488355328) (hk:∀y' h'',Acc U e h h'' y' (xs++zs)→eu h' h''→Q y' h''):apK U h' y v Q (.slice e):=by
 have keep:∀id,(h' id=none∨∃m,h' id=some (.spare m (U e).sz))→∀k,eu h' (upd h' id k):=fun id hid k j cs t hj=>by grind [ag]
 obtain⟨h1,rfl|⟨id,i1,rfl,i2⟩⟩:=ha
 ·refine(qg ..).mpr ⟨hz,hb,hsrc _ ⟨s1,s2,hlen,fun hn=>?_,fun hn=> .own fun id hid=>?_⟩⟩
  ·subst hn
   have:=hk (.sl xs .full) h' (by grind [full]) (.refl _)
   exact adr
  ·exact hk _ _ ⟨h1.new hid _,.inr ⟨id,h1.none hid,rfl,by rw[ah,acE]⟩⟩ acL
 ·refine(BB ..).mpr ⟨hz,hb,hsrc _ ⟨s1,s2,hlen,i2,?_⟩⟩
  have hs2:Sub h (upd h' id (some (.spare (xs.length+zs.length) (U e).sz))):=by
   intro j k hj;rw[ag _ _ fun e=>?_]
   ·exact h1 _ _ hj
   grind
  exact hk _ _ ⟨hs2,.inr ⟨id,i1,rfl,by rw[ah,acE]⟩⟩ acL
theorem Bytes.Lx(hb:Bytes tb h y l):bC y=false:=by exact ahL
def Rows(tb:TypeId)(h:Heap)(ys:List AV)(ls:List (List UInt8)):Prop:=ys.length=ls.length∧∀i (h1:i<ys.length) (h2:i<ls.length),Bytes tb h ys[i] ls[i]
theorem Rows.sized{ys}{ls}(hr:Rows tb h ys ls):Sized 1 ys:=fun z hz=>by obtain⟨i,hi,rfl⟩:=List.mem_iff_getElem.1 hz;rw[(hr.2 i hi (by rw[←hr.1];omega)).cells];rfl
theorem Rows.nil:Rows tb h [] []:=⟨rfl,fun i h1=>acS⟩
theorem Rows.cons{ys:List AV}{ls:List (List UInt8)}(hb:Bytes tb h y l)(hr:Rows tb h ys ls):Rows tb h (y::ys) (l::ls):=⟨by simp[hr.1],fun i h1 h2=>by
 cases i with
 |zero=>grind
 |succ i=>exact hr.2 i acL acL⟩
end
section
variable {P : Program}
def cL:Heap:=fun _=>none
def cx0(w:World):Cx:=⟨w,fun _=>⟨0,0,none⟩,cL⟩
theorem Un(w):Good (cx0 w) where
 fin:=⟨0,fun _ _=>rfl⟩
 inj:=fun i j k l h=>adB
 obj:=fun id cs t h=>adB
 spare:=fun id n sz h=>adB
 mp:=fun id m h=>adB
 keys:=fun id m h=>adB
 ro:=fun id b vs h=>adB
theorem LK(w)(b o):¬owned (cx0 w) b o:=fun⟨id,k,h,_⟩=>adB
theorem ai.calls{f}{args}{b}{vs}{w}(hc:callable P f)(hf:ai P f args cL fun r _=>r= .v b)(hv:vs.size=args.length)(hr:∀i (hi:i<args.length),Rep (cx0 w) args[i] (vs.getD i undef)):
  Calls P f vs w fun e w' =>e= .returned b∧Go.RowKit.Below w.heap.size w w' :=by
 refine((hf (cx0 w) vs (fun _ _ h=>adB) (Un w) hv hr).calls hc).mono ?_
 rintro e w' ⟨u,rfl,c',x,h',rfl,g',hE,hx,hs,rfl⟩
 rw[hx.bS];exact⟨rfl,hE.os,hE.tape,hE.output,hE.size,fun k hk=>hE.block k hk fun o=>LK w k o⟩
end
section
variable {P : Program} {f : FuncId} {args : List AV} {h : Heap} {Q : AV → Heap → Prop} {X : AV}
theorem ai.pthen(hf:ai P f args h fun r h' =>r=X∧h' =h)(k:Q X h):ai P f args h Q:=
 hf.mono fun r h' ⟨e1,e2⟩=>aeP
theorem ai.pthen'(hf:ai P f args h fun r h' =>h' =h∧r=X)(k:Q X h):ai P f args h Q:=
 hf.mono fun r h' ⟨e1,e2⟩=>aeP
theorem ai.sthen(hf:ai P f args h fun r h' =>r=X∧Sub h h')(k:∀h',Sub h h'→Q X h'):ai P f args h Q:=
 hf.mono fun r h' ⟨e1,e2⟩=>by subst e1;exact k h' e2
def KV(K:AV→Prop)(x:AV):Prop:=K x
@[congr] theorem Tl{K}{x x'}(e:x=x'):KV K x=KV K x' :=by rw[e]
@[go_sem] theorem Tm(K)(x):KV K x=K x:=(rfl)
section
variable {U : TypeId → TI} {ρ : Env} {K : AV → Prop}
@[go_sem↓high] theorem Ta(xs)(q)(hi)(e):gD U ρ (.sl xs q) none (some hi) none K (.slice e)=((U e).sz≠0∧aE (ev ρ hi) fun y=>Df y fun b=>0≤b∧b≤xs.length∧KV K (.sl (xs.take b.toNat) (xB xs q false true))):=by rw[nH,fo];rfl
@[go_sem↓high] theorem Ea(xs)(q)(lo)(e):gD U ρ (.sl xs q) (some lo) none none K (.slice e)=((U e).sz≠0∧Sized (U e).sz xs∧aE (ev ρ lo) fun y=>Df y fun a=>0≤a∧a≤xs.length∧KV K (.sl (xs.drop a.toNat) (xB xs q true false))):=by simp[qT,fo,mz,Option.isSome_none,mb,KV]
@[go_sem↓high] theorem Js(xs)(q)(lo hi)(e):gD U ρ (.sl xs q) (some lo) (some hi) none K (.slice e)=((U e).sz≠0∧Sized (U e).sz xs∧aE (ev ρ lo) fun y=>Df y fun a=>aE (ev ρ hi) fun z=>Df z fun b=>0≤a∧a≤b∧b≤xs.length∧KV K (.sl ((xs.drop a.toNat).take (b.toNat - a.toNat)) (xB xs q true true))):=by simp[qT,fo,Option.isSome_some,Ns,KV]
end
attribute [go_sem] Int.toNat_natCast Int.toNat_zero
theorem RU(l:List UInt8)(n:Nat):(l.map aI).take n=(l.take n).map aI:=(List.map_take ..).symm
theorem QF(l:List UInt8)(n:Nat):(l.map aI).drop n=(l.drop n).map aI:=(List.map_drop ..).symm
theorem xx{α β:Type}{f:β→α}{p:β→Prop}:∀(xs:List α),(∀x∈xs,∃b,x=f b∧p b)→∃bs:List β,xs=bs.map f∧∀b∈bs,p b
 | [],_=>acS
 |x::xs,h=>by
  obtain⟨b,rfl,hb⟩:=h x acS;obtain⟨bs,rfl,hbs⟩:=xx xs fun y hy=>h y acL
  exact⟨b::bs,rfl,fun c hc=>by
   rcases List.mem_cons.1 hc with h1|h1
   ·rw[h1];exact hb
   ·exact hbs c h1⟩
def iA(n:Int):AV:=.i n
theorem aY(n)(h: -9223372036854775808≤n∧n≤9223372036854775807):IntKind.i64.wrap n=n:=by grind [IntWalk.i64_in]
theorem acG(n:Nat)(h:-9223372036854775808≤(n:Int)+1∧(n:Int)+1≤9223372036854775807):IntKind.i64.wrap ((n:Int)+1)=((n+1:Nat):Int):=by rw[aY _ h];omega
theorem acH{a b:Nat}(h:decide ((a:Int)<(b:Int))=true):a<b:=Int.ofNat_lt.1 (_root_.of_decide_eq_true h)
attribute [go_sem] RU QF
end
section
variable {sp:Nat→Bool}{held:Bool}
variable {P : Program} {U : TypeId → TI}
inductive Dat (U:TypeId→TI):TypeId→AV→Prop
 |bool {t:TypeId} (b:Bool) (h:(U t).k= .bool):Dat U t (.b b)
 |int {t:TypeId} {k:IntKind} (n:Int) (h:(U t).k= .int k) (hw:(Lit.int k n).wf=true):Dat U t (.v (.int k n))
 |str {t:TypeId} (l:List UInt8) (h:(U t).k= .str) (hl:l.length≤maxLen):Dat U t (.s l)
 |slice {t e:TypeId} (xs:List AV) (h:(U t).k= .slice e) (hx:∀x∈xs,Dat U e x) (hl:xs.length≤maxLen):Dat U t (.sl xs .no)
 |strct {t:TypeId} {fs:List (Nat×TypeId)} (ys:List AV) (h:(U t).k= .strct fs) (hn:ys.length=fs.length) (hx:∀i (h1:i<fs.length) (h2:i<ys.length),Dat U fs[i].2 ys[i]):Dat U t (.agg (ys.map AV.cells).flatten)
theorem Dat.Kn{t}{x}(h:Dat U t x)(hk:(U t).k= .bool):∃b,x= .b b:=by
 cases h with
 |bool b h=>simp
 |_=>simp_all
theorem Dat.BS{t}{x}{k}(h:Dat U t x)(hk:(U t).k= .int k):∃n,x= .v (.int k n)∧(Lit.int k n).wf=true:=by
 cases h with
 |int n h hw=>grind
 |_=>simp_all
theorem Dat.pK{t}{x}(h:Dat U t x)(hk:(U t).k= .str):∃l,x= .s l∧l.length≤maxLen:=by
 cases h with
 |str l h hl=>grind
 |_=>simp_all
theorem Dat.Jt{t e}{x}(h:Dat U t x)(hk:(U t).k= .slice e):∃xs,x= .sl xs .no∧xs.length≤maxLen∧∀y∈xs,Dat U e y:=by
 cases h with
 |slice xs h hx hl=>grind
 |_=>simp_all
def Ey(U:TypeId→TI):List TypeId→List AV→Prop
 | [],ys=>ys= []
 |t::ts,ys=>∃y r,ys=y::r∧Dat U t y∧Ey U ts r
theorem An:∀(fs:List (Nat×TypeId)) (ys:List AV),ys.length=fs.length→(∀i (h1:i<fs.length) (h2:i<ys.length),Dat U fs[i].2 ys[i])→Ey U (fs.map (·.2)) ys
 | [],ys,h,_=>List.length_eq_zero_iff.1 h
 |f::fs,[],h,_=>adB
 |f::fs,y::ys,h,hx=>⟨y,ys,rfl,hx 0 acS acS,An fs ys acL fun i h1 h2=>hx (i+1) acL acL⟩
theorem Dat.A9{t}{x}{fs}(h:Dat U t x)(hk:(U t).k= .strct fs):∃ys,x= .agg (ys.map AV.cells).flatten∧Ey U (fs.map (·.2)) ys:=by
 cases h with
 |strct ys h hn hx=>rw[hk]at h;cases h;exact⟨ys,rfl,An _ _ hn hx⟩
 |_=>simp_all
theorem XF{n}(h:(Lit.int .i64 n).wf=true): -9223372036854775808≤n∧n≤9223372036854775807:=by grind [Lit.wf,IntKind.min,IntKind.max,IntKind.signed,IntKind.bits]
theorem wf8{n}(h:(Lit.int .u8 n).wf=true):∃c:UInt8,n=c.toNat:=by
 have hr:0≤n∧n≤255:=by grind [Lit.wf,IntKind.min,IntKind.max,IntKind.signed,IntKind.bits]
 refine⟨UInt8.ofNat n.toNat,?_⟩
 grind [UInt8.toNat_ofNat']
theorem Dat.i64{t}{x}(h:Dat U t x)(hk:(U t).k= .int .i64):∃n,x=iA n∧ -9223372036854775808≤n∧n≤9223372036854775807:=by obtain⟨n,rfl,hw⟩:=h.BS hk;exact⟨n,rfl,XF hw⟩
theorem Dat.u8{t}{x}(h:Dat U t x)(hk:(U t).k= .int .u8):∃c:UInt8,x=aI c:=by obtain⟨n,rfl,hw⟩:=h.BS hk;obtain⟨c,rfl⟩:=wf8 hw;exact⟨c,rfl⟩
theorem Dat.list{t e}{x}{β:Type}{f:β→AV}{p:β→Prop}(h:Dat U t x)(hk:(U t).k= .slice e)(he:∀y,Dat U e y→∃b,y=f b∧p b):∃bs:List β,x= .sl (bs.map f) .no∧bs.length≤maxLen∧∀b∈bs,p b:=by
 obtain⟨xs,rfl,hl,hx⟩:=h.Jt hk;obtain⟨bs,rfl,hb⟩:=xx xs fun y hy=>he y (hx y hy)
 grind
theorem Dat.bytes{t e}{x}(h:Dat U t x)(hk:(U t).k= .slice e)(he:(U e).k= .int .u8):∃l:List UInt8,x= .sl (l.map aI) .no∧l.length≤maxLen:=by
 obtain⟨l,h1,h2,_⟩:=h.list (f:=aI) (p:=fun _=>True) hk fun y hy=>by obtain⟨c,hc⟩:=hy.u8 he;grind
 grind
def RL(c:Cx):List AV→List Value→Prop
 | [],vs=>vs= []
 |x::xs,[]=>False
 |x::xs,v::vs=>(Rep c x v∧v.oneCell' =true)∧RL c xs vs
theorem RL.len{c}:∀ {xs:List AV} {vs:List Value},RL c xs vs→xs.length=vs.length
 | [],vs,h=>by rw[h];rfl
 |x::xs,[],h=>h.elim
 |x::xs,v::vs,h=>by simp[RL.len h.2]
theorem RL.get{c}:∀ {xs:List AV} {vs:List Value},RL c xs vs→∀i (h:i<xs.length),Rep c xs[i] (vs.getD i undef)∧(vs.getD i undef).oneCell' =true
 | [],vs,h,i,hi=>acL
 |x::xs,[],h,i,hi=>h.elim
 |x::xs,v::vs,h,0,hi=>h.1
 |x::xs,v::vs,h,i+1,hi=>by simpa using RL.get h.2 i acL
theorem RL.append{c}:∀ {xs ys:List AV} {vs us:List Value},RL c xs vs→RL c ys us→RL c (xs++ys) (vs++us)
 | [],ys,vs,us,h,k=>by rw[h];exact k
 |x::xs,ys,[],us,h,k=>h.elim
 |x::xs,ys,v::vs,us,h,k=>⟨h.1,RL.append h.2 k⟩
theorem RL.one{c}{x}{v}(h:Rep c x v)(h1:v.oneCell' =true):RL c [x] [v]:=⟨⟨h,h1⟩,rfl⟩
def Ej(U:TypeId→TI)(n:Nat):List (Nat×TypeId)→Nat→Bool
 | [],o=>o==n
 |f::fs,o=>f.1==o && Ej U n fs (o+(U f.2).sz)
def FL(U:TypeId→TI)(L:List TypeId):Bool:=L.all fun t=>(U t).sz !=0 && match (U t).k with
 |.bool|.int _|.str=>(U t).sz==1
 |.slice e=>(U t).sz==1 && L.contains e
 |.strct fs=>fs.all (fun f=>L.contains f.2) && Ej U (U t).sz fs 0
 |_=>false
theorem rX(hU:∀t,aO P U t){t}(hz:(U t).sz≠0):P.cellsOf t=(U t).sz:=by
 obtain⟨i,h1,h2,_⟩:=(hU t).info hz
 grind [Program.cellsOf]
variable {H : Type} {enc : TypeId × Value → H} {w : World}
theorem LM(hU:∀t,aO P U t){L:List TypeId}{m:Nat}(n:Nat)(cs:List Value)(hn:cs.length=n)
  (ih:∀(t:TypeId) (cs:List Value) r,t∈L→DataW.trod enc P w 0 sp held m t cs=some r→∃x,Dat U t x∧RL (cx0 w) x.cells cs) (hz:∀t∈L,(U t).sz≠0):
  ∀(fs:List (Nat×TypeId)) (gs:List Field) (o:Nat),gs.map (fun f=>(f.offset,f.type))=fs→(∀f∈fs,f.2∈L)→Ej U n fs o=true→
   (∀f∈gs,∃r,DataW.trod enc P w 0 sp held m f.type ((cs.drop f.offset).take (P.cellsOf f.type))=some r)→
   ∃ys:List AV,ys.length=fs.length∧(∀i (h1:i<fs.length) (h2:i<ys.length),Dat U fs[i].2 ys[i])∧RL (cx0 w) (ys.map AV.cells).flatten (cs.drop o):=by
 intro fs
 induction fs with
 |nil=>
  intro gs o hg hL ht hr;refine⟨[],rfl,fun i h1=>acS,?_⟩
  have:o=n:=by grind [Ej]
  show cs.drop o= []
  grind
 |cons f fs ihf=>
  intro gs o hg hL ht hr;cases gs with
  |nil=>grind
  |cons g gs=>
   simp only[List.map_cons,List.cons.injEq]at hg;obtain⟨hg1,hg2⟩:=hg;simp only[Ej,Bool.and_eq_true,beq_iff_eq]at ht;obtain⟨ht1,ht2⟩:=ht;have hfL:=hL f acS;obtain⟨ys,y1,y2,y3⟩:=ihf gs (o+(U f.2).sz) hg2 acL ht2 acL;obtain⟨r,hr0⟩:=hr g acS;have e1:g.type=f.2:=acL;have e2:g.offset=o:=acL;rw[e1,e2,rX hU (hz _ hfL)]at hr0;obtain⟨x,x1,x2⟩:=ih _ _ _ hfL hr0;refine⟨x::ys,acL,fun i h1 h2=>?_,?_⟩
   ·grind
   ·have:cs.drop o=(cs.drop o).take (U f.2).sz++cs.drop (o+(U f.2).sz):=by rw[←List.drop_drop,List.take_append_drop]
    rw[this];exact x2.append y3
theorem CJ(hU:∀t,aO P U t)(L:List TypeId)(hL:FL U L=true)(hsp:∀b,sp b=true):
  ∀(fuel:Nat) (t:TypeId) (cs:List Value) (r:DataW H×List MemPlace),t∈L→DataW.trod enc P w 0 sp held fuel t cs=some r→∃x,Dat U t x∧RL (cx0 w) x.cells cs:=by
 have hall:∀t∈L,(U t).sz≠0:=fun t ht=>by have:=List.all_eq_true.1 hL t ht;simp only[Bool.and_eq_true,bne_iff_ne]at this;exact this.1
 intro fuel
 induction fuel with
 |zero=>intro t cs r _ h;simp[DataW.trod]at h
 |succ m ih=>
  intro t cs r ht h;have hp:=List.all_eq_true.1 hL t ht;simp only[Bool.and_eq_true,bne_iff_ne]at hp;obtain⟨hz,hp⟩:=hp;have hd:=(hU t).desc;unfold DataW.trod at h;cases hk:(U t).k with
  |bool=>
   rw[hk]at hd;simp only at hd;rw[hd]at h;split at h<;>simp_all
   rename_i b
   exact⟨_,.bool b hk,.one (.v _) rfl⟩
  |int k=>
   rw[hk]at hd;simp only at hd;rw[hd]at h;split at h<;>simp_all
   obtain⟨⟨rfl,hw⟩,_⟩:=h;exact⟨_,.int _ hk hw,.one (.v _) rfl⟩
  |str=>
   rw[hk]at hd;simp only at hd;rw[hd]at h;split at h<;>simp_all
   rename_i s
   refine⟨_,.str s.data.toList hk (by simpa using h.1),.one ?_ rfl⟩
   have:=Rep.s (c:=cx0 w) s.data.toList (by have:=h.1;unfold maxLen at this;simp only[lim];simp;omega)
   simpa using this
  |slice e=>
   rw[hk]at hd hp;simp only at hd;simp only[Bool.and_eq_true]at hp;have he:e∈L:=by simpa using hp.2
   have hez:=hall e he;rw[hd]at h;split at h<;>try (simp_all;done)
   ·rename_i e' heq
    refine⟨_,.slice [] hk (fun x hx=>by cases hx) acS,.one ?_ rfl⟩
    exact .sl [] .no none 0 0 (fun _ _=>undef) (Nat.le_refl _) acN (fun _=>rfl) (fun q h _=>adB) (fun i h=>adB) (fun q h=>adB) (fun i h=>adB) (fun i j h=>adB) trivial
   ·rename_i e' a len cap heq
    obtain rfl:e=e' :=by simpa using heq
    split at h
    ·rename_i hc
     obtain⟨hc1,hc2,hc3⟩:=hc;simp only[hsp,if_true]at h;obtain⟨els,hels,h⟩:=Option.bind_eq_some_iff.1 h;obtain⟨⟨rst,hrst,_⟩⟩:Nonempty {rst // (List.range (cap - len)).mapM (fun j=>((w.cells? 0 (a.add ((len+j)*P.cellsOf e)) (P.cellsOf e)).bind (DataW.trod enc P w 0 sp held m e)))=some rst∧True}:=by
      cases hq:(List.range (cap - len)).mapM (fun j=>((w.cells? 0 (a.add ((len+j)*P.cellsOf e)) (P.cellsOf e)).bind (DataW.trod enc P w 0 sp held m e)))with
      |none=>rw[hq]at h;simp at h
      |some rst=>exact⟨⟨rst,rfl,trivial⟩⟩
     rw[rX hU hez]at hels hrst;have cell:∀j,j<(U e).sz→∀(b:Addr) vs,w.cells? 0 b (U e).sz=some vs→w.cell? (b.add j)=vs[j]?∧vs.length=(U e).sz:=fun j hj b vs hb=>by
      simp only[World.cells?,Nat.zero_le,if_true]at hb;have:=mapM_some_get hb j j (by simp[hj])
      exact⟨this,by simpa using mapM_some_length hb⟩
     have el:∀i,i<len→∃vs x,w.cells? 0 (a.add (i*(U e).sz)) (U e).sz=some vs∧Dat U e x∧RL (cx0 w) x.cells vs:=fun i hi=>by
      have:=mapM_some_get hels i i (by simp[hi])
      have hi2:i<els.length:=by have:=mapM_some_length hels;simp at this;omega
      rw[List.getElem?_eq_getElem hi2]at this;obtain⟨vs,v1,v2⟩:=Option.bind_eq_some_iff.1 this;obtain⟨x,x1,x2⟩:=ih _ _ _ he v2;exact⟨vs,x,v1,x1,x2⟩
     have hspot:0<cap→a.spot=none∧a.block<w.heap.size:=fun hcap=>by
      have:∃b vs,w.cells? 0 b (U e).sz=some vs∧b.spot=a.spot∧b.block=a.block:=by
       by_cases hl:0<len
       ·obtain⟨vs,x,v1,_⟩:=el 0 hl
        have a0:a.add (0*(U e).sz)=a:=by simp[Addr.add]
        exact⟨_,vs,v1,by rw[a0],by rw[a0]⟩
       ·have:=mapM_some_get hrst 0 0 (by rw[List.getElem?_eq_getElem ade];simp)
        have hi2:0<rst.length:=by have:=mapM_some_length hrst;simp at this;omega
        rw[List.getElem?_eq_getElem hi2]at this;obtain⟨vs,v1,v2⟩:=Option.bind_eq_some_iff.1 this;have a0:a.add ((len+0)*(U e).sz)=a:=by obtain rfl:len=0:=acK;simp[Addr.add]
        exact⟨_,vs,v1,by rw[a0],by rw[a0]⟩
      obtain⟨b,vs,b1,b2,b3⟩:=this;obtain⟨c1,c2⟩:=cell 0 acK b vs b1;rw[List.getElem?_eq_getElem acK]at c1;rw[←b2,←b3];unfold World.cell? at c1;split at c1
      ·rename_i hh
       split at c1
       ·cases c1
       ·rename_i hs
        refine⟨?_,?_⟩
        ·have:(b.add 0).spot=b.spot:=by simp[Addr.add]
         rw[this]at hs;cases hb:b.spot with
         |none=>rfl
         |some z=>rw[hb]at hs;simp at hs
        ·exact(Array.getElem?_eq_some_iff.1 hh).1
      ·cases c1
     have:∀n,n≤len→∃xs:List AV,xs.length=n∧∀i (hi:i<xs.length),Dat U e xs[i]∧∃vs,w.cells? 0 (a.add (i*(U e).sz)) (U e).sz=some vs∧RL (cx0 w) xs[i].cells vs:=by
      intro n
      induction n with
      |zero=>exact fun _=>⟨[],rfl,fun i hi=>by cases hi⟩
      |succ n ihn=>
       intro hn;obtain⟨xs,e1,e2⟩:=ihn acK;obtain⟨vs,x,v1,v2,v3⟩:=el n acK;refine⟨xs++ [x],by simp[e1],fun i hi=>?_⟩
       by_cases hi' :i<xs.length
       ·rw[List.getElem_append_left hi']
        exact e2 i hi'
       ·have:i=n:=by simp at hi;omega
        subst this;rw[List.getElem_append_right acK];simp only[e1,Nat.sub_self,List.getElem_singleton];exact⟨v2,vs,v1,v3⟩
     obtain⟨xs,e1,e2⟩:=this len (Nat.le_refl _);subst e1;refine⟨.sl xs .no,.slice xs hk (fun x hx=>?_) acK,.one ?_ rfl⟩
     ·obtain⟨i,hi,rfl⟩:=List.mem_iff_getElem.1 hx
      exact(e2 i hi).1
     ·refine .sl xs .no (some a) cap (U e).sz (fun i j=>((w.cells? 0 (a.add (i*(U e).sz)) (U e).sz).getD []).getD j undef) hc2 (by unfold maxLen at hc3;simp only[lim];omega) (fun hh=>aea) (fun q hq hcap=>by cases hq;exact hspot hcap)
       (fun i hi=>?_) (fun q hq i j hi hj=>?_) (fun i hi j hj=>?_) (fun i j hi hj=>?_) trivial
      ·obtain⟨_,vs,v1,v2⟩:=e2 i hi
       rw[v2.len];exact(cell 0 acK _ _ v1).2
      ·cases hq
       obtain⟨_,vs,v1,v2⟩:=e2 i hi;refine⟨?_,LK w _ _⟩;obtain⟨c1,c2⟩:=cell j hj _ _ v1;rw[v1];obtain⟨hs1,_⟩:=hspot acK;obtain⟨ab,ao,az⟩:=a;simp only at hs1;subst hs1
       rw[cC,cC]at c1;simp only[Option.getD_some];have hj2:j<vs.length:=acK;rw[show vs.getD j undef=vs[j] by simp[hj2]]
       rw[List.getElem?_eq_getElem hj2,Nat.add_assoc]at c1;exact c1
      ·obtain⟨_,vs,v1,v2⟩:=e2 i hi
       rw[v1];exact(v2.get j hj).1
      ·obtain⟨_,vs,v1,v2⟩:=e2 i hi
       rw[v1];have:=(cell 0 acK _ _ v1).2;exact(v2.get j (by rw[v2.len];omega)).2
    ·cases h
  |strct fs=>
   rw[hk]at hd hp;simp only at hd;simp only[Bool.and_eq_true]at hp;obtain⟨gs,hd,hg,_⟩:=hd;rw[hd]at h;have hq:cs.length=P.cellsOf t∧∃xs,(gs.toList.mapM fun f=>DataW.trod enc P w 0 sp held m f.type ((cs.drop f.offset).take (P.cellsOf f.type)))=some xs:=by
    split at h<;>try (simp_all;done)
    rename_i fs' heq
    obtain rfl:gs=fs' :=by simpa using heq
    split at h
    ·rename_i hl
     obtain⟨xs,h1,_⟩:=Option.map_eq_some_iff.1 h;exact⟨hl,xs,h1⟩
    ·cases h
   obtain⟨hl,xs,hxs⟩:=hq;rw[rX hU hz]at hl;obtain⟨ys,y1,y2,y3⟩:=LM hU (U t).sz cs hl ih hall fs gs.toList 0 hg (fun f hf=>by have:=List.all_eq_true.1 hp.1 f hf;simpa using this) hp.2 (fun f hf=>by
    obtain⟨i,hi,rfl⟩:=List.mem_iff_getElem.1 hf;have hi2:i<xs.length:=by have:=mapM_some_length hxs;omega
    have:=mapM_some_get hxs i _ (List.getElem?_eq_getElem hi);rw[List.getElem?_eq_getElem hi2]at this;exact⟨_,this⟩)
   exact⟨_,.strct ys hk y1 y2,y3⟩
  |_=>rw[hk]at hp;simp at hp
theorem rZ(hU:∀t,aO P U t)(L)(hL:FL U L=true){sp}{held}(hsp:∀b,sp b=true){t}{v}{d}{p}(ht:t∈L){base}{rc}
  (hv:Value.okWide P w rc base t v) (h:DataW.Trod enc P w 0 sp held t v d p):∃x,Dat U t x∧Rep (cx0 w) x v:=by
 obtain⟨fuel,h⟩:=h;obtain⟨x,x1,x2⟩:=CJ hU L hL hsp fuel t _ _ ht h;refine⟨x,x1,?_⟩;have hd:=(hU t).desc;cases x1 with
 |strct ys hk hn hx=>
  rw[hk]at hd;obtain⟨gs,hd,_⟩:=hd;unfold Value.okWide at hv;rw[hd]at hv;obtain⟨cs,rfl,_⟩:=hv;have hl:=x2.len;simp only[AV.cells,Value.cells]at hl x2;refine .agg _ _ acL (fun i hi=>?_) (fun i hi=>?_)
  ·have:=(x2.get i hi).1
   simpa using this
  ·have:=(x2.get i hi).2
   simpa using this
 |bool b hk=>exact ahd
 |int n hk hw=>exact ahd
 |str l hk hl=>exact ahd
 |slice xs hk hx hl=>exact ahd
end
section
variable {P : Program} {U : TypeId → TI} {n : Nat} {ρ : Env} {h h' h2 : Heap} {e tb : TypeId} {y v : AV} {xs zs : List AV} {l : List UInt8} {Q : AV → Heap → Prop}
def hm1(id:Nat)(k:Blk):Heap:=upd (fun _=>none) id (some k)
theorem gj(id)(k):hm1 id k id=some k:=ah ..
theorem Sub.hm1{id}{k}(h1:h id=some k):Sub (hm1 id k) h:=fun j b hj=>by
 unfold Ab.hm1 at hj
 grind [ah,ag]
theorem eu.new{id}{k}(hid:h id=none):eu h (upd h id k):=((Sub.refl h).new hid k).fR
theorem oc.accs{h0}(hs:Sub h0 h)(hk:∀y' h'',Acc U e h0 h'' y' (xs++zs)→eu h h''→Q y' h''):oc U h xs zs e Q:=
 .own fun id hid=>hk _ _ ⟨hs.new hid _,.inr ⟨id,hs.none hid,rfl,by rw[ah,acE]⟩⟩ (.new hid)
attribute [go_sem] gj
end
section
variable {P : Program} {U : TypeId → TI} {n : Nat} {ρ : Env} {h h' : Heap} {tb : TypeId} {y : AV} {l : List UInt8}
theorem Bytes.from(hb:Bytes tb h y l){lo:Operand}{m:Int}{x:IntKind}{K:AV→Prop}(j:Nat)(hm:ev ρ lo=some (.v (.int x m)))(hj:m=j)(hl:j≤l.length)(hz:(U tb).sz=1)(hk:∀z,Bytes tb h z (l.drop j)→K z):
  gD U ρ y (some lo) none none K (.slice tb):=by
 subst hj;rcases hb with⟨q,rfl⟩|⟨id,off,cs,rfl,h1,h2,h3⟩
 ·rw[Ea,hm]
  refine⟨acK,by grind [gu],?_⟩
  refine⟨acK,acL,?_⟩;rw[←List.map_drop];exact hk _ (.sl _ _)
 ·rw[rE]
  refine⟨acK,fun _=>hz,?_⟩
  simp only[mz,fo,hm,dj,ni];refine⟨acK,acK,acK,?_⟩;simp only[Int.toNat_natCast,hz,Nat.mul_one];have e:(l.drop j).length=l.length - j:=acS;have:=hk (.oa id (off+j) (l.drop j).length) (by grind [oa,List.map_drop,List.drop_drop,List.drop_take])
  rwa [e]at this
theorem Bytes.cut(hb:Bytes tb h y l){lo hi:Operand}{m m2:Int}{x x2:IntKind}{K:AV→Prop}(j k:Nat)(hm:ev ρ lo=some (.v (.int x m)))(hj:m=j)(hm2:ev ρ hi=some (.v (.int x2 m2)))(hk2:m2=k)(hjk:j≤k)(hl:k≤l.length)(hz:(U tb).sz=1)
  (hk:∀z,Bytes tb h z ((l.drop j).take (k - j))→K z):gD U ρ y (some lo) (some hi) none K (.slice tb):=by
 subst hj;subst hk2
 rcases hb with⟨q,rfl⟩|⟨id,off,cs,rfl,h1,h2,h3⟩
 ·rw[Js,hm]
  refine⟨acK,by grind [gu],?_⟩
  simp only[dj,ni,hm2,Int.toNat_natCast,Tm];refine⟨acK,acK,acL,?_⟩;rw[←List.map_drop,←List.map_take];exact hk _ (.sl _ _)
 ·rw[rE]
  refine⟨acK,fun _=>hz,?_⟩
  simp only[fo,hm,dj,ni,hm2];refine⟨acK,acK,acK,?_⟩;simp only[Int.toNat_natCast,hz,Nat.mul_one];have e:((l.drop j).take (k - j)).length=k - j:=acL;have:=hk (.oa id (off+j) ((l.drop j).take (k - j)).length) (.oa h1 acK (by grind [List.map_take,List.map_drop,List.drop_drop,List.drop_take]))
  rwa [e]at this
end
theorem PN(k:IntKind)(n:Nat)(hk:k.signed=false)(hn:n<2 ^ k.bits):k.wrap (n:Int)=n:=by cases k<;>simp[IntKind.signed]at hk<;>simp[IntKind.wrap,IntKind.signed,IntKind.bits]at hn⊢<;>omega
theorem w32(n:Nat)(hn:n<4294967296):IntKind.u32.wrap (n:Int)=n:=PN .u32 n rfl agq
theorem w8(n:Nat):IntKind.u8.wrap (n:Int)=(UInt8.ofNat n).toNat:=by rfl
theorem AQ(w n:Nat):BitVec.ofInt w (n:Int)=BitVec.ofNat w n:=BitVec.ofInt_natCast ..
theorem MP(x y:BitVec 32):IntKind.u32.wrap (((BitVec.ofInt IntKind.u32.bits (x.toNat:Int) ^^^ BitVec.ofInt IntKind.u32.bits (y.toNat:Int)).toNat:Nat):Int)=((x ^^^ y).toNat:Int):=by
 have e:∀z:BitVec 32,BitVec.ofInt IntKind.u32.bits (z.toNat:Int)=z:=fun z=>by
  show BitVec.ofInt 32 (z.toNat:Int)=z
  simp
 rw[e,e];exact w32 _ (x ^^^ y).isLt
theorem R6(x):IntKind.u32.wrap (((BitVec.ofInt IntKind.u32.bits (x.toNat:Int) ^^^ BitVec.ofInt IntKind.u32.bits (3988292384:Int)).toNat:Nat):Int)=((x ^^^ 0xedb88320#32).toNat:Int):=MP x 0xedb88320#32
theorem UL(x:BitVec 32):IntKind.u32.wrap (((BitVec.ofInt IntKind.u32.bits (if IntKind.u32.signed=true then -1 else IntKind.u32.max) ^^^ BitVec.ofInt IntKind.u32.bits (x.toNat:Int)).toNat:Nat):Int)=((~~~ x).toNat:Int):=by have:=MP (BitVec.allOnes 32) x;exact adr
theorem Tx(x:BitVec 32):IntKind.u32.wrap (((BitVec.ofInt IntKind.u32.bits (x.toNat:Int) &&& BitVec.ofInt IntKind.u32.bits (1:Int)).toNat:Nat):Int)=((x &&& 1#32).toNat:Int):=by
 have e:BitVec.ofInt IntKind.u32.bits (x.toNat:Int)=x:=by
  show BitVec.ofInt 32 (x.toNat:Int)=x
  simp
 rw[e];exact w32 _ (x &&& 1#32).isLt
theorem UY(x:BitVec 32):(x.toNat:Int).fdiv (2 ^ (min (1:Int).toNat IntKind.u32.bits))=((x>>>1).toNat:Int):=by
 show(x.toNat:Int).fdiv (2 ^ 1)=_
 grind [Int.fdiv_eq_ediv_of_nonneg,Nat.shiftRight_eq_div_pow]
theorem Xy(n:Nat)(k:Nat)(hk:k≤24):(n:Int).fdiv (2 ^ (min (k:Int).toNat IntKind.u32.bits))=((n / 2 ^ k:Nat):Int):=by grind [min,Int,IntKind.bits,Int.fdiv_eq_ediv_of_nonneg,Int.le_of_lt,Int.pow_pos]
theorem Xo(a b k:Nat)(ha:a<2 ^ k)(hk:k≤24)(hb:b<256):IntKind.u32.wrap (((BitVec.ofInt IntKind.u32.bits (a:Int)|||BitVec.ofInt IntKind.u32.bits ((b*2 ^ k:Nat):Int)).toNat:Nat):Int)=((a+b*2 ^ k:Nat):Int):=by
 have h24:2 ^ k≤2 ^ 24:=Nat.pow_le_pow_right acN hk;have hbk:b*2 ^ k≤255*2 ^ 24:=Nat.mul_le_mul acK h24;have e1:(BitVec.ofNat 32 a|||BitVec.ofNat 32 (b*2 ^ k)).toNat=a+b*2 ^ k:=by exact ahD
 show IntKind.u32.wrap (((BitVec.ofInt 32 (a:Int)|||BitVec.ofInt 32 ((b*2 ^ k:Nat):Int)).toNat:Nat):Int)=_
 rw[AQ,AQ,e1]
 grind [w32]
theorem UX(b k:Nat)(hk:k≤24)(hb:b<256):IntKind.u32.wrap ((b:Int)*2 ^ (min (k:Int).toNat IntKind.u32.bits))=((b*2 ^ k:Nat):Int):=by
 have h24:2 ^ k≤2 ^ 24:=Nat.pow_le_pow_right acN hk;have hbk:b*2 ^ k≤255*2 ^ 24:=Nat.mul_le_mul acK h24;have:min (k:Int).toNat IntKind.u32.bits=k:=agq;rw[this,show((b:Int)*2 ^ k)=((b*2 ^ k:Nat):Int) by simp]
 exact w32 _ acK
section
variable {U : TypeId → TI} {ty : TypeId} {K : AV → Prop}
@[go_sem high] theorem acy(x y:BitVec 32):cy U .xor ty (.v (.int .u32 (x.toNat:Int))) (.v (.int .u32 (y.toNat:Int))) K=K (.v (.int .u32 ((x ^^^ y).toNat:Int))):=by rw[O7,MP]
@[go_sem high] theorem aam(x):cy U .xor ty (.v (.int .u32 (x.toNat:Int))) (.v (.int .u32 3988292384)) K=K (.v (.int .u32 ((x ^^^ 0xedb88320#32).toNat:Int))):=by rw[O7,R6]
@[go_sem high] theorem WR(x):cy U .and ty (.v (.int .u32 (x.toNat:Int))) (.v (.int .u32 1)) K=K (.v (.int .u32 ((x &&& 1#32).toNat:Int))):=by rw[Ki,Tx]
@[go_sem high] theorem WT(x:BitVec 32)(kk):cy U .shr ty (.v (.int .u32 (x.toNat:Int))) (.v (.int kk 1)) K=K (.v (.int .u32 ((x>>>1).toNat:Int))):=by grind [Kj,UY]
@[go_sem high] theorem XD(x:BitVec 32):unA .xor (.v (.int .u32 (x.toNat:Int))) K=K (.v (.int .u32 ((~~~ x).toNat:Int))):=by rw[Ce,UL]
theorem Kp(n k:Nat)(kk)(hk:k≤24):cy U .shr ty (.v (.int .u32 (n:Int))) (.v (.int kk (k:Int))) K=K (.v (.int .u32 ((n / 2 ^ k:Nat):Int))):=by grind [Kj,Xy]
theorem Ko(a b k:Nat)(ha:a<2 ^ k)(hk:k≤24)(hb:b<256):cy U .or ty (.v (.int .u32 (a:Int))) (.v (.int .u32 ((b*2 ^ k:Nat):Int))) K=K (.v (.int .u32 ((a+b*2 ^ k:Nat):Int))):=by grind [Qo,Xo]
theorem EK(b k:Nat)(kk)(hk:k≤24)(hb:b<256):cy U .shl ty (.v (.int .u32 (b:Int))) (.v (.int kk (k:Int))) K=K (.v (.int .u32 ((b*2 ^ k:Nat):Int))):=by grind [O6,UX]
end
section
variable {P : Program} {U : TypeId → TI} {n : Nat} {ρ : Env} {h0 h h' : Heap} {tb : TypeId} {y v : AV} {l m : List UInt8} {Q : AV → Heap → Prop}
end
section
variable {U : TypeId → TI} {ty : TypeId} {K : AV → Prop}
end
section
variable {P : Program} {U : TypeId → TI} {n : Nat} {ρ : Env} {h : Heap}
section
variable (all : List Oper) (bs : List Bool) (r : List Oper) (K : Env → Heap → Prop)
end
theorem ai.of_wp{f}{fn}{c}{args}{Q}(hU:∀t,aO P U t)(hf:P.funcs[f]? =some fn)(hb:fn.body=some c)
  (hn : (fn.name == "runtime.NumGoroutine") = false) (m) (hm' : fn.ntmps = m) (rs) (hr : fn.results.toList = rs) (hl : args.length ≤ m)
  (hk:WP P m c (xK args) h (vq U rs Q)):ai P f args h Q:=by
 subst hm';subst hr
 exact ai.LC hU hf hb hn hl fun _=>hk
end
section
variable {P : Program} {U : TypeId → TI} {n : Nat} {ρ : Env} {h : Heap}
def KCut(I:Env→Heap→Prop)(K:Exit→Env→Heap→Prop):Exit→Env→Heap→Prop:=KSeq I K
theorem Tk(I)(K):KCut I K .ret ρ h=K .ret ρ h:=(rfl)
theorem WP.cut{c d}{K}(I)(hc:WP P n c ρ h (KCut I K))(hd:∀ρ h,I ρ h→WP P n d ρ h K):WP P n (.seq c d) ρ h K:=
 WP.seq (hc.weaken fun e ρ h hk=>by
  cases e with
  |normal=>exact hd ρ h hk
  |_=>exact hk)
theorem WP.vc(hU:∀t,aO P U t)(hm:P.follows .mixedOrders=true){c}{K}(hk:bH P U n c ρ h K):WP P n c ρ h K:=dJ hU hm c ρ h K hk
def KNext(P:Program)(n:Nat)(d:Code)(K:Exit→Env→Heap→Prop):Exit→Env→Heap→Prop:=KSeq (WP P n d · · K) K
theorem M4(d)(K):KNext P n d K .normal ρ h=WP P n d ρ h K:=(rfl)
theorem Sj(d)(K):KNext P n d K .ret ρ h=K .ret ρ h:=(rfl)
theorem P5(d)(K)(i):KNext P n d K (.goto i) ρ h=K (.goto i) ρ h:=(rfl)
theorem WP.one(hU:∀t,aO P U t)(hm:P.follows .mixedOrders=true){c d}{K}(hk:bH P U n c ρ h (KNext P n d K)):WP P n (.seq c d) ρ h K:=WP.seq (dJ hU hm c ρ h _ hk)
attribute [go_sem↓] Tk M4 Sj P5
end
section
variable {P : Program} {U : TypeId → TI} {n : Nat} {ρ : Env} {h : Heap}
variable {d : Option Tmp} {t : TypeId} {p : String} {a : Array Edge} {g : Option (Nat × Bool)} {Q : AV → Heap → Prop} {k : AV → Prop}
theorem VB(x y)(k):atK (.map x y) k=k (.map x y):=(rfl)
theorem TG(i):AV.cells (.mp i)= [.mp i]:=(rfl)
theorem W6(i m):fit (.mp i) m=(m=1):=(rfl)
theorem Wa(l):gG .str (.s l)=(l.length≤maxLen):=(rfl)
def mpL(b:Blk)(f:List (AV×AV)→Prop):Prop:=match b with
 |.mp m=>f m
 |_=>False
@[congr] theorem SW{b b'}{f}(e:b=b'):mpL b f=mpL b' f:=by rw[e]
theorem Xe(m)(f):mpL (.mp m) f=f m:=(rfl)
def Ad(tk:TK)(m:List (AV×AV)):Prop:=∀p∈m,gG tk p.1
def J6(ti:TI):Prop:=ti.sz≠0∨ti.k= .strct []
def Ds(U:TypeId→TI)(h:Heap)(u v:AV)(ok:Bool)(k:AV→Prop)(tk:TK):Prop:=match tk,u with
 |.map kt e,.mp id=>gG (U kt).k v∧J6 (U e)∧aE (h id) fun b=>mpL b fun m=>Ad (U kt).k m∧k (yw U e m v ok)
 |_,_=>False
@[congr] theorem Po{u u' v v'}{ok}{k}{tk}(h1:u=u')(h2:v=v'):Ds U h u v ok k tk=Ds U h u' v' ok k tk:=by grind
theorem UD(kt e)(id)(v)(ok):Ds U h (.mp id) v ok k (.map kt e)=(gG (U kt).k v∧J6 (U e)∧aE (h id) fun b=>mpL b fun m=>Ad (U kt).k m∧k (yw U e m v ok)):=(rfl)
attribute [go_sem] VB TG W6 Wa
attribute [go_sem↓] Xe UD
theorem UP(mt)(x y)(ok):bh P U ρ h ⟨d,.lookup mt x y ok,t,p,a,g⟩ Q=aE (ev ρ x) fun u=>aE (ev ρ y) fun v=>atK (U mt).k (Ds U h u v ok (atH Q h)):=by
 simp only[bh,pv,bT,atK]
 congr 1
 funext u
 congr 1
 funext v
 cases (U mt).k with
 |map kt e=>
  cases u with
  |mp id=>
   simp only[Ds]
   congr 2
   exact ag2
  |_=>rfl
 |_=>rfl
def LV(U:TypeId→TI)(h:Heap)(u v w:AV)(Q:AV→Heap→Prop)(tk:TK):Prop:=match tk,u with
 |.map kt e,.mp id=>gG (U kt).k v∧aE (h id) fun b=>mpL b fun m=>Ad (U kt).k m∧Q (.v undef) (upd h id (some (.mp (zT m v w))))
 |_,_=>False
@[congr] theorem Ry{u u' v v' w w'}{tk}(h1:u=u')(h2:v=v')(h3:w=w'):LV U h u v w Q tk=LV U h u' v' w' Q tk:=by grind
theorem Wp(kt e)(id)(v w):LV U h (.mp id) v w Q (.map kt e)=(gG (U kt).k v∧aE (h id) fun b=>mpL b fun m=>Ad (U kt).k m∧Q (.v undef) (upd h id (some (.mp (zT m v w))))):=(rfl)
attribute [go_sem↓] UP Wp
theorem Pv(mt)(x y z):bh P U ρ h ⟨d,.mapUpdate mt x y z,t,p,a,g⟩ Q=aE (ev ρ x) fun u=>aE (ev ρ y) fun v=>aE (ev ρ z) fun w=>atK (U mt).k (LV U h u v w Q):=by
 simp only[bh,bT,atK]
 congr 1
 funext u
 congr 1
 funext v
 congr 1
 funext w
 cases (U mt).k with
 |map kt e=>
  cases u with
  |mp id=>
   simp only[LV]
   congr 1
   exact ag2
  |_=>rfl
 |_=>rfl
def To(h:Heap)(Q:AV→Heap→Prop):Prop:=∀id,h id=none→Q (.mp id) (upd h id (some (.mp [])))
attribute [go_sem↓] Pv
@[go_sem↓] theorem S7(mt):bh P U ρ h ⟨d,.makeMap mt none,t,p,a,g⟩ Q=To h Q:=by simp only[bh,Hw,true_and];rfl
end
def zS(ls:List (List UInt8)):List (AV×AV):=ls.map fun l=>(.s l,.agg [])
theorem C3(ls)(l):getM (zS ls) (.s l)=if l∈ls then some (.agg [])else none:=by
 induction ls with
 |nil=>rfl
 |cons x ls ih=>
  simp only[getM,zS,List.map_cons,List.find?_cons,si]at ih⊢
  grind
theorem Mj{ls}{l}(hn:l∉ls):zT (zS ls) (.s l) (.agg [])=zS (ls++ [l]):=by unfold zT;rw[C3,if_neg hn];simp[zS]
theorem I5(U)(e)(he:(U e).sz=0)(ls)(l):yw U e (zS ls) (.s l) true= .tup [.agg [],.b (decide (l∈ls))]:=by
 simp only[yw,C3,jF,he,if_true]
 grind
theorem I3{ls}(h:∀l∈ls,l.length≤maxLen):Ad .str (zS ls):=fun p hp=>by obtain⟨l,hl,rfl⟩:=List.mem_map.1 hp;exact h l hl
end Go.Ab
