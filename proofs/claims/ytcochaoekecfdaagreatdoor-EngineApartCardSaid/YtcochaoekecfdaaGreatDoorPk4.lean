/- The law EngineApart: pack 4 of its texts. -/
import Derived.Lib.AtoiAll
import Derived.Shelf.Small.Strs
import Derived.Shelf.Small.Wraps
import Derived.Shelf.Strconv.AtoiAll
import Derived.Shelf.Strconv.ErrVarAll
import Derived.Shelf.Strings.Search1
import Derived.Test.YtcochaoekecfdaaGreatDoorProg
import Derived.KernelRfl
import Derived.WalkKit
import Derived.BigCall
import Derived.Lib.ItoaLen
import Derived.Test.YtcochaoekecfdaaGreatDoorPk1
import Derived.Test.YtcochaoekecfdaaGreatDoorPk2
import Derived.Test.YtcochaoekecfdaaGreatDoorPk3
set_option linter.unusedSimpArgs false
set_option linter.unusedVariables false
set_option maxRecDepth 100000
namespace Go.Bf
open Go Go.Ab
structure qZ where
 kind:Int
 pos:Int
 n:Int
 s:Txt
def fA(t:qZ):AV:=.agg [.i t.kind,.i t.pos,.i t.n,.s t.s]
def wrd(c:UInt8):Bool:=ltr c||dgt c||(c.toNat:Int)==95
def pq(l:Txt):Nat:=l.foldl (fun n c=>n*10+(c.toNat - 48)) 0
def eR(neg:Bool)(s:Txt):Int×Nat:=
 let d:=s.takeWhile dgt
 if d= []∨(1<d.length∧s.head? =some 48)then(0,0)else
 let v:Int:=if neg then -(pq d:Int)else(pq d:Int)
 if -9223372036854775808≤v∧v≤9223372036854775807 then(v,d.length)else(0,0)
def jl(s:Txt):Txt:=if bl (s.takeWhile wrd)then s.takeWhile wrd else []
def jo(c:UInt8):Int:=if dgt c then(c.toNat:Int) - 48 else if 97≤(c.toNat:Int)∧(c.toNat:Int)≤102 then(c.toNat:Int) - 87 else -1
def td:Txt→Option UInt8
 |b::x::y::_=>if b=92∧0≤jo x∧0≤jo y∧E9 (UInt8.ofNat (16*jo x+jo y).toNat)=true then some (UInt8.ofNat (16*jo x+jo y).toNat)else none
 |_=>none
def tK:Nat→Txt→Nat→Txt→Txt×Nat
 |0,_,_,_=>([],0)
 |_+1,[],_,_=>([],0)
 |f+1,c::r,at_,out=>
  if c=34 then(if 64<out.length then([],0)else(out,at_+1))
  else if E9 c=false then tK f r (at_+1) (out++ [c])
  else match td (c::r)with
   |some b=>tK f (r.drop 2) (at_+3) (out++ [b])
   |none=>([],0)
def yQ(s:Txt):Txt×Nat:=tK s.length (s.drop 1) 1 []
def C5(c:UInt8):Bool:=c∈([123,125,40,41,46,44,59,61,60,62,33]:Txt)
def bP(s:Txt):qZ×Nat:=
 let c:=s.headD 0
 if ltr c then(⟨1,0,0,jl s⟩,(jl s).length)
 else if dgt c then(⟨2,0,(eR false s).1,[]⟩,(eR false s).2)
 else if c=45 then(⟨2,0,(eR true (s.drop 1)).1,[]⟩,if(eR true (s.drop 1)).1=0 then 0 else(eR true (s.drop 1)).2+1)
 else if c=64 then(⟨3,0,(eR false (s.drop 1)).1,[]⟩,if(eR false (s.drop 1)).2=0∨(eR false (s.drop 1)).1>1099511627776 then 0 else(eR false (s.drop 1)).2+1)
 else if c=35 then(⟨4,0,0,jl (s.drop 1)⟩,if jl (s.drop 1)= []then 0 else(jl (s.drop 1)).length+1)
 else if c=34 then(⟨5,0,0,(yQ s).1⟩,(yQ s).2)
 else if C5 c then(⟨6,0,0,[c]⟩,1)
 else(⟨0,0,0,[]⟩,0)
inductive Lexed where
 |bad (e:Int) (at_:Int)
 |ok (l:List qZ)
def pN(c:UInt8):Bool:=(c.toNat:Int)==32||(c.toNat:Int)==10
def sY:Nat→Txt→Nat→List qZ→Lexed
 |0,_,at_,_=> .bad 5 at_
 |_+1,[],at_,out=> .ok (out++ [⟨7,at_,0,[]⟩])
 |f+1,c::r,at_,out=>
  if pN c then sY f r (at_+1) out
  else if(bP (c::r)).2=0 then .bad 5 at_
  else sY f ((c::r).drop (bP (c::r)).2) (at_+(bP (c::r)).2) (out++ [{(bP (c::r)).1 with pos:=at_}])
def rR(s:Txt):Lexed:=if s.length>4096 then .bad 6 4096 else sY (s.length+1) s 0 []
theorem jG(p:UInt8→Bool)(s:Txt):(s.takeWhile p).length≤s.length:=(List.takeWhile_prefix p).length_le
theorem qH(p:UInt8→Bool)(s:Txt):s.take (s.takeWhile p).length=s.takeWhile p:=by
 obtain⟨t,ht⟩:=List.takeWhile_prefix (l:=s) p
 grind
theorem oF(neg:Bool)(s:Txt):(eR neg s).2≤s.length:=by
 have:=jG dgt s;unfold eR;simp only;split
 ·exact aem
 ·generalize (if neg=true then -(pq (s.takeWhile dgt):Int)else(pq (s.takeWhile dgt):Int))=v
  split
  ·exact abZ
  ·exact aem
theorem tV(s:Txt):(jl s).length≤s.length:=by
 grind [jG,wrd,jl]
theorem Dc{s:Txt}{b:UInt8}(h:td s=some b):3≤s.length:=by
 match s,h with
 |_::_::_::_,_=>simp
theorem yR:∀(f:Nat) (r:Txt) (at_:Nat) (out:Txt),(tK f r at_ out).2≤at_+r.length
 |0,_,_,_=>by simp[tK]
 |_+1,[],_,_=>by simp[tK]
 |f+1,c::r,at_,out=>by
  simp only[tK];split
  ·grind
  ·split
   ·have:=yR f r (at_+1) (out++ [c]);simp only[List.length_cons];omega
   ·split
    ·rename_i b hb
     have h3:=Dc hb;have:=yR f (r.drop 2) (at_+3) (out++ [b]);simp only[List.length_cons,List.length_drop]at this h3⊢;omega
    ·simp
theorem rH(s:Txt)(hs:s≠ []):(bP s).2≤s.length:=by
 have h1:1≤s.length:=abi;have hd:(s.drop 1).length=s.length - 1:=abp;have k1:=tV s;have k2:=tV (s.drop 1);have k3:=oF false s;have k4:=oF false (s.drop 1);have k5:=oF true (s.drop 1);have k6:=yR s.length (s.drop 1) 1 [];unfold bP;simp only;split
 ·exact k1
 split
 ·exact k3
 split
 ·simp only;split<;>omega
 split
 ·simp only;split<;>omega
 split
 ·simp only;split<;>omega
 split
 ·simp only[yQ];omega
 split
 ·simp only;omega
 ·simp
structure PS where
 ts:List qZ
 pos:Nat
 rules:Nat
 bad:Int
 place:Int
def aJ(st:PS):qZ:=st.ts.getD st.pos ⟨7,0,0,[]⟩
def bG(st:PS)(e p:Int):PS:=if st.bad=0 then {st with bad:=e,place:=p} else st
def bg(st:PS):PS:=bG st 5 (aJ st).pos
def bC(st:PS)(more:Bool):PS:=if more then bG st 6 (aJ st).pos else st
def isD(st:PS)(s:Txt):Bool:=st.bad==0 && ((aJ st).s==s && ((aJ st).kind==1||(aJ st).kind==6))
def aZ(st:PS):PS:={st with pos:=st.pos+1}
def cm(st:PS)(s:Txt):Bool×PS:=if isD st s=true then(true,aZ st)else(false,st)
def dO(st:PS)(s:Txt):PS:=if isD st s=true then aZ st else bg st
def ck(st:PS):Txt×PS:=
 if(aJ st).kind=1∧st.bad=0 then((aJ st).s,aZ st)else([],if(aJ st).kind=1 then st else bg st)
def uo(s:Txt):List Txt→Option Nat
 | []=>none
 |w::r=>if w=s then some 0 else(uo s r).map (· +1)
def aV(st:PS)(ws:List Txt):Int×PS:=match uo (aJ st).s ws with
 |some i=>if(aJ st).kind=1∧st.bad=0 then((i:Int)+1,aZ st)else(0,bg st)
 |none=>(0,bg st)
def WfP(st:PS):Prop:=st.pos<st.ts.length∧(∀i (h:i<st.ts.length),st.ts[i].kind≠7→i+1<st.ts.length)∧st.ts.length≤5000
theorem CN{st:PS}(h:st.pos<st.ts.length):aJ st=st.ts[st.pos]:=by
 grind [aJ,List.getElem?_eq_getElem]
theorem Jh{st:PS}(e p:Int)(h:WfP st):WfP (bG st e p):=by
 unfold bG;split<;>exact h
theorem LZ{st:PS}(h:WfP st)(hk:(aJ st).kind≠7):WfP (aZ st):=by
 rw[CN h.1]at hk;exact⟨h.2.1 _ h.1 hk,h.2⟩
theorem dD{st:PS}{s:Txt}(h:isD st s=true):(aJ st).kind≠7:=by
 simp only[isD,Bool.and_eq_true,Bool.or_eq_true,beq_iff_eq]at h;omega
def Ah(st st' :PS):Prop:=WfP st'∧st'.ts=st.ts∧st.pos≤st'.pos
theorem Ah.refl{st:PS}(h:WfP st):Ah st st:=⟨h,rfl,Nat.le_refl _⟩
theorem Ah.trans{a b c:PS}(x:Ah a b)(y:Ah b c):Ah a c:=⟨y.1,y.2.1.trans x.2.1,Nat.le_trans x.2.2 y.2.2⟩
theorem wW{st:PS}(e p:Int)(h:WfP st):Ah st (bG st e p):=⟨Jh e p h,by grind [bG],by unfold bG;grind⟩
theorem eP{st:PS}(h:WfP st)(hk:(aJ st).kind≠7):Ah st (aZ st):=⟨LZ h hk,rfl,Nat.le_succ _⟩
theorem nC{st:PS}(h:WfP st):Ah st (bg st):=wW _ _ h
theorem kC{st:PS}(b:Bool)(h:WfP st):Ah st (bC st b):=by
 unfold bC;split
 ·grind [wW]
 ·exact adD
theorem Mo{st:PS}(s:Txt)(h:WfP st):Ah st (cm st s).2:=by
 unfold cm;split
 ·grind [eP,dD]
 ·exact adD
theorem iR{st:PS}(s:Txt)(h:WfP st):Ah st (dO st s):=by
 grind [dO,eP,dD,nC]
theorem mB{st:PS}(h:WfP st):Ah st (ck st).2:=by
 unfold ck;split
 ·grind [eP]
 ·simp only;split
  ·exact adD
  grind [nC]
theorem gp{st:PS}(ws:List Txt)(h:WfP st):Ah st (aV st ws).2:=by
 grind [aV,eP,nC]
def vh:List Txt:=[[115,117,98,106,101,99,116],[97,99,116,105,111,110],[99,97,115,101],[101,110,118]]
def fN(st:PS):pF×PS:=
 (⟨(aV st vh).1,(ck (dO (aV st vh).2 [46])).1,(cm (ck (dO (aV st vh).2 [46])).2 [33]).1⟩,(cm (ck (dO (aV st vh).2 [46])).2 [33]).2)
theorem A3{st:PS}(h:WfP st):Ah st (fN st).2:=by
 have h1:=gp vh h;have h2:=iR [46] h1.1;have h3:=mB h2.1;exact((h1.trans h2).trans h3).trans (Mo [33] h3.1)
def vQ:Txt:=[116,114,117,101]
def pY:Txt:=[102,97,108,115,101]
def fM(st:PS):bA×PS:=
 if(aJ st).kind=2 then(⟨2,(aJ st).n,(aJ st).s⟩,st)
 else if(aJ st).kind=3 then(⟨4,(aJ st).n,(aJ st).s⟩,st)
 else if(aJ st).kind=4 then(⟨5,(aJ st).n,(aJ st).s⟩,st)
 else if(aJ st).kind=5 then(⟨3,(aJ st).n,(aJ st).s⟩,st)
 else if isD st vQ then(⟨1,1,[]⟩,st)
 else if isD st pY then(⟨1,0,[]⟩,st)
 else(⟨0,(aJ st).n,(aJ st).s⟩,bg st)
def aD(st:PS):bA×PS:=if(fM st).2.bad=0 then((fM st).1,aZ (fM st).2)else(⟨0,0,[]⟩,(fM st).2)
theorem qW(st:PS):(bg st).bad≠0:=by
 grind [bg,bG,Int]
theorem tP(st:PS):(fM st).2=st∧(aJ st).kind≠7∨(fM st).2=bg st:=by
 unfold fM;split
 ·grind
 split
 ·grind
 split
 ·grind
 split
 ·grind
 split
 ·rename_i h;exact .inl ⟨rfl,dD h⟩
 split
 ·rename_i h;exact .inl ⟨rfl,dD h⟩
 simp
theorem B1{st:PS}(h:WfP st):Ah st (aD st).2:=by
 unfold aD;rcases tP st with⟨e,hk⟩|e
 ·rw[e];split
  ·grind [eP]
  ·exact adD
 simp_all [if_neg,qW,nC]
def opP(st:PS):Int×PS:=
 if isD st [61]then(1,aZ st)else if isD st [60]then(2,aZ st)else if isD st [62]then(3,aZ st)else(0,bg st)
theorem Sr{st:PS}(h:WfP st):Ah st (opP st).2:=by
 grind [opP,eP,dD,nC]
def ga(st:PS):bO×PS:=(⟨(fN st).1,(opP (fN st).2).1,(aD (opP (fN st).2).2).1⟩,(aD (opP (fN st).2).2).2)
theorem pI{st:PS}(h:WfP st):Ah st (ga st).2:=by
 have h1:=A3 h;have h2:=Sr h1.1;exact(h1.trans h2).trans (B1 h2.1)
def fG{α:Type}(one:PS→α×PS)(w:Txt)(most:Nat):Nat→PS→List α→List α×PS
 |0,st,l=>(l,st)
 |f+1,st,l=>if isD st w=true then fG one w most f (bC (one (aZ st)).2 (decide (most<l.length+1))) (l++ [(one (aZ st)).1])else(l,st)
theorem so{α:Type}{one:PS→α×PS}(ho:∀st,WfP st→Ah st (one st).2)(w:Txt)(most:Nat):∀(f:Nat) (st:PS) (l:List α),WfP st→Ah st (fG one w most f st l).2
 |0,st,l,h=> .refl h
 |f+1,st,l,h=>by
  unfold fG;split
  ·rename_i hi
   have h1:=eP h (dD hi);have h2:=ho _ h1.1;have h3:=kC (decide (most<l.length+1)) h2.1;exact((h1.trans h2).trans h3).trans (so ho w most f _ _ h3.1)
  ·exact adD
def orT:Txt:=[111,114]
def B3:Txt:=[97,110,100]
def D3:Txt:=[119,104,101,110]
def pn(st:PS):List bO×PS:=fG ga [44] 8 st.ts.length (ga st).2 [(ga st).1]
theorem A1{st:PS}(h:WfP st):Ah st (pn st).2:=(pI h).trans (so (fun _ h=>pI h) _ _ _ _ _ (pI h).1)
def rf(st:PS):List (List bO)×PS:=
 let a:=pn (dO st [40])
 let m:=fG pn orT 8 st.ts.length a.2 [a.1]
 (m.1,dO m.2 [41])
theorem A2{st:PS}(h:WfP st):Ah st (rf st).2:=by
 have h0:=iR [40] h;have h1:=A1 h0.1;have h2:=so (fun _ h=>A1 h) orT 8 st.ts.length _ [(pn (dO st [40])).1] h1.1
 exact((h0.trans h1).trans h2).trans (iR [41] h2.1)
def gD(st:PS):fU×PS:=if isD st D3=true then fG rf B3 8 st.ts.length (rf (aZ st)).2 [(rf (aZ st)).1]else([],st)
theorem A7{st:PS}(h:WfP st):Ah st (gD st).2:=by
 unfold gD;split
 ·rename_i hi
  have h0:=eP h (dD hi);have h1:=A2 h0.1;exact(h0.trans h1).trans (so (by grind [A2]) _ _ _ _ _ h1.1)
 ·exact adD
def kY:List Txt:=[[111,110,101],[115,105,122,101],[104,97,115],[101,113],[108,101,115,115],[97,100,100],[115,117,98],[109,117,108],[110,111,116],[97,110,100],[111,114]]
def opers(op:Int):List Bool:=if op=3∨op=4 then [true]else if op=5 then [true,false]else if op=11 then [false]else [false,false]
abbrev ExF:=PS→List aO→(List aO×Bool)×PS
def gU(ex:ExF)(st:PS)(l:List aO)(must:Bool):List aO×PS:=
 ((ex st l).1.1,if(ex st l).1.2=must then(ex st l).2 else bG (ex st l).2 5 (aJ st).pos)
def iW(ex:ExF):List Bool→PS→List aO→List aO×PS
 | [],st,l=>(l,st)
 |b::bs,st,l=>if st.bad=0 then iW ex bs (gU ex st l b).2 (gU ex st l b).1 else(l,st)
def qb(ex:ExF)(st:PS)(l:List aO):(List aO×aO)×PS:=
 (((iW ex (opers (2+(aV st kY).1)) (aV st kY).2 l).1,⟨2+(aV st kY).1,⟨0,0,[]⟩,⟨0,[],false⟩⟩),dO (iW ex (opers (2+(aV st kY).1)) (aV st kY).2 l).2 [41])
def iN(ex:ExF)(st:PS)(l:List aO):(List aO×aO)×PS:=
 if isD st [40]=true then qb ex (aZ st) l
 else if(aJ st).kind=1∧(aJ st).s≠vQ∧(aJ st).s≠pY then((l,⟨2,⟨0,0,[]⟩,(fN st).1⟩),(fN st).2)
 else((l,⟨1,(aD st).1,⟨0,[],false⟩⟩),(aD st).2)
def dX:Nat→ExF
 |0,st,l=>((l,false),st)
 |f+1,st,l=>(((iN (dX f) st l).1.1++ [(iN (dX f) st l).1.2],(iN (dX f) st l).1.2.op==2),bC (iN (dX f) st l).2 (decide (32<(iN (dX f) st l).1.1.length+1)))
def D7(ex:ExF):Prop:=∀st l,WfP st→Ah st (ex st l).2∧(ex st l).1.1.length+2*st.pos≤l.length+2*(ex st l).2.pos+1
theorem yg{ex:ExF}(he:D7 ex)(st:PS)(l:List aO)(b:Bool)(h:WfP st):Ah st (gU ex st l b).2∧(gU ex st l b).1.length+2*st.pos≤l.length+2*(gU ex st l b).2.pos+1:=by
 obtain⟨h1,h2⟩:=he st l h;unfold gU;split
 ·grind
 ·refine⟨h1.trans (wW _ _ h1.1),?_⟩
  grind [bG,aJ]
theorem Ap{ex:ExF}(he:D7 ex):∀(bs:List Bool) (st:PS) (l:List aO),WfP st→Ah st (iW ex bs st l).2∧(iW ex bs st l).1.length+2*st.pos≤l.length+2*(iW ex bs st l).2.pos+bs.length
 | [],st,l,h=>⟨.refl h,by simp[iW]⟩
 |b::bs,st,l,h=>by
  unfold iW;split
  ·obtain⟨h1,h2⟩:=yg he st l b h
   obtain⟨h3,h4⟩:=Ap he bs (gU ex st l b).2 (gU ex st l b).1 h1.1;exact⟨h1.trans h3,abi⟩
  ·exact⟨.refl h,abp⟩
theorem Dg(op:Int):(opers op).length≤2:=by
 grind [opers]
theorem Kh{ex:ExF}(he:D7 ex)(st:PS)(l:List aO)(h:WfP st):Ah st (qb ex st l).2∧(qb ex st l).1.1.length+2*st.pos≤l.length+2*(qb ex st l).2.pos+2:=by
 have h1:=gp kY h;obtain⟨h2,h3⟩:=Ap he (opers (2+(aV st kY).1)) _ l h1.1;have h4:=iR [41] h2.1;have:=Dg (2+(aV st kY).1);have p1:=h1.2.2;have p4:=h4.2.2;unfold qb;exact⟨(h1.trans h2).trans h4,abi⟩
theorem CM{ex:ExF}(he:D7 ex)(st:PS)(l:List aO)(h:WfP st):Ah st (iN ex st l).2∧(iN ex st l).1.1.length+2*st.pos≤l.length+2*(iN ex st l).2.pos:=by
 unfold iN;split
 ·rename_i hi
  have h1:=eP h (dD hi);obtain⟨h2,h3⟩:=Kh he _ l h1.1;have:(aZ st).pos=st.pos+1:=rfl;exact⟨h1.trans h2,abh⟩
 ·split
  ·have h1:=A3 h
   have:=h1.2.2;exact⟨h1,abi⟩
  ·have h1:=B1 h
   have:=h1.2.2;exact⟨h1,abi⟩
theorem pX:∀f,D7 (dX f)
 |0=>fun st l h=>⟨.refl h,by simp[dX]⟩
 |f+1=>fun st l h=>by
  obtain⟨h1,h2⟩:=CM (pX f) st l h;have h3:=kC (decide (32<(iN (dX f) st l).1.1.length+1)) h1.1;have:=h3.2.2;refine⟨h1.trans h3,?_⟩
  grind [dX,abb,List.length_singleton]
def uB:List Txt:=[[112,101,114,109,105,116],[100,101,110,121]]
def lU:List Txt:=[[108,111,103],[114,101,100,97,99,116],[114,101,118,105,101,119],[110,111,116,105,102,121]]
def vF:Txt:=[111,110]
def zo(st:PS):cC×PS:=
 (⟨(aV st uB).1,(aV (aV st uB).2 lU).1,(ck (aV (aV st uB).2 lU).2).1⟩,(ck (aV (aV st uB).2 lU).2).2)
theorem Jz{st:PS}(h:WfP st):Ah st (zo st).2:=by
 have h1:=gp uB h;have h2:=gp lU h1.1;exact(h1.trans h2).trans (mB h2.1)
def fV(st:PS):List cC×PS:=fG zo vF 8 st.ts.length st []
theorem A5{st:PS}(h:WfP st):Ah st (fV st).2:=so (fun _ h=>Jz h) _ _ _ _ _ h
inductive Rch (a:PS):PS→Prop where
 |refl:Rch a a
 |wrong {b:PS} (e p:Int):Rch a b→(e=5∨e=6)→(∃i,i≤b.pos∧p=(b.ts.getD i ⟨7,0,0,[]⟩).pos)→Rch a (bG b e p)
 |next {b:PS}:Rch a b→b.bad=0→(aJ b).kind≠7→Rch a (aZ b)
theorem Rch.trans{a b c:PS}(x:Rch a b)(y:Rch b c):Rch a c:=by
 induction y with
 |refl=>exact x
 |wrong e p _ h1 h2 ih=>grind [wrong]
 |next _ h1 h2 ih=>grind [next]
theorem jZ(st:PS):Rch st (bg st):=.wrong _ _ .refl (.inl rfl) ⟨st.pos,Nat.le_refl _,rfl⟩
theorem qS(st:PS)(b:Bool):Rch st (bC st b):=by
 unfold bC;split
 ·exact .wrong _ _ .refl (.inr rfl) ⟨st.pos,Nat.le_refl _,rfl⟩
 ·exact adI
theorem Gh{st:PS}{s:Txt}(h:isD st s=true):st.bad=0:=by
 simp_all [isD,Bool.and_eq_true,beq_iff_eq]
theorem rY{st:PS}{s:Txt}(h:isD st s=true):Rch st (aZ st):=.next .refl (Gh h) (dD h)
theorem Lm(st:PS)(s:Txt):Rch st (cm st s).2:=by
 unfold cm;split
 ·grind [rY]
 ·exact adI
theorem me(st:PS)(s:Txt):Rch st (dO st s):=by
 grind [dO,rY,jZ]
theorem tH(st:PS):Rch st (ck st).2:=by
 unfold ck;split
 ·rename_i h;exact .next .refl h.2 abh
 ·simp only;split
  ·exact adI
  grind [jZ]
theorem lR(st:PS)(ws:List Txt):Rch st (aV st ws).2:=by
 unfold aV;split
 ·split
  ·rename_i h;exact .next .refl h.2 abh
  grind [jZ]
 grind [jZ]
theorem Du(st:PS):Rch st (fN st).2:=(((lR st vh).trans (me _ [46])).trans (tH _)).trans (Lm _ [33])
theorem AA(st:PS):Rch st (aD st).2:=by
 unfold aD;rcases tP st with⟨e,hk⟩|e
 ·rw[e];split
  ·rename_i h;exact .next .refl h hk
  ·exact adI
 simp_all [if_neg,qW,jZ]
theorem Qx(st:PS):Rch st (opP st).2:=by
 grind [opP,rY,jZ]
theorem Ay(st:PS):Rch st (ga st).2:=((Du st).trans (Qx _)).trans (AA _)
theorem qA{α:Type}{one:PS→α×PS}(ho:∀st,Rch st (one st).2)(w:Txt)(most:Nat):∀(f:Nat) (st:PS) (l:List α),Rch st (fG one w most f st l).2
 |0,st,l=> .refl
 |f+1,st,l=>by
  unfold fG;split
  ·rename_i h
   exact(((rY h).trans (ho _)).trans (qS _ _)).trans (qA ho w most f _ _)
  ·exact adI
theorem GH(st:PS):Rch st (pn st).2:=(Ay st).trans (qA Ay _ _ _ _ _)
theorem GI(st:PS):Rch st (rf st).2:=(((me st [40]).trans (GH _)).trans (qA GH orT 8 st.ts.length _ [(pn (dO st [40])).1])).trans (me _ [41])
theorem GJ(st:PS):Rch st (gD st).2:=by
 unfold gD;split
 ·rename_i h;exact((rY h).trans (GI _)).trans (qA GI _ _ _ _ _)
 ·exact adI
theorem Nu(st:PS):Rch st (zo st).2:=((lR st uB).trans (lR _ lU)).trans (tH _)
theorem Dy(st:PS):Rch st (fV st).2:=qA Nu _ _ _ _ _
theorem qT{a b:PS}(h:Rch a b):b.ts=a.ts∧a.pos≤b.pos∧b.rules=a.rules:=by
 induction h with
 |refl=>simp
 |wrong e p _ _ _ ih=>
  grind [bG]
 |next _ _ _ ih=>exact⟨ih.1,Nat.le_succ_of_le ih.2.1,ih.2.2⟩
theorem Dz{ex:ExF}(he:∀st l,Rch st (ex st l).2)(st:PS)(l:List aO)(b:Bool):Rch st (gU ex st l b).2:=by
 unfold gU;simp only;split
 ·grind
 ·have:=qT (he st l)
  exact .wrong _ _ (he st l) (.inl rfl) ⟨st.pos,this.2.1,by rw[this.1];rfl⟩
theorem Az{ex:ExF}(he:∀st l,Rch st (ex st l).2):∀(bs:List Bool) (st:PS) (l:List aO),Rch st (iW ex bs st l).2
 | [],st,l=> .refl
 |b::bs,st,l=>by
  unfold iW;split
  ·exact(Dz he st l b).trans (Az he bs _ _)
  ·exact adI
theorem Dv:∀(f:Nat) (st:PS) (l:List aO),Rch st (dX f st l).2
 |0,st,l=> .refl
 |f+1,st,l=>by
  refine Rch.trans ?_ (qS _ _);unfold iN;split
  ·rename_i h
   exact(rY h).trans (((lR _ kY).trans (Az (Dv f) _ _ _)).trans (me _ [41]))
  grind [Du,AA]
def ifT:Txt:=[105,102]
def oK:Txt:=[112,101,114,109,105,116]
def iK:Txt:=[100,101,110,121]
def oL:Txt:=[112,111,108,105,99,121]
def Fl:Txt:=[115,101,116]
def l9:List Txt:=[oL,Fl]
def wX:List Txt:=[[100,101,110,121,111,118,101,114],[112,101,114,109,105,116,111,118,101,114],[102,105,114,115,116],[111,110,108,121],[100,101,110,121,117,110,108,101,115,115],[112,101,114,109,105,116,117,110,108,101,115,115]]
def pU(st:PS):List aO×PS:=if isD st ifT=true then gU (dX st.ts.length) (aZ st) [] false else([],st)
theorem Ll(st:PS):Rch st (pU st).2:=by
 unfold pU;split
 ·rename_i h;exact(rY h).trans (Dz (Dv _) _ _ _)
 ·exact adI
theorem FQ{st:PS}(h:WfP st):Ah st (pU st).2:=by
 unfold pU;split
 ·rename_i hi
  have h1:=eP h (dD hi);exact h1.trans (yg (pX _) _ _ _ h1.1).1
 ·exact adD
def o9(deny:Bool)(st:PS):cM×PS:=
 (⟨(ck st).1,deny,(gD (ck st).2).1,(pU (gD (ck st).2).2).1,(fV (pU (gD (ck st).2).2).2).1⟩,dO (fV (pU (gD (ck st).2).2).2).2 [59])
theorem yB(deny:Bool)(st:PS):Rch st (o9 deny st).2:=((((tH st).trans (GJ _)).trans (Ll _)).trans (Dy _)).trans (me _ [59])
theorem A6(deny:Bool){st:PS}(h:WfP st):Ah st (o9 deny st).2:=by
 have h1:=mB h;have h2:=A7 h1.1;have h3:=FQ h2.1;have h4:=A5 h3.1;exact(((h1.trans h2).trans h3).trans h4).trans (iR [59] h4.1)
inductive mZ (a:PS):PS→Prop where
 |refl:mZ a a
 |small {b c:PS}:mZ a b→Rch b c→mZ a c
 |rule {b:PS}:mZ a b→b.bad=0→b.rules≠64→(aJ b).kind≠7→mZ a {aZ b with rules:=b.rules+1}
theorem mZ.trans{a b c:PS}(x:mZ a b)(y:mZ b c):mZ a c:=by
 induction y with
 |refl=>exact x
 |small _ h1 ih=>grind [small]
 |rule _ h1 h2 h3 ih=>grind [rule]
theorem Rch.big{a b:PS}(h:Rch a b):mZ a b:=.small .refl h
def jE:Nat→PS→List cM→List cM×PS
 |0,st,l=>(l,st)
 |f+1,st,l=>if isD st oK=true∨isD st iK=true then
   if l.length=16∨st.rules=64 then(l,bC st true)
   else jE f (o9 (isD st iK) {aZ st with rules:=st.rules+1}).2 (l++ [(o9 (isD st iK) {aZ st with rules:=st.rules+1}).1])
  else(l,st)
abbrev PoF:=PS→bI×PS
def jy(pol:PoF)(deep:Bool):Nat→PS→List bI→List bI×PS
 |0,st,l=>(l,st)
 |f+1,st,l=>if isD st oL=true∨isD st Fl=true then
   if l.length=16∨deep=true then(l,bC st true)
   else jy pol deep f (pol st).2 (l++ [(pol st).1])
  else(l,st)
def cP(st:PS):(Bool×Txt×Int×fU)×PS:=
 (((aV st l9).1==2,(ck (aV st l9).2).1,(aV (ck (aV st l9).2).2 wX).1,(gD (aV (ck (aV st l9).2).2 wX).2).1),dO (gD (aV (ck (aV st l9).2).2 wX).2).2 [123])
theorem Dw(st:PS):Rch st (cP st).2:=((((lR st l9).trans (tH _)).trans (lR _ wX)).trans (GJ _)).trans (me _ [123])
theorem Mn{st:PS}(h:WfP st):Ah st (cP st).2:=by
 have h1:=gp l9 h;have h2:=mB h1.1;have h3:=gp wX h2.1;have h4:=A7 h3.1;exact(((h1.trans h2).trans h3).trans h4).trans (iR [123] h4.1)
def oX(pol:PoF)(deep:Bool)(set:Bool)(st:PS):(List cM×List bI)×PS:=
 if set=true then(([],(jy pol deep 17 st []).1),(jy pol deep 17 st []).2)else(((jE 17 st []).1,[]),(jE 17 st []).2)
def gr:Nat→PoF
 |0,st=>(.mk [] false 0 [] [] [] [],st)
 |r+1,st=>(.mk (cP st).1.2.1 (cP st).1.1 (cP st).1.2.2.1 (cP st).1.2.2.2 (oX (gr r) (r==0) (cP st).1.1 (cP st).2).1.1 (oX (gr r) (r==0) (cP st).1.1 (cP st).2).1.2
   (fV (dO (oX (gr r) (r==0) (cP st).1.1 (cP st).2).2 [125])).1,(fV (dO (oX (gr r) (r==0) (cP st).1.1 (cP st).2).2 [125])).2)
theorem lY{st:PS}{a b:Txt}(h:isD st a=true∨isD st b=true):st.bad=0∧(aJ st).kind≠7:=by
 grind [Gh,dD]
theorem wV{st:PS}(h:WfP st)(hk:(aJ st).kind≠7):Ah st {aZ st with rules:=st.rules+1}:=eP h hk
theorem FT:∀(f:Nat) (st:PS) (l:List cM),WfP st→Ah st (jE f st l).2
 |0,st,l,h=> .refl h
 |f+1,st,l,h=>by
  unfold jE;split
  ·rename_i hi
   split
   ·exact kC true h
   ·have h1:=wV h (lY hi).2
    have h2:=A6 (isD st iK) h1.1;exact(h1.trans h2).trans (FT f _ _ h2.1)
  ·exact adD
theorem DA:∀(f:Nat) (st:PS) (l:List cM),mZ st (jE f st l).2
 |0,st,l=> .refl
 |f+1,st,l=>by
  unfold jE;split
  ·rename_i hi
   split
   ·exact(qS st true).big
   ·rename_i hn
    have h1:mZ st {aZ st with rules:=st.rules+1}:=.rule .refl (lY hi).1 abh (lY hi).2
    exact(h1.trans (yB (isD st iK) _).big).trans (DA f _ _)
  ·exact adI
theorem FR{pol:PoF}(hp:∀st,WfP st→Ah st (pol st).2)(deep:Bool):∀(f:Nat) (st:PS) (l:List bI),WfP st→Ah st (jy pol deep f st l).2
 |0,st,l,h=> .refl h
 |f+1,st,l,h=>by
  unfold jy;split
  ·split
   ·exact kC true h
   ·have h1:=hp st h
    exact h1.trans (FR hp deep f _ _ h1.1)
  ·exact adD
theorem Dx{pol:PoF}(hp:∀st,mZ st (pol st).2)(deep:Bool):∀(f:Nat) (st:PS) (l:List bI),mZ st (jy pol deep f st l).2
 |0,st,l=> .refl
 |f+1,st,l=>by
  unfold jy;split
  ·split
   ·exact(qS st true).big
   ·exact(hp st).trans (Dx hp deep f _ _)
  ·exact adI
theorem A4{pol:PoF}(hp:∀st,WfP st→Ah st (pol st).2)(deep set:Bool){st:PS}(h:WfP st):Ah st (oX pol deep set st).2:=by
 grind [oX,FR,FT]
theorem Lj{pol:PoF}(hp:∀st,mZ st (pol st).2)(deep set:Bool)(st:PS):mZ st (oX pol deep set st).2:=by
 grind [oX,Dx,DA]
theorem wU:∀(r:Nat) (st:PS),WfP st→Ah st (gr r st).2
 |0,st,h=> .refl h
 |r+1,st,h=>by
  have h1:=Mn h;have h2:=A4 (wU r) (r==0) (cP st).1.1 h1.1;have h3:=iR [125] h2.1;exact((h1.trans h2).trans h3).trans (A5 h3.1)
theorem BJ:∀(r:Nat) (st:PS),mZ st (gr r st).2
 |0,st=> .refl
 |r+1,st=>(((Dw st).big.trans (Lj (BJ r) _ _ _)).trans (me _ [125]).big).trans (Dy _).big
theorem uL{a b:PS}(h:mZ a b)(h0:a.rules≤64):b.rules≤64:=by
 induction h with
 |refl=>omega
 |small _ h1 ih=>rw[(qT h1).2.2];omega
 |rule _ _ h2 _ ih=>grind
theorem uv:∀(f:Nat) (s:Txt) (a:Nat) (out l:List qZ),sY f s a out= .ok l→∃pre,l=out++pre++ [⟨7,(a+s.length:Nat),0,[]⟩]∧pre.length≤s.length∧∀t∈pre,(a:Int)≤t.pos∧t.pos<((a+s.length:Nat):Int)
 |0,_,_,_,_,h=>by grind [sY]
 |f+1,[],a,out,l,h=>by
  grind [sY,Lexed.ok.injEq]
 |f+1,c::r,a,out,l,h=>by
  simp only[sY]at h;split at h
  ·obtain⟨pre,e1,e2,e3⟩:=uv f r (a+1) out l h
   grind
  ·split at h
   ·cases h
   ·rename_i hn
    have hle:=rH (c::r) abp;obtain⟨pre,e1,e2,e3⟩:=uv f _ _ _ l h;have ee:((a+(bP (c::r)).2+((c::r).drop (bP (c::r)).2).length:Nat):Int)=((a+(c::r).length:Nat):Int):=abi;refine⟨{(bP (c::r)).1 with pos:=a}::pre,abi,abi,fun t ht=>?_⟩
    grind
theorem Aj{s:Txt}{ts:List qZ}(h:rR s= .ok ts):∃pre,ts=pre++ [⟨7,s.length,0,[]⟩]∧pre.length≤s.length∧(∀t∈pre,0≤t.pos∧t.pos<(s.length:Int))∧s.length≤4096:=by
 grind [rR,uv]
theorem Jg{s:Txt}{ts:List qZ}(h:rR s= .ok ts)(x:Nat)(e p:Int):WfP ⟨ts,0,x,e,p⟩:=by
 obtain⟨pre,rfl,h2,_,h3⟩:=Aj h;refine⟨abp,fun i hi hk=>?_,abi⟩
 grind
theorem xW:∀(f:Nat) (s:Txt) (a:Nat) (out:List qZ) (e p:Int),sY f s a out= .bad e p→e=5∧0≤p∧(s.length<f→p≤((a+s.length:Nat):Int))
 |0,s,a,out,e,p,h=>by
  simp only[sY,Lexed.bad.injEq]at h;omega
 |f+1,[],a,out,e,p,h=>by grind [sY]
 |f+1,c::r,a,out,e,p,h=>by
  simp only[sY]at h;split at h
  ·obtain⟨h1,h2,h3⟩:=xW f r (a+1) out e p h
   grind
  ·split at h
   ·grind
   ·obtain⟨h1,h2,h3⟩:=xW f _ _ _ e p h
    grind [rH,List.length_drop]
theorem xV{s:Txt}{e a:Int}(h:rR s= .bad e a):(e=5∨e=6)∧0≤a∧a≤s.length:=by
 unfold rR at h;split at h
 ·grind
 ·obtain⟨h1,h2,h3⟩:=xW _ _ _ _ _ _ h
  omega
def nQ:bI:=.mk [] false 0 [] [] [] []
def pz(s:Txt)(x:bI×PS):PS:=
 if(if(aJ x.2).kind=7 then x.2 else bg x.2).bad=0∧gh x.1≠0 then bG (if(aJ x.2).kind=7 then x.2 else bg x.2) 5 s.length else(if(aJ x.2).kind=7 then x.2 else bg x.2)
def yj(s:Txt)(ts:List qZ):bI×Int×Int:=
 if(pz s (gr 4 ⟨ts,0,0,0,0⟩)).bad=0 then((gr 4 ⟨ts,0,0,0,0⟩).1,0,0)else(nQ,(pz s (gr 4 ⟨ts,0,0,0,0⟩)).bad,(pz s (gr 4 ⟨ts,0,0,0,0⟩)).place)
def aP(s:Txt):bI×Int×Int:=match rR s with
 |.bad e a=>(nQ,e,a)
 |.ok ts=>yj s ts
end Go.Bf
namespace Go.Proofs.YtcochaoekecfdaaGreatDoor
open Go Go.Ab Go.Bf
def Byt(g:FuncId)(p:UInt8→Bool):Prop:=∀(c:UInt8) (h:Heap),ai Tryz.prog g [.v (.int .u8 c.toNat)] h fun r h' =>r= .b (p c)∧h' =h
theorem l8:Byt 197 dgt:=fun c h=>by
 refine abg Tryz.func197 9 [.tmp 2] fun hwf=>?_
 cases d1:decide (48≤(c.toNat:Int))<;>cases d2:decide ((c.toNat:Int)≤57)
 all_goals
  simp only[go_sem,d1,d2];exact .same (.refl _) ⟨by simp only[dgt,d1,d2];rfl,rfl⟩
theorem Im:Byt 234 wrd:=fun c h=>by
 refine abg Tryz.func234 17 [.tmp 2] fun hwf=>?_
 cases d1:decide (97≤(c.toNat:Int))<;>cases d2:decide ((c.toNat:Int)≤122)<;>cases d3:dgt c<;>cases d4:((c.toNat:Int)==95)
 all_goals
  simp only[go_sem,d1,d2]
  first
   |exact .same (.refl _) ⟨by simp only[wrd,ltr,d1,d2,d3,d4];rfl,rfl⟩
   |(refine(l8 c _).pthen ?_;simp only[go_sem,d3,d4];exact .same (.refl _) ⟨by simp only[wrd,ltr,d1,d2,d3,d4];rfl,rfl⟩)
theorem Dn:Byt 235 (fun c=> !E9 c):=fun c h=>by
 refine abg Tryz.func235 17 [.tmp 2] fun hwf=>?_
 cases d1:decide (32≤(c.toNat:Int))<;>cases d2:decide ((c.toNat:Int)≤126)<;>cases d3:((c.toNat:Int)==34)<;>cases d4:((c.toNat:Int)==92)
 all_goals
  simp only[go_sem,d1,d2,d3,d4,bne];refine .same (.refl _) ⟨?_,rfl⟩;have e1:decide ((c.toNat:Int)<32)= !decide (32≤(c.toNat:Int)):=by
   grind
  have e2:decide (126<(c.toNat:Int))= !decide ((c.toNat:Int)≤126):=by
   grind
  simp only[E9,e1,e2,d1,d2,d3,d4];rfl
theorem NN(p:UInt8→Bool)(s:Txt)(i:Nat)(hi:i<s.length)(h:i≤(s.takeWhile p).length)(hp:p s[i]=true):i+1≤(s.takeWhile p).length:=by
 exact af0
theorem TH(p:UInt8→Bool)(s:Txt)(i:Nat)(hi:i<s.length)(h:i≤(s.takeWhile p).length)(hp:p s[i]=false):(s.takeWhile p).length=i:=by
 exact af0
theorem Lx(g:FuncId)(p:UInt8→Bool)(hg:Byt g p)(s:Txt)(h:Heap):ai Tryz.prog 233 [.s s,.fn g []] h fun r h' =>r= .v (.int .i64 (s.takeWhile p).length)∧h' =h:=by
 refine abg Tryz.func233 20 [.tmp 4] fun hwf=>?_
 have hlen:=hwf (.s s) abp;simp only[wfA,wf1,lim]at hlen;simp only[go_sem];refine .intro (fun m ρ h' =>h' =h∧∃i:Nat,i≤s.length∧m=s.length - i∧i≤(s.takeWhile p).length∧lk ρ 0=some (.s s)∧lk ρ 1=some (.fn g [])∧lk ρ 5=some (.i i)) s.length ?_ ?_
 ·refine⟨rfl,0,abh,rfl,abh,?_,?_,?_⟩<;>simp only[go_sem]
 ·rintro m ρ h' ⟨rfl,i,hi,rfl,hc,r0,r1,r5⟩
  cases d1:decide ((i:Int)<(s.length:Int))
  ·have hge:i=s.length:=by grind
   have:=jG p s;simp only[go_sem,r0,r5,d1];exact .same (.refl _) ⟨by grind [au],rfl⟩
  ·have hlt:i<s.length:=by grind
   have w1:IntKind.i64.wrap ((i:Int)+1)=((i+1:Nat):Int):=abv;simp only[go_sem,r0,r1,r5,d1];refine .at i hlt ?_;simp only[go_sem,aM];refine(hg s[i] _).pthen ?_;cases d2:p s[i]
   ·have:=TH p s i hlt hc d2
    simp only[go_sem,r5];exact .same (.refl _) ⟨by rw[this];rfl,rfl⟩
   ·simp only[go_sem,r5,w1]
    refine⟨_,?_,rfl,i+1,abh,rfl,NN p s i hlt hc d2,?_,?_,?_⟩
    ·omega
    all_goals simp only[go_sem,r0,r1]
theorem ye(s:Txt)(h:Heap):ai Tryz.prog 196 [.s s] h fun r h' =>r= .s (jl s)∧h' =h:=by
 refine abg Tryz.func196 12 [.tmp 2] fun hwf=>?_
 simp only[go_sem];refine(Lx _ _ Im s _).pthen ?_;simp only[go_sem];refine⟨abh,abh,?_⟩;simp only[go_sem,Option.isSome_none,Option.isSome_some,sw,Int.toNat_natCast,qH];refine⟨by grind [jG,wrd],?_⟩
 refine(oD _ _).pthen ?_;cases d1:bl (s.takeWhile wrd)
 ·exact agY
 ·exact agY
theorem wr8{x:Int}(h:0≤x∧x<256):IntKind.u8.wrap x=x:=by
 grind [IntKind.wrap,IntKind.signed,IntKind.bits]
theorem sB(c:UInt8)(h:Heap):ai Tryz.prog 267 [.v (.int .u8 c.toNat)] h fun r h' =>r= .i (jo c)∧h' =h:=by
 refine abg Tryz.func267 20 [.tmp 2] fun hwf=>?_
 have hc:=c.toNat_lt;simp only[go_sem];refine(l8 c _).pthen ?_;cases d1:dgt c
 case true=>
  have e1:48≤(c.toNat:Int)∧(c.toNat:Int)≤57:=by grind [dgt]
  have w1:IntKind.u8.wrap ((c.toNat:Int) - 48)=(c.toNat:Int) - 48:=wr8 abh;have w2:IntKind.i64.wrap ((c.toNat:Int) - 48)=(c.toNat:Int) - 48:=bh _ abh;simp only[go_sem,w1,w2];exact .same (.refl _) ⟨by grind [jo,au],rfl⟩
 cases d2:decide (97≤(c.toNat:Int))<;>cases d3:decide ((c.toNat:Int)≤102)
 case true.true=>
  have e2:=aa9 d2;have e3:=aa9 d3;have w1:IntKind.u8.wrap ((c.toNat:Int) - 97)=(c.toNat:Int) - 97:=wr8 abh;have w2:IntKind.i64.wrap ((c.toNat:Int) - 97)=(c.toNat:Int) - 97:=bh _ abh;have w3:IntKind.i64.wrap ((c.toNat:Int) - 97+10)=(c.toNat:Int) - 87:=abv;simp only[go_sem,d2,d3,w1,w2,w3];exact .same (.refl _) ⟨by grind [jo,au],rfl⟩
 all_goals
  simp only[go_sem,d2,d3];simp only[decide_eq_true_eq,decide_eq_false_iff_not]at d2 d3;refine .same (.refl _) ⟨?_,rfl⟩
  grind [Int,jo,au]
theorem Gc(c:UInt8): -1≤jo c∧jo c≤15:=by
 grind [jo,dgt]
theorem LQ(n:Nat)(h:n<256):((UInt8.ofNat n).toNat:Int)=n:=by
 simp;omega
theorem Qo(s:Txt)(h:Heap):ai Tryz.prog 236 [.s s] h fun r h' =>(∃x:Int,r= .tup [.v (.int .u8 x),.v (.bool (td s).isSome)]∧∀c,td s=some c→x=c.toNat)∧h' =h:=by
 refine abg Tryz.func236 38 [.tmp 2,.tmp 3] fun hwf=>?_
 have hlen:=hwf (.s s) abp;simp only[wfA,wf1,lim]at hlen;cases d0:decide ((s.length:Int)<3)
 case true=>
  have e0:s.length<3:=abi;have:td s=none:=by
   match s,e0 with
   | [],_=>rfl
   | [_],_=>rfl
   | [_,_],_=>rfl
  simp only[go_sem,d0];exact .same (.refl _) ⟨⟨0,by rw[this];rfl,fun c hc=>abi⟩,rfl⟩
 have e0:3≤s.length:=abi;obtain⟨b,x,y,t,rfl⟩:∃b x y t,s=b::x::y::t:=by
  match s,e0 with
  |b::x::y::t,_=>exact⟨b,x,y,t,rfl⟩
 simp only[List.length_cons]at d0;have bad:td (b::x::y::t)=none→∃z:Int,AV.tup [.v (.int .u8 0),.b false]= .tup [.v (.int .u8 z),.v (.bool (td (b::x::y::t)).isSome)]∧∀c,td (b::x::y::t)=some c→z=c.toNat:=
  fun e=>⟨0,abi,fun c hc=>abi⟩
 cases d1:((b.toNat:Int) !=92)
 case true=>
  have e1:b≠92:=by rintro rfl;grind
  simp only[go_sem,d0];refine .at 0 abp ?_;simp only[go_sem,aM,List.getElem_cons_zero,d1];exact agG
 have e1:b=92:=by
  have:(b.toNat:Int)=92:=abi;exact UInt8.toNat_inj.1 abi
 simp only[go_sem,d0];refine .at 0 abp ?_;simp only[go_sem,aM,List.getElem_cons_zero,d1];refine .at 1 abp ?_;simp only[go_sem,aM,List.getElem_cons_zero,List.getElem_cons_succ];refine(sB x _).pthen ?_;cases d2:decide (jo x<0)
 case true=>
  have e2:=aa9 d2;simp only[go_sem,d2];exact agG
 have e2:0≤jo x:=abi;simp only[go_sem,d2];refine .at 2 abp ?_;simp only[go_sem,aM,List.getElem_cons_zero,List.getElem_cons_succ];refine(sB y _).pthen ?_;cases d3:decide (jo y<0)
 case true=>
  have e3:=aa9 d3;simp only[go_sem,d3];exact agG
 have e3:0≤jo y:=abi;have hx:=Gc x;have hy:=Gc y;have w1:IntKind.i64.wrap (16*jo x)=16*jo x:=bh _ abh;have w2:IntKind.i64.wrap (16*jo x+jo y)=16*jo x+jo y:=bh _ abh;have w3:IntKind.u8.wrap (16*jo x+jo y)=((UInt8.ofNat (16*jo x+jo y).toNat).toNat:Int):=by
  grind [wr8,LQ]
 simp only[go_sem,d3];refine .quiet abl ?_;simp only[go_sem];refine .at 1 abp ?_;simp only[go_sem,aM,List.getElem_cons_zero,List.getElem_cons_succ];refine⟨_,sB x _,?_⟩;simp only[go_sem];refine .at 2 abp ?_;simp only[go_sem,aM,List.getElem_cons_zero,List.getElem_cons_succ];refine⟨_,sB y _,?_⟩;simp only[go_sem,w1,w2,w3];refine(Dn _ _).pthen ?_;simp only[go_sem];refine .same (.refl _) ⟨⟨((UInt8.ofNat (16*jo x+jo y).toNat).toNat:Int),?_,fun c hc=>?_⟩,rfl⟩
 ·grind [E9,UInt8.ofNat,jo,td,au]
 grind [td]
theorem u5z:(U 5).sz=1:=abx
theorem u5b:(U 5).bytes=1:=abx
theorem mF(l:List UInt8):Sized 1 (l.map aM):=fun z hz=>by
 obtain⟨c,_,rfl⟩:=List.mem_map.1 hz;rfl
theorem GV(s:Txt)(hs:s.length≤10000)(h:Heap):ai Tryz.prog 199 [.s s] h fun r h' =>r= .tup [.s (yQ s).1,.v (.int .i64 (yQ s).2)]∧h' =h:=by
 refine abg Tryz.func199 50 [.tmp 2,.tmp 3] fun hwf=>?_
 simp only[go_sem];refine .intro (fun m ρ h' =>∃(i f:Nat) (y:AV) (out:Txt),Acc U 5 h h' y (out.map aM)∧out.length≤i∧m=s.length+1 - i∧i≤s.length+3∧s.length≤f+i∧tK f (s.drop i) i out=yQ s∧lk ρ 0=some (.s s)∧lk ρ 4=some y∧lk ρ 5=some (.i i)) s.length ?_ ?_
 ·refine⟨1,s.length,.sl [] .full,[],.full (.refl _),abp,abh,abh,abh,rfl,?_,?_,?_⟩<;>simp only[go_sem]
 ·rintro m ρ h' ⟨i,f,y,out,hy,hoi,rfl,hi,hf,he,r0,r4,r5⟩
  cases d1:decide ((i:Int)<(s.length:Int))
  ·have hge:s.length≤i:=by grind
   have hd:s.drop i= []:=List.drop_of_length_le hge;have:yQ s=([],0):=by
    rw[←he,hd];cases f<;>rfl
   simp only[go_sem,r0,r5,d1];exact .mk _ (.refl _) hy.1 ⟨by rw[this];rfl,rfl⟩
  have hlt:i<s.length:=abi;obtain⟨f,rfl⟩:∃g,f=g+1:=⟨f - 1,abh⟩;have hdr:s.drop i=s[i]::s.drop (i+1):=List.drop_eq_getElem_cons hlt;rw[hdr]at he;simp only[tK]at he;have w1:IntKind.i64.wrap ((i:Int)+1)=((i+1:Nat):Int):=abv;have w3:IntKind.i64.wrap ((i:Int)+3)=((i+3:Nat):Int):=abv;simp only[go_sem,r0,r5,d1];refine .at i hlt ?_;cases d2:((s[i].toNat:Int)==34)
  case true=>
   have e2:s[i]=34:=by
    have:(s[i].toNat:Int)=34:=abi;exact UInt8.toNat_inj.1 abi
   rw[if_pos e2]at he;cases d3:decide (64<(out.length:Int))
   case true=>
    have e3:64<out.length:=abi;rw[if_pos e3]at he;simp only[go_sem,r4,aM,d2,hy.len,aa7,d3];exact agA
   have e3:¬64<out.length:=abi;rw[if_neg e3]at he;simp only[go_sem,r4,aM,d2,hy.len,aa7,d3];obtain⟨q,rfl⟩:=hy.row;simp only[go_sem,r5,w1];exact agA
  have e2:s[i]≠34:=by intro e;simp_all
  rw[if_neg e2]at he;simp only[go_sem,r0,r5,aM,d2];refine .at i hlt ?_;simp only[go_sem,aM];refine(Dn _ _).pthen ?_;cases d4:E9 s[i]
  ·rw[if_pos d4]at he
   simp only[go_sem,r0,r4,r5,d4];refine .at i hlt ?_;simp only[go_sem,aM];refine hy.app (zs:=[aM s[i]]) abk abk (fun k hk=>hk) (by grind [u5z,mF]) (by rw[u5z];exact mF [s[i]]) (by grind [u5b]) fun y' h2 hy' hk2=>?_
   simp only[go_sem,r5,w1];refine⟨_,?_,i+1,f,y',out++ [s[i]],abi,abi,rfl,abh,abh,he,?_,?_,?_⟩
   ·omega
   all_goals simp only[go_sem,r0]
  ·rw[if_neg abi]at he
   simp only[go_sem,r0,r5,d4];refine⟨abh,?_⟩;simp only[go_sem,Option.isSome_none,Option.isSome_some,lC,Int.toNat_natCast];refine⟨abh,abh,?_⟩;refine(Qo _ _).mono fun x h2 hx=>?_
   obtain⟨⟨v,rfl,hv⟩,rfl⟩:=hx;rw[←hdr]at he;cases e5:td (s.drop i)with
   |none=>
    rw[e5]at he;simp only[go_sem,Option.isSome_none];exact agA
   |some b=>
    rw[e5]at he;have hvb:=hv b e5;subst hvb;have h3:=Dc e5;simp only[List.length_drop]at h3;simp only[go_sem,r4,Option.isSome_some];refine hy.app (zs:=[aM b]) abk abk (fun k hk=>hk) (by grind [u5z,mF]) (by rw[u5z];exact mF [b]) (by grind [u5b]) fun y' h2 hy' hk2=>?_
    simp only[go_sem,r5,w3];refine⟨_,?_,i+3,f,y',out++ [b],abi,abi,rfl,abh,abh,?_,?_,?_,?_⟩
    ·omega
    ·simp_all
    all_goals simp only[go_sem,r0]
end Go.Proofs.YtcochaoekecfdaaGreatDoor
namespace Go.Bf
open Go Go.Ab
theorem F0(c:UInt8):dgt c=true↔48≤c.toNat∧c.toNat≤57:=by
 simp only[dgt,Bool.and_eq_true,decide_eq_true_eq];omega
def Hz(acc:Nat)(l:Txt):Nat:=l.foldl (fun n c=>n*10+(c.toNat - 48)) acc
theorem zS(acc:Nat)(c:UInt8)(r:Txt):Hz acc (c::r)=Hz (acc*10+(c.toNat - 48)) r:=List.foldl_cons ..
theorem Cl:∀(l:Txt) (acc:Nat),acc≤Hz acc l
 | [],acc=>Nat.le_refl _
 |c::r,acc=>by rw[zS];exact Nat.le_trans abh (Cl r (acc*10+(c.toNat - 48)))
theorem tq:∀(l:Txt) (acc:Nat),(∀c∈l,dgt c=true)→acc<18446744073709551616→
  Lib.parseUint10 acc l=if Hz acc l<18446744073709551616 then .ok (Hz acc l)else .range
 | [],acc,_,ha=>by
  have:Hz acc []=acc:=rfl;rw[this,if_pos ha];rfl
 |c::r,acc,hd,ha=>by
  have hc:=(F0 c).1 (hd c abp);have hm:=Cl r (acc*10+(c.toNat - 48));rw[zS];unfold Lib.parseUint10;rw[if_pos hc];split
  ·rw[if_neg abh]
  ·split
   ·rw[if_neg abh]
   ·exact tq r _ abi abh
def pg(neg:Bool):Txt:=if neg then [45]else []
theorem vf(neg:Bool)(d:Txt)(h0:d≠ [])(hd:∀c∈d,dgt c=true):
  Lib.atoiAll (pg neg++d)=if -9223372036854775808≤(if neg then -(pq d:Int)else(pq d:Int))∧(if neg then -(pq d:Int)else(pq d:Int))≤9223372036854775807 then .ok (if neg then -(pq d:Int)else(pq d:Int))else .range:=by
 have hp:Lib.parseMag d=if pq d<18446744073709551616 then .ok (pq d)else .range:=by
  unfold Lib.parseMag;rw[if_neg h0];exact tq d 0 hd abk
 cases neg
 ·obtain⟨c,r,rfl⟩:=List.exists_cons_of_ne_nil h0
  have hc:=(F0 c).1 (hd c abp);simp only[pg,Bool.false_eq_true,if_false,List.nil_append,Lib.atoiAll];rw[if_neg abh,hp];have e45:(c.toNat=45)=False:=abi;simp only[e45,not_false_eq_true,true_and,false_and,if_false];split
  ·rename_i h;split at h
   ·cases h
   ·cases h
  ·rename_i h;split at h
   ·cases h
   ·rw[if_neg abh]
  ·rename_i u h;split at h
   ·cases h
    split
    ·rw[if_neg abh]
    ·rw[if_pos abh]
   ·cases h
 ·simp only[pg,if_true,List.cons_append,List.nil_append,Lib.atoiAll]
  rw[if_pos (.inr abk),hp];simp only[show((45:UInt8).toNat=45)=True by simp,not_true_eq_false,false_and,if_false,true_and,if_true]
  split
  ·rename_i h;split at h
   ·cases h
   ·cases h
  ·rename_i h;split at h
   ·cases h
   ·rw[if_neg abh]
  ·rename_i u h;split at h
   ·cases h
    split
    ·rw[if_neg abh]
    ·rw[if_pos abh]
   ·cases h
theorem zA(s:Txt):∀c∈s.takeWhile dgt,dgt c=true:=fun c hc=>by
 induction s with
 |nil=>cases hc
 |cons x r ih=>
  simp only[List.takeWhile_cons]at hc
  grind
end Go.Bf
namespace Go.Proofs
open Go.Shelf
def Tryz.CY:Go.Shelf.Ren:=⟨fun|137=>200|217=>237|266=>268|n=>n,fun|9=>9|5=>5|3=>3|n=>n,fun|n=>n⟩
theorem Tryz.M0:Go.Proofs.Lays.n137 Tryz.prog Tryz.CY:={
 mixed:=abx
 f137:=Tryz.func200.trans abx
 f217:=Tryz.func237.trans abx
 f266:=Tryz.func268.trans abx
 t3:=Tryz.underlying3
 a3:=Tryz.isAgg3
 z3:=Tryz.sizeOf3
 v3:=Tryz.zeroValue3
 t5:=Tryz.underlying5
 a5:=Tryz.isAgg5
 z5:=Tryz.sizeOf5
 v5:=Tryz.zeroValue5
 t9:=Tryz.underlying9
 a9:=Tryz.isAgg9
 z9:=Tryz.sizeOf9
 v9:=Tryz.zeroValue9}
open Go.RowKit in
theorem Tryz.strings_IndexByte(s:ByteArray)(c:Int)(w:World):
  Calls Tryz.prog 200 #[.string s,.int .u8 c] w fun e w' =>e= .returned (.int .i64 (Lib.indexByte s.data.toList c.toNat.toUInt8))∧w' =w:=Any.strings_IndexByte Tryz.M0 s c w
def Tryz.Bv:Go.Shelf.Ren:=⟨fun|172=>154|244=>189|245=>190|247=>227|279=>228|280=>229|281=>230|282=>231|287=>263|316=>264|171=>151|205=>265|321=>292|322=>293|243=>187|246=>225|283=>256|284=>257|285=>258|286=>259|129=>287|317=>286|318=>288|319=>289|320=>290|337=>312|338=>313|n=>n,fun|9=>9|3=>3|75=>234|76=>235|4=>4|5=>5|167=>308|37=>41|0=>0|85=>309|2=>2|168=>311|53=>43|175=>344|46=>103|210=>347|127=>314|145=>382|143=>380|21=>21|171=>338|173=>341|212=>374|51=>153|20=>20|213=>375|232=>409|233=>410|80=>246|n=>n,fun|15=>1|16=>2|17=>3|18=>4|19=>5|n=>n⟩
theorem Tryz.CZ:Go.Proofs.LaysC.n172 Tryz.prog Tryz.Bv:={
 mixed:=abx
 f129:=Tryz.func287.trans abx
 f171:=Tryz.func151.trans abx
 f172:=Tryz.func154.trans abx
 f205:=Tryz.func265.trans abx
 f243:=Tryz.func187.trans abx
 f244:=Tryz.func189.trans abx
 f245:=Tryz.func190.trans abx
 f246:=Tryz.func225.trans abx
 f247:=Tryz.func227.trans abx
 f279:=Tryz.func228.trans abx
 f280:=Tryz.func229.trans abx
 f281:=Tryz.func230.trans abx
 f282:=Tryz.func231.trans abx
 f283:=Tryz.func256.trans abx
 f284:=Tryz.func257.trans abx
 f285:=Tryz.func258.trans abx
 f286:=Tryz.func259.trans abx
 f287:=Tryz.func263.trans abx
 f316:=Tryz.func264.trans abx
 f317:=Tryz.func286.trans abx
 f318:=Tryz.func288.trans abx
 f319:=Tryz.func289.trans abx
 f320:=Tryz.func290.trans abx
 f321:=Tryz.func292.trans abx
 f322:=Tryz.func293.trans abx
 f337:=Tryz.func312.trans abx
 f338:=Tryz.func313.trans abx
 t0:=Tryz.underlying0
 a0:=Tryz.isAgg0
 z0:=Tryz.sizeOf0
 v0:=Tryz.zeroValue0
 t2:=Tryz.underlying2
 a2:=Tryz.isAgg2
 z2:=Tryz.sizeOf2
 v2:=Tryz.zeroValue2
 t3:=Tryz.underlying3
 a3:=Tryz.isAgg3
 z3:=Tryz.sizeOf3
 v3:=Tryz.zeroValue3
 t4:=Tryz.underlying4
 a4:=Tryz.isAgg4
 z4:=Tryz.sizeOf4
 v4:=Tryz.zeroValue4
 t5:=Tryz.underlying5
 a5:=Tryz.isAgg5
 z5:=Tryz.sizeOf5
 v5:=Tryz.zeroValue5
 t9:=Tryz.underlying9
 a9:=Tryz.isAgg9
 z9:=Tryz.sizeOf9
 v9:=Tryz.zeroValue9
 t20:=Tryz.underlying20
 a20:=Tryz.isAgg20
 z20:=Tryz.sizeOf20
 v20:=Tryz.zeroValue20
 t21:=Tryz.underlying21
 a21:=Tryz.isAgg21
 z21:=Tryz.sizeOf21
 v21:=Tryz.zeroValue21
 t37:=Tryz.underlying41
 a37:=Tryz.isAgg41
 z37:=Tryz.sizeOf41
 v37:=Tryz.zeroValue41
 t46:=Tryz.underlying103
 a46:=Tryz.isAgg103
 z46:=Tryz.sizeOf103
 v46:=Tryz.zeroValue103
 t51:=Tryz.underlying153
 a51:=Tryz.isAgg153
 z51:=Tryz.sizeOf153
 v51:=Tryz.zeroValue153
 t53:=Tryz.underlying43
 a53:=Tryz.isAgg43
 z53:=Tryz.sizeOf43
 v53:=Tryz.zeroValue43
 t75:=Tryz.underlying234
 a75:=Tryz.isAgg234
 z75:=Tryz.sizeOf234
 v75:=Tryz.zeroValue234
 t76:=Tryz.underlying235
 a76:=Tryz.isAgg235
 z76:=Tryz.sizeOf235
 v76:=Tryz.zeroValue235
 t85:=Tryz.underlying309
 a85:=Tryz.isAgg309
 z85:=Tryz.sizeOf309
 v85:=Tryz.zeroValue309
 t127:=Tryz.underlying314
 a127:=Tryz.isAgg314
 z127:=Tryz.sizeOf314
 v127:=Tryz.zeroValue314
 t143:=Tryz.underlying380
 a143:=Tryz.isAgg380
 z143:=Tryz.sizeOf380
 v143:=Tryz.zeroValue380
 t145:=Tryz.underlying382
 a145:=Tryz.isAgg382
 z145:=Tryz.sizeOf382
 v145:=Tryz.zeroValue382
 t167:=Tryz.underlying308
 a167:=Tryz.isAgg308
 z167:=Tryz.sizeOf308
 v167:=Tryz.zeroValue308
 t168:=Tryz.underlying311
 a168:=Tryz.isAgg311
 z168:=Tryz.sizeOf311
 v168:=Tryz.zeroValue311
 t171:=Tryz.underlying338
 a171:=Tryz.isAgg338
 z171:=Tryz.sizeOf338
 v171:=Tryz.zeroValue338
 t173:=Tryz.underlying341
 a173:=Tryz.isAgg341
 z173:=Tryz.sizeOf341
 v173:=Tryz.zeroValue341
 t175:=Tryz.underlying344
 a175:=Tryz.isAgg344
 z175:=Tryz.sizeOf344
 v175:=Tryz.zeroValue344
 t210:=Tryz.underlying347
 a210:=Tryz.isAgg347
 z210:=Tryz.sizeOf347
 v210:=Tryz.zeroValue347
 t212:=Tryz.underlying374
 a212:=Tryz.isAgg374
 z212:=Tryz.sizeOf374
 v212:=Tryz.zeroValue374
 t213:=Tryz.underlying375
 a213:=Tryz.isAgg375
 z213:=Tryz.sizeOf375
 t232:=Tryz.underlying409
 a232:=Tryz.isAgg409
 z232:=Tryz.sizeOf409
 v232:=Tryz.zeroValue409
 t233:=Tryz.underlying410
 a233:=Tryz.isAgg410
 z233:=Tryz.sizeOf410
 v233:=Tryz.zeroValue410
 g15:=abl
 g16:=abl
 g17:=abl
 g18:=abl
 g19:=abl
 t80:=Tryz.underlying246
 a80:=Tryz.isAgg246
 z80:=Tryz.sizeOf246
 v80:=Tryz.zeroValue246
 i0:=abl
 i2:=abl
 i3:=abl
 i4:=abl
 i5:=abl
 i9:=abl
 i20:=abl
 i21:=abl
 i37:=abl
 i46:=abl
 i51:=abl
 i53:=abl
 i75:=abl
 i76:=abl
 i80:=abl
 i85:=abl
 i127:=abl
 i143:=abl
 i145:=abl
 i167:=abl
 i168:=abl
 i171:=abl
 i173:=abl
 i175:=abl
 i210:=abl
 i212:=abl
 i232:=abl
 i233:=abl
 m15:=abx
 m16:=abx
 m17:=abx
 m18:=abx
 m19:=abx
 c0:=abl
 c2:=abl
 c3:=abl
 c4:=abl
 c5:=abl
 c9:=abl
 c20:=abl
 c21:=abl
 c37:=abl
 c46:=abl
 c51:=abl
 c53:=abl
 c75:=abl
 c76:=abl
 c80:=abl
 c85:=abl
 c127:=abl
 c143:=abl
 c145:=abl
 c167:=abl
 c168:=abl
 c171:=abl
 c173:=abl
 c175:=abl
 c210:=abl
 c212:=abl
 c213:=abl
 c232:=abl
 c233:=abl}
open Go.RowKit in
theorem Tryz.strconv_Atoi_ok(s:ByteArray)(hmax:s.size≤9223372036854775806)(v:Int)(h:Lib.atoiAll s.data.toList= .ok v)(w:World):
  Calls Tryz.prog 154 #[.string s] w fun e w' =>e= .returned (.tuple #[.int .i64 v,.nilIface])∧(w' =w∨∃t,w' =Lib.bytesWorld w 5 t):=Any.strconv_Atoi_ok Tryz.CZ s hmax v h w
open Go.RowKit in
theorem Tryz.strconv_Atoi_range(s:ByteArray)(hlim:s.size≤281474976710656)(h:Lib.atoiAll s.data.toList= .range)(ev:Value)(w:World)(hv:w.cell? ⟨2,0,none⟩=some ev)(hev:ev= .nilIface∨∃te pe,ev= .iface te pe):
  Calls Tryz.prog 154 #[.string s] w fun e w' =>∃N,e= .returned (.tuple #[.int .i64 (Lib.atoiSat s.data.toList),.iface 311 (.pointer (some ⟨N,0,none⟩))])∧w.heap.size≤N∧w'.heap[N]? =some (.cells #[.string ⟨#[65,116,111,105]⟩,.string s,ev] 347 (0,0))∧Below w.heap.size w w' :=Any.strconv_Atoi_range Tryz.CZ s hlim h ev w hv hev
end Go.Proofs
namespace Go.Proofs.YtcochaoekecfdaaGreatDoor
open Go Go.Ab Go.Bf Go.RowKit
theorem IS(s:Txt)(hs:s.length≤100000)(w:World):Calls Tryz.prog 233 #[.string ⟨s.toArray⟩,.func (.func 197) #[] #[]] w fun e w' =>e= .returned (.int .i64 (s.takeWhile dgt).length)∧Below w.heap.size w w' :=by
 refine Go.Ab.ai.calls (args:=[.s s,.fn 197 []]) ⟨_,Tryz.func233,abx,rfl⟩ ((Lx _ _ l8 s cF).mono fun _ _ h=>h.1) rfl (fun i hi=>?_)
 rcases i with _|_|i
 ·exact .s s (by grind [lim,Nat])
 ·exact .fn _ [] #[] rfl (fun i hi=>by cases hi)
 ·simp at hi;omega
def zC(neg:Bool)(d:Txt):Int:=if neg then -(pq d:Int)else(pq d:Int)
def inI(neg:Bool)(d:Txt):Prop:= -9223372036854775808≤(if neg then -(pq d:Int)else(pq d:Int))∧(if neg then -(pq d:Int)else(pq d:Int))≤9223372036854775807
instance (neg:Bool) (d:Txt):Decidable (inI neg d):=inferInstanceAs (Decidable (_∧_))
theorem yK(neg:Bool):(pg neg).length≤1:=by cases neg<;>decide
theorem FV(neg:Bool)(d:Txt)(h0:d≠ [])(hd:∀c∈d,dgt c=true)(hlen:d.length≤10000)(S:ByteArray)(hS:S=⟨(pg neg++d).toArray⟩)(hr:inI neg d)(W:World):
  Calls Tryz.prog 154 #[.string S] W fun e w' =>e= .returned (.tuple #[.int .i64 (zC neg d),.nilIface])∧Below W.heap.size W w' :=by
 have hl:=yK neg;have hsz:S.size≤10001:=by grind [ByteArray.size]
 have ha:Lib.atoiAll S.data.toList= .ok (zC neg d):=by
  rw[hS];rw[vf neg d h0 hd];exact if_pos hr
 refine(Tryz.strconv_Atoi_ok S abh _ ha W).mono ?_
 rintro e w' ⟨rfl,rfl|⟨t,rfl⟩⟩
 ·exact⟨rfl,.refl _ _⟩
 ·exact⟨rfl,Lib.bytesWorld_below W _ t⟩
theorem B6(neg:Bool)(d:Txt)(h0:d≠ [])(hd:∀c∈d,dgt c=true)(hlen:d.length≤10000)(S:ByteArray)(hS:S=⟨(pg neg++d).toArray⟩)(hr:¬inI neg d)(W:World)(ev:Value)(hv:W.cell? ⟨2,0,none⟩=some ev)(hev:ev= .nilIface∨∃te pe,ev= .iface te pe):
  Calls Tryz.prog 154 #[.string S] W fun e w' =>(∃(x:Int) (N:Nat),e= .returned (.tuple #[.int .i64 x,.iface 311 (.pointer (some ⟨N,0,none⟩))]))∧Below W.heap.size W w' :=by
 have hl:=yK neg;have hsz:S.size≤10001:=by grind [ByteArray.size]
 have ha:Lib.atoiAll S.data.toList= .range:=by
  rw[hS];rw[vf neg d h0 hd];exact if_neg hr
 refine(Tryz.strconv_Atoi_range S abh ha ev W hv hev).mono ?_
 grind
set_option maxHeartbeats 1000000 in
theorem Db(neg:Bool)(s:Txt)(hs:s.length≤10000)(w:World)(ev:Value)(hv:w.cell? ⟨2,0,none⟩=some ev)(hev:ev= .nilIface∨∃te pe,ev= .iface te pe)(hg:2<w.heap.size):
  Calls Tryz.prog 198 #[.string ⟨(pg neg).toArray⟩,.string ⟨s.toArray⟩] w fun e w' =>e= .returned (.tuple #[.int .i64 (eR neg s).1,.int .i64 ((eR neg s).2:Nat)])∧Below w.heap.size w w' :=by
 have hle:=jG dgt s;obtain⟨d,ed⟩:∃d,s.takeWhile dgt=d:=⟨_,rfl⟩;have htk:s.take d.length=d:=by grind [qH]
 have hrun:=IS s abh w;have hall:=zA s;rw[ed]at hrun hle hall
 go_enter Tryz.func198,Tryz.ntmps198
 by_cases h0:d.length=0
 ·have e0:d= []:=by grind
  have en:eR neg s=(0,0):=by simp_all [eR,if_pos]
  go_wp2_with (go_at_call 233;refine hrun.mono ?_)
  rintro e W0 ⟨rfl,b0⟩
  rw[h0]
  go_wp2
  go_ret2
  simp_all
 ·have e0:d≠ []:=by grind
  go_wp2_with (go_at_call 233;refine hrun.mono ?_)
  rintro e W0 ⟨rfl,b0⟩
  have hpos:0<d.length:=abh;have hs0:0<s.length:=abh;have hsz:0<(⟨s.toArray⟩:ByteArray).size:=by grind [ByteArray.size]
  have hg0:(⟨s.toArray⟩:ByteArray)[0]=s[0]:=rfl;have hgn:∀x:UInt8,(s.head? =some x)↔s[0]=x:=fun x=>by
   rw[List.head?_eq_getElem?,List.getElem?_eq_getElem hs0];simp
  cases d0:((d.length:Int)==0)
  case true=>exact absurd abi h0
  have hS:(⟨(pg neg).toArray⟩:ByteArray)++(⟨s.toArray⟩:ByteArray).extract 0 d.length=⟨(pg neg++d).toArray⟩:=by
   apply ByteArray.ext
   simp_all
  have hcat:¬9223372036854775807<List.length (pg neg)+d.length:=by grind [yK]
  cases d1:decide (1<(d.length:Int))
  ·have f1:¬1<d.length:=by grind
   have en:eR neg s=if inI neg d then(zC neg d,d.length)else(0,0):=by
    unfold eR;rw[ed,if_neg abi];rfl
   have hv0:W0.cell? ⟨2,0,none⟩=some ev:=by rw[b0.cell hg];omega
   by_cases hr:inI neg d
   ·rw[if_pos hr]at en
    go_wp2_with (go_at_call 154;refine(FV neg d e0 hall abh _ abx hr _).mono ?_)
    rintro e W1 ⟨rfl,b1⟩
    go_wp2
    go_ret2
    rw[en];exact ac1
   ·rw[if_neg hr]at en
    go_wp2_with (go_at_call 154;refine(B6 neg d e0 hall abh _ abx hr _ ev hv0 hev).mono ?_)
    rintro e W1 ⟨⟨x,N,rfl⟩,b1⟩
    go_wp2
    go_ret2
    rw[en];exact ac1
  ·have f1:1<d.length:=by grind
   cases d2:((s[0].toNat:Int)==48)
   ·have f2:s.head?≠some 48:=by
     rw[ne_eq,hgn];intro e;simp_all
    have en:eR neg s=if inI neg d then(zC neg d,d.length)else(0,0):=by
     unfold eR;rw[ed,if_neg abi];rfl
    have hv0:W0.cell? ⟨2,0,none⟩=some ev:=by rw[b0.cell hg];omega
    by_cases hr:inI neg d
    ·rw[if_pos hr]at en
     go_wp2_with (go_at_call 154;refine(FV neg d e0 hall abh _ abx hr _).mono ?_)
     rintro e W1 ⟨rfl,b1⟩
     go_wp2
     go_ret2
     rw[en];exact ac1
    ·rw[if_neg hr]at en
     go_wp2_with (go_at_call 154;refine(B6 neg d e0 hall abh _ abx hr _ ev hv0 hev).mono ?_)
     rintro e W1 ⟨⟨x,N,rfl⟩,b1⟩
     go_wp2
     go_ret2
     rw[en];exact ac1
   ·have f2:s.head? =some 48:=by
     rw[hgn];have:(s[0].toNat:Int)=48:=abi;exact UInt8.toNat_inj.1 abi
    have en:eR neg s=(0,0):=by simp_all [eR,if_pos]
    go_wp2
    go_ret2
    simp_all
def lu(h:Heap):Prop:=∃ev:Value,(ev= .nilIface∨∃te pe,ev= .iface te pe)∧Tab h 2 [ev]
theorem lu.sub{h h' :Heap}(he:lu h)(hs:Ab.Sub h h'):lu h' :=by
 obtain⟨ev,h1,h2⟩:=he;exact⟨ev,h1,h2.sub hs⟩
theorem lO(neg:Bool)(s:Txt)(hs:s.length≤10000)(h:Heap)(he:lu h):ai Tryz.prog 198 [.s (pg neg),.s s] h fun r h' =>r= .tup [.v (.int .i64 (eR neg s).1),.i ((eR neg s).2:Nat)]∧h' =h:=by
 obtain⟨ev,hev,id,hi⟩:=he;refine .lib ⟨_,Tryz.func198,abx,rfl⟩ fun c vs hs' g h1 h2=>?_
 obtain⟨u,v,rfl⟩:∃u v,vs= #[u,v]:=by
  match vs,h1 with
  |⟨[u,v]⟩,_=>exact⟨u,v,rfl⟩
 have e1:u= .string ⟨(pg neg).toArray⟩:=((h2 0 abp).mR).1;have e2:v= .string ⟨s.toArray⟩:=((h2 1 abp).mR).1;subst e1;subst e2
 obtain⟨_,t,fr,hh⟩:=g.ro id _ _ (hs' _ _ hi);have hc:c.w.cell? ⟨2,0,none⟩=some ev:=by grind [World.cell?]
 refine(Db neg s hs c.w ev hc hev (cQ hh)).mono ?_
 rintro e w' ⟨rfl,hb⟩
 refine⟨⟨_,rfl,fun c' _=>?_⟩,hb⟩
 refine .tup _ _ rfl fun i hi=>?_
 rcases i with _|_|i
 ·exact ady
 ·exact ady
 ·simp at hi;omega
end Go.Proofs.YtcochaoekecfdaaGreatDoor
namespace Go.Bf
open Go Go.Ab
def marks:Txt:=[123,125,40,41,46,44,59,61,60,62,33]
theorem zj:∀n:Fin 256,decide (0≤Lib.indexByte marks (UInt8.ofNat n.val))=C5 (UInt8.ofNat n.val):=abk
theorem qQ(c:UInt8):decide (0≤Lib.indexByte marks c)=C5 c:=by
 have:=zj ⟨c.toNat,c.toNat_lt⟩;simpa using this
end Go.Bf
namespace Go.Proofs.YtcochaoekecfdaaGreatDoor
open Go Go.Ab Go.Bf
theorem CP(l:Txt)(c:UInt8)(h:Heap):ai Tryz.prog 200 [.s l,.v (.int .u8 c.toNat)] h fun r h' =>r= .i (Lib.indexByte l c)∧h' =h:=by
 refine .lib ⟨_,Tryz.func200,abx,rfl⟩ fun cx vs hs' g h1 h2=>?_
 obtain⟨u,v,rfl⟩:∃u v,vs= #[u,v]:=by
  match vs,h1 with
  |⟨[u,v]⟩,_=>exact⟨u,v,rfl⟩
 have e1:u= .string ⟨l.toArray⟩:=((h2 0 abp).mR).1;have e2:v= .int .u8 c.toNat:=(h2 1 abp).bR;subst e1;subst e2
 refine(Tryz.strings_IndexByte ⟨l.toArray⟩ c.toNat cx.w).mono ?_
 rintro e w' ⟨rfl,rfl⟩
 refine⟨⟨_,rfl,fun c' _=>?_⟩,.refl _ _⟩
 have:((c.toNat:Int).toNat).toUInt8=c:=abp;rw[this];exact ady
theorem Hp(s:Txt)(h0:s≠ [])(hs:s.length≤4096)(h:Heap)(he:lu h):ai Tryz.prog 159 [.s s] h fun r h' =>r= .tup [fA (bP s).1,.i ((bP s).2:Nat)]∧h' =h:=by
 refine abg Tryz.func159 106 [.cell 2 186,.tmp 3] fun hwf=>?_
 obtain⟨c,r,rfl⟩:=List.exists_cons_of_ne_nil h0;have hsl:r.length≤4095:=by simpa using hs
 simp only[go_sem];intro i2 hi2;simp only[go_sem];intro i4 hi4;have n24:=aH hi4;have g2:∀(f:Heap) (x:Option Blk),upd f i4 x i2=f i2:=fun f x=>ag f x n24.symm
 have g4:∀(f:Heap) (x:Option Blk),upd f i2 x i4=f i4:=fun f x=>ag f x n24
 have hsub:Ab.Sub h (upd (upd h i2 (some (.obj [.i 0,.i 0,.i 0,.s []] 186))) i4 (some (.obj [.i 0,.i 0,.i 0,.s []] 186))):=(Sub.ak hi2).trans (.ak hi4);have he2:=he.sub hsub;have hi4h:h i4=none:=by rw[ag _ _ n24]at hi4;exact hi4
 simp only[go_sem];refine .at 0 abp ?_;cases la:decide (97≤(c.toNat:Int))
 ·have hl:ltr c=false:=by simp only[ltr,la,Bool.false_and]
  simp only[go_sem,aM,List.getElem_cons_zero,la];exact afo
 ·cases lb:decide ((c.toNat:Int)≤122)
  ·have hl:ltr c=false:=by simp only[ltr,lb,Bool.and_false]
   simp only[go_sem,aM,List.getElem_cons_zero,la,lb];exact afo
  ·have hl:ltr c=true:=by simp only[ltr,la,lb];rfl
   simp only[go_sem,aM,List.getElem_cons_zero,la,lb];refine(ye _ _).pthen ?_;simp only[go_sem,g2,ah];exact .mk _ (.refl _) abj ⟨by simp[bP,hl,fA,au],rfl⟩
theorem NQ:(U 186).sz=4:=abx
theorem TP:(U 186).bytes=40:=abx
theorem oV(l:List qZ):Sized 4 (l.map fA):=fun z hz=>by
 obtain⟨c,_,rfl⟩:=List.mem_map.1 hz;rfl
def Na:Lexed→AV
 |.bad e a=> .tup [.sl [] .no,.i e,.i a]
 |.ok l=> .tup [.sl (l.map fA) .no,.i 0,.i 0]
def Jo(s:Txt)(h:Heap)(m:Nat)(ρ:Env)(h' :Heap):Prop:=
 ∃(i f:Nat) (y:AV) (out:List qZ) (id:Nat),Acc U 186 h h' y (out.map fA)∧out.length≤i∧i≤s.length∧m=s.length - i∧s.length<f+i∧s.length≤4096∧h id=none∧(∃c0 c1 c2 c3,h' id=some (.obj [c0,c1,c2,c3] 186))∧sY f (s.drop i) i out=rR s∧lk ρ 0=some (.s s)∧lk ρ 5=some y∧lk ρ 6=some (.ptr id 0)∧lk ρ 7=some (.i i)
theorem Eb(s:Txt)(h:Heap)(he:lu h):ai Tryz.prog 113 [.s s] h fun r h' =>r=Na (rR s)∧h' =h:=by
 refine ai.of_wp hU Tryz.func113 rfl abx 52 rfl [.tmp 2,.tmp 3,.tmp 4] rfl (aa6 rfl) ?_;refine .one hU hm ?_;simp only[go_sem];refine WP.Ly hU hm 0 (Jo s h) rfl ?_ ?_
 ·rintro m ρ h' ⟨i,f,y,out,id,hy,hoi,hi,rfl,hf,hs,hid,⟨c0,c1,c2,c3,hob⟩,hl,r0,r5,r6,r7⟩
  refine .vc hU hm ?_;cases d1:((i:Int)==(s.length:Int))
  case true=>
   have e1:i=s.length:=abi;subst e1;obtain⟨f,rfl⟩:∃g,f=g+1:=⟨f - 1,abh⟩;rw[List.drop_length]at hl;simp only[sY]at hl;simp only[go_sem,r0,r5,r7,d1];refine hy.app (zs:=[fA ⟨7,s.length,0,[]⟩]) abk abk (fun k hk=>hk) (by grind [NQ,oV]) (by rw[NQ];exact oV [⟨7,s.length,0,[]⟩]) (by grind [TP]) fun y' h2 hy' hk2=>?_
   simp only[go_sem];obtain⟨q,rfl⟩:=hy'.row;refine .mk _ (AS _ _ _ _) hy'.1 ⟨?_,rfl⟩
   grind [Na]
  have e1:i≠s.length:=abi;have hlt:i<s.length:=abh;obtain⟨f,rfl⟩:∃g,f=g+1:=⟨f - 1,abh⟩;have hdr:s.drop i=s[i]::s.drop (i+1):=abp;have w1:IntKind.i64.wrap ((i:Int)+1)=((i+1:Nat):Int):=abv;have hl2:=hl;rw[hdr]at hl2;simp only[sY]at hl2;rw[←hdr]at hl2;have blank:pN s[i]=true→∃m',m' <s.length - i∧True:=fun _=>⟨s.length - (i+1),abh,trivial⟩
  cases d2:((s[i].toNat:Int)==32)
  case true=>
   have hb:pN s[i]=true:=by simp only[pN,d2,Bool.true_or]
   rw[if_pos hb]at hl2;simp only[go_sem,r0,r7,d1];refine .at i hlt ?_;simp only[go_sem,r7,aM,d2,w1];exact agc
  cases d3:((s[i].toNat:Int)==10)
  case true=>
   have hb:pN s[i]=true:=by simp only[pN,d3,Bool.or_true]
   rw[if_pos hb]at hl2;simp only[go_sem,r0,r7,d1];refine .at i hlt ?_;simp only[go_sem,r0,r7,aM,d2];refine .at i hlt ?_;simp only[go_sem,r7,aM,d3,w1];exact agc
  have hb:¬pN s[i]=true:=by grind [pN]
  rw[if_neg hb]at hl2;have hne:s.drop i≠ []:=fun e=>by have:=congrArg List.length e;simp at this;omega
  have hle:=rH (s.drop i) hne;have hdl:(s.drop i).length=s.length - i:=abp;have hbo:=fun hh eh=>Hp (s.drop i) hne abh hh eh
  obtain⟨t,n,etn⟩:∃t n,bP (s.drop i)=(t,n):=⟨_,_,rfl⟩;rw[etn]at hbo hl2 hle;simp only[fA]at hbo hl2 hle;simp only[go_sem,r0,r7,d1];refine .at i hlt ?_;simp only[go_sem,r0,r7,aM,d2];refine .at i hlt ?_;simp only[go_sem,r0,r7,aM,d3,lC,Option.isSome_none,Option.isSome_some,Int.toNat_natCast];refine⟨abh,abh,abh,?_⟩;refine(hbo _ (he.sub hy.1)).pthen ?_;cases d4:((n:Int)==0)
  case true=>
   have e4:n=0:=abi;rw[if_pos e4]at hl2;simp only[go_sem,r6,r7,hob,d4];refine .mk _ (AS _ _ _ _) (hy.1.put hid _) ⟨?_,rfl⟩;rw[←hl2];rfl
  have e4:n≠0:=abi;rw[if_neg e4]at hl2;have w2:IntKind.i64.wrap ((i:Int)+(n:Int))=((i+n:Nat):Int):=abv;simp only[go_sem,r5,r6,r7,hob,d4];refine(hy.put hid hob _).app (zs:=[fA {t with pos:=i}]) abk abk (fun k hk=>hk) (by grind [NQ,oV]) (by rw[NQ];exact oV [{t with pos:=i}]) (by grind [TP]) fun y' h2 hy' hk2=>?_
  simp only[go_sem,r7,w2];refine⟨s.length - (i+n),abh,i+n,f,y',out++ [{t with pos:=i}],id,abi,abi,abh,rfl,abh,hs,hid,⟨_,_,_,_,hk2 _ _ _ (ah ..)⟩,?_,?_,?_,?_,?_⟩
  ·grind [List.drop_drop]
  all_goals simp only[go_sem,r0,r6]
 ·intro nx
  cases d0:decide (4096<(s.length:Int))
  case true=>
   have e0:s.length>4096:=abi;refine .one hU hm ?_;simp only[go_sem,d0];exact .mk (.tup [.sl [] .no,.i 6,.i 4096]) (fm (.tup [.sl [] .full,.i 6,.i 4096])) (.refl _) ⟨by rw[rR,if_pos e0];rfl,rfl⟩
  have e0:¬s.length>4096:=abi;refine .one hU hm ?_;simp only[go_sem,d0];refine .one hU hm ?_;simp only[go_sem];refine .one hU hm ?_;simp only[go_sem];intro id hid;simp only[go_sem];refine .one hU hm ?_;simp only[go_sem];refine .one hU hm ?_;simp only[go_sem];refine nx (s.length - 0) _ _ ⟨0,s.length+1,_,[],id,.full (.ak hid),abp,abh,rfl,abh,abh,hid,⟨_,_,_,_,ah ..⟩,by simp_all [rR,if_neg],?_,?_,?_,?_⟩<;>simp only[go_sem]
def PO(st:PS):Blk:=.obj [.sl (st.ts.map fA) .no,.i st.pos,.i st.rules,.i st.bad,.i st.place] 183
def PC(f:FuncId)(args:List AV)(st:PS)(R:AV)(st' :PS):Prop:=∀(h:Heap) (id:Nat),h id=some (PO st)→ai Tryz.prog f (.ptr id 0::args) h fun r h' =>r=R∧h' =upd h id (some (PO st'))
theorem PC.go{f:FuncId}{args:List AV}{st st' :PS}{R:AV}(hc:PC f args st R st'){h:Heap}{id:Nat}{Q:AV→Heap→Prop}(hid:h id=some (PO st))(k:Q R (upd h id (some (PO st')))):ai Tryz.prog f (.ptr id 0::args) h Q:=
 (hc h id hid).mono fun r h' ⟨e1,e2⟩=>adS
theorem bD{h:Heap}{id:Nat}{b:Option Blk}(e:h id=b):upd h id b=h:=by
 grind [ah,ag]
theorem qL(st:PS)(e p:Int):PC 118 [.i e,.i p] st (.tup []) (bG st e p):=fun h id hid=>by
 refine abg Tryz.func118 19 [] fun hwf=>?_
 have g:=hid;unfold PO at g;cases d1:(st.bad==0)
 ·have e1:st.bad≠0:=by grind
  simp only[go_sem,g,d1];exact .mk _ (.refl _) (.refl _) ⟨rfl,by rw[bG,if_neg e1,bD hid]⟩
 ·have e1:st.bad=0:=by grind
  simp only[go_sem,g,d1];exact .mk _ (.refl _) (.refl _) ⟨rfl,by rw[bG,if_pos e1];rfl⟩
theorem lE(st:PS)(hw:WfP st):PC 115 [] st (fA (aJ st)) st:=fun h id hid=>by
 refine abg Tryz.func115 13 [.cell 2 186] fun hwf=>?_
 have g:=hid;unfold PO at g;simp only[go_sem];intro i2 hi2;have n2:id≠i2:=fun e=>abi
 simp only[go_sem,g,aj,n2];refine⟨.of abl,?_⟩;refine .at st.pos (by simpa using hw.1) aby ?_
 simp only[go_sem,aa8,fA];refine .mk _ (.refl _) (.ak hi2) ⟨by rw[CN hw.1];rfl,(bD hid).symm⟩
theorem kQ(st:PS)(hw:WfP st):PC 116 [] st (.tup []) (bg st):=fun h id hid=>by
 refine abg Tryz.func116 7 [] fun hwf=>?_
 simp only[go_sem];refine(lE st hw).go hid ?_;rw[bD hid];simp only[go_sem,fA];refine(qL st 5 _).go hid ?_;exact afU
theorem cH(st:PS)(b:Bool)(hw:WfP st):PC 204 [.b b] st (.tup []) (bC st b):=fun h id hid=>by
 refine abg Tryz.func204 10 [] fun hwf=>?_
 cases b
 ·simp only[go_sem]
  exact adY
 simp only[go_sem];refine(lE st hw).go hid ?_;rw[bD hid];simp only[go_sem,fA];refine(qL st 6 _).go hid ?_;exact afU
theorem sW(st:PS)(s:Txt)(hw:WfP st):PC 205 [.s s] st (.b (isD st s)) st:=fun h id hid=>by
 refine abg Tryz.func205 29 [.tmp 4] fun hwf=>?_
 have g:=hid;unfold PO at g;simp only[go_sem];refine(lE st hw).go hid ?_;rw[bD hid];simp only[go_sem,fA];intro i2 hi2;have n2:id≠i2:=fun e=>abi
 cases d1:(st.bad==0)<;>cases d2:((aJ st).s==s)<;>cases d3:((aJ st).kind==1)<;>cases d4:((aJ st).kind==6)
 all_goals
  simp only[go_sem,g,aj,n2,d1,d2,d3,d4];exact .mk _ (.refl _) (.ak hi2) ⟨by simp only[isD,d1,d2,d3,d4];rfl,rfl⟩
theorem jH(st:PS)(s:Txt)(hw:WfP st):PC 202 [.s s] st (.v (.bool (cm st s).1)) (cm st s).2:=fun h id hid=>by
 refine abg Tryz.func202 18 [.tmp 4] fun hwf=>?_
 have g:=hid;unfold PO at g;simp only[go_sem];refine(sW st s hw).go hid ?_;rw[bD hid];cases d1:isD st s
 ·have e:cm st s=(false,st):=by grind [cm]
  simp only[go_sem];exact .mk _ (.refl _) (.refl _) ⟨ae2,by grind [bD]⟩
 ·have e:cm st s=(true,aZ st):=by grind [cm]
  have w1:IntKind.i64.wrap ((st.pos:Int)+1)=((st.pos+1:Nat):Int):=acU;simp only[go_sem,g,w1];exact .mk _ (.refl _) (.refl _) ⟨ae2,ae2⟩
theorem j8(st:PS)(s:Txt)(hw:WfP st):PC 163 [.s s] st (.tup []) (dO st s):=fun h id hid=>by
 refine abg Tryz.func163 10 [] fun hwf=>?_
 simp only[go_sem];refine(jH st s hw).go hid ?_;cases d1:isD st s
 ·have e:cm st s=(false,st):=by grind [cm]
  rw[e,bD hid];simp only[go_sem];refine(kQ st hw).go hid ?_;exact agO
 ·have e:cm st s=(true,aZ st):=by grind [cm]
  rw[e];exact agO
theorem tC(st:PS)(hw:WfP st):PC 161 [] st (.s (ck st).1) (ck st).2:=fun h id hid=>by
 refine abg Tryz.func161 25 [.tmp 2] fun hwf=>?_
 have g:=hid;unfold PO at g;have w1:IntKind.i64.wrap ((st.pos:Int)+1)=((st.pos+1:Nat):Int):=acU;simp only[go_sem];refine(lE st hw).go hid ?_;rw[bD hid];simp only[go_sem,fA];intro i2 hi2;have n2:id≠i2:=fun e=>abi
 cases d1:((aJ st).kind !=1)
 case true=>
  have e1:(aJ st).kind≠1:=abi;have en:ck st=([],bg st):=by grind [ck]
  simp only[go_sem,d1];have hid2:upd h i2 (some (.obj [.v (.int .i64 (aJ st).kind),.v (.int .i64 (aJ st).pos),.v (.int .i64 (aJ st).n),.s (aJ st).s] 186)) id=some (PO st):=abQ;refine(kQ st hw).go hid2 ?_;have hb:(bg st).bad≠0:=by
   grind [bg,bG,Int]
  have d2:((bg st).bad !=0)=true:=abi;simp only[go_sem,PO,d2];exact .mk _ (.refl _) (Sub.both (.ak hi2) _ _) ⟨ab3,abi⟩
 have e1:(aJ st).kind=1:=abi;cases d2:(st.bad !=0)
 case true=>
  have e2:st.bad≠0:=abi;have en:ck st=([],st):=by grind [ck]
  simp only[go_sem,g,aj,n2,d1,d2];exact .mk _ (.refl _) (.ak hi2) ⟨ab3,by grind [bD]⟩
 have e2:st.bad=0:=abi;have en:ck st=((aJ st).s,aZ st):=by grind [ck]
 simp only[go_sem,g,aj,n2,n2.symm,d1,d2,w1];exact .mk _ (.refl _) (Sub.both (.ak hi2) _ _) ⟨ab3,by rw[en];try rfl⟩
theorem PC.run{f:FuncId}{args:List AV}{st st' :PS}{R:AV}(hc:PC f args st R st'){G:Heap}{id:Nat}{Q:AV→Heap→Prop}(k:Q R (upd G id (some (PO st')))):ai Tryz.prog f (.ptr id 0::args) (upd G id (some (PO st))) Q:=
 hc.go (ah ..) (by rw[mU];exact k)
theorem PC.of{f:FuncId}{args:List AV}{st st' :PS}{R:AV}(hk:∀(G:Heap) (id:Nat),ai Tryz.prog f (.ptr id 0::args) (upd G id (some (PO st))) fun r h' =>r=R∧h' =upd G id (some (PO st'))):PC f args st R st' :=fun h id hid=>by
 have:=hk h id;rw[bD hid]at this;exact abZ
theorem ct{α:Type}(f:Nat→α){i j:Nat}(x y:α)(h:i≠j):upd (upd f i x) j y=upd (upd f j y) i x:=by
 grind [ag,ah]
theorem Bs{s:Txt}:∀ {ws:List Txt} {i:Nat},uo s ws=some i→i<ws.length
 |w::r,i,h=>by
  simp only[uo]at h;split at h
  ·grind
  ·cases hr:uo s r with
   |none=>grind
   |some j=>rw[hr]at h;cases h;have:=Bs hr;simp;omega
theorem Gd{s:Txt}:∀ {ws:List Txt} (i:Nat) (hi:i<ws.length),(∀j (hj:j<ws.length),j<i→ws[j]≠s)→ws[i]=s→uo s ws=some i
 |w::r,0,_,_,h=>by grind [uo]
 |w::r,i+1,hi,hb,h=>by
  have h0:=hb 0 abp abh;simp only[List.getElem_cons_zero]at h0;simp only[uo,if_neg h0];rw[Gd i abi abi abi];rfl
theorem Ae{s:Txt}:∀ {ws:List Txt},(∀j (hj:j<ws.length),ws[j]≠s)→uo s ws=none
 | [],_=>rfl
 |w::r,hb=>by
  have h0:=hb 0 abp;simp only[List.getElem_cons_zero]at h0;simp only[uo,if_neg h0];rw[Ae (fun j hj=>by have:=hb (j+1) abi;simpa using this)]
  rfl
def PX(o:Option Nat):Int:=match o with
 |some i=>i
 |none=> -1
theorem Il(ws:List Txt)(q:Perm)(s:Txt)(hl:ws.length≤1000)(h:Heap):ai Tryz.prog 201 [.sl (ws.map AV.s) q,.s s] h fun r h' =>r= .i (PX (uo s ws))∧h' =h:=by
 refine abg Tryz.func201 19 [.tmp 4] fun hwf=>?_
 simp only[go_sem,aa7];refine .intro (fun m ρ h' =>h' =h∧∃i:Nat,i≤ws.length∧m=ws.length - i∧(∀j (hj:j<ws.length),j<i→ws[j]≠s)∧lk ρ 0=some (.sl (ws.map AV.s) q)∧lk ρ 1=some (.s s)∧lk ρ 7=some (.i ws.length)∧lk ρ 8=some (.i i)) ws.length ?_ ?_
 ·refine⟨rfl,0,abh,rfl,fun j _ hj=>abh,?_,?_,?_,?_⟩<;>simp only[go_sem]
 ·rintro m ρ h' ⟨rfl,i,hi,rfl,hc,r0,r1,r7,r8⟩
  simp only[go_sem,r7,r8];refine .intro (fun e=>?_) (fun e=>?_)
  ·have hlt:i<ws.length:=abe e
   have w1:IntKind.i64.wrap ((i:Int)+1)=((i+1:Nat):Int):=abv;simp only[go_sem,r0,r1,r8];refine .at i abi aby ?_;cases d1:(s==ws[i])
   ·have e1:ws[i]≠s:=by grind
    simp only[go_sem,r8,aa8,d1,w1];refine⟨_,?_,rfl,i+1,abh,rfl,fun j hj hji=>?_,?_,?_,?_,?_⟩
    ·omega
    ·grind
    all_goals simp only[go_sem,r0,r1,r7]
   ·have e1:ws[i]=s:=by grind
    simp only[go_sem,aa8,d1];exact .same (.refl _) ⟨by rw[Gd i hlt hc e1];rfl,rfl⟩
  ·have hge:i=ws.length:=by grind
   subst hge;simp only[go_sem];exact .same (.refl _) ⟨by rw[Ae fun j hj=>hc j hj hj];rfl,rfl⟩
theorem nD(st:PS)(ws:List Txt)(q:Perm)(hl:ws.length≤1000)(hw:WfP st):PC 160 [.sl (ws.map AV.s) q] st (.v (.int .i64 (aV st ws).1)) (aV st ws).2:=.of fun G id=>by
 refine abg Tryz.func160 28 [.tmp 4] fun hwf=>?_
 simp only[go_sem];refine(lE st hw).run ?_;simp only[go_sem,fA];intro i2 hi2;have n2:=aH hi2;have hG2:G i2=none:=abQ;have c2:∀(f:Heap) (x y:Option Blk),upd (upd f id x) i2 y=upd (upd f i2 y) id x:=fun f x y=>ct f x y n2.symm
 cases d1:((aJ st).kind==1)
 ·have e1:(aJ st).kind≠1:=by grind
  have en:aV st ws=(0,bg st):=by grind [aV]
  simp only[go_sem,c2,aj,n2,d1];exact afR
 have e1:(aJ st).kind=1:=abi;simp only[go_sem,c2,aj,n2,d1];refine(Il ws q _ hl _).pthen ?_;cases ei:uo (aJ st).s ws with
 |none=>
  have en:aV st ws=(0,bg st):=by grind [aV]
  have dm:decide ((0:Int)≤ -1)=false:=abk;simp only[go_sem,PX,dm];exact afR
 |some i=>
  have hil:=Bs ei;have d2:decide (0≤(i:Int))=true:=abp;have w1:IntKind.i64.wrap ((i:Int)+1)=((i:Int)+1):=abv;simp only[go_sem,PX,d2,aj,n2];refine(jH st _ hw).run ?_;cases d3:(st.bad==0)
  ·have e3:st.bad≠0:=by grind
   have et:cm st (aJ st).s=(false,st):=by grind [cm,isD]
   have en:aV st ws=(0,bg st):=by grind [aV]
   rw[et];simp only[go_sem];exact afR
  ·have e3:st.bad=0:=by grind
   have et:cm st (aJ st).s=(true,aZ st):=by grind [cm,isD]
   have en:aV st ws=((i:Int)+1,aZ st):=by grind [aV]
   rw[et];simp only[go_sem,w1];exact .mk _ (.refl _) (Sub.both (.ak hG2) _ _) ⟨ab3,by rw[en]⟩
theorem JG(st:PS)(hw:WfP st):PC 294 [] st (B7 (fN st).1) (fN st).2:=.of fun G id=>by
 have h1:=gp vh hw;have h2:=iR [46] h1.1;have h3:=mB h2.1;refine abg Tryz.func294 17 [.cell 2 227] fun hwf=>?_
 simp only[go_sem];intro i2 hi2;have n2:=aH hi2;have hG2:G i2=none:=abQ;have c2:∀(f:Heap) (x y:Option Blk),upd (upd f id x) i2 y=upd (upd f i2 y) id x:=fun f x y=>ct f x y n2.symm
 simp only[go_sem,c2];intro i3 hi3;have n3:=aH hi3;have hi3' :=hi3;rw[ag _ _ n3]at hi3';have n32:=aH hi3';have hG3:G i3=none:=abQ;have c3:∀(f:Heap) (x y:Option Blk),upd (upd f id x) i3 y=upd (upd f i3 y) id x:=fun f x y=>ct f x y n3.symm
 have c23:∀(f:Heap) (x y:Option Blk),upd (upd f i3 x) i2 y=upd (upd f i2 y) i3 x:=fun f x y=>ct f x y n32
 have m32:¬i3=i2:=n32;have m23:¬i2=i3:=n32.symm;simp only[go_sem,c3];refine(nD st vh .full abk hw).run ?_;simp only[go_sem,c3,aj,n3];refine(j8 _ [46] h1.1).run ?_;simp only[go_sem];refine(tC _ h2.1).run ?_;simp only[go_sem,c3,aj,n3];refine(jH _ [33] h3.1).run ?_;simp only[go_sem,c2,c3,c23,aj,n2,n3,m23];exact .mk _ (.refl _) (Sub.both abJ _ _) ⟨rfl,rfl⟩
theorem tQ(st:PS)(hw:WfP st):PC 295 [] st (aR (aD st).1) (aD st).2:=.of fun G id=>by
 refine abg Tryz.func295 56 [.cell 2 30] fun hwf=>?_
 have w1:IntKind.i64.wrap ((st.pos:Int)+1)=((st.pos+1:Nat):Int):=acU;simp only[go_sem];intro i2 hi2;have n2:=aH hi2;have hG2:G i2=none:=by rw[ag _ _ n2]at hi2;exact hi2
 have c2:∀(f:Heap) (x y:Option Blk),upd (upd f id x) i2 y=upd (upd f i2 y) id x:=fun f x y=>ct f x y n2.symm
 simp only[go_sem,c2];refine(lE st hw).run ?_;simp only[go_sem,fA];intro i3 hi3;have n3:=aH hi3;have hi3' :=hi3;rw[ag _ _ n3]at hi3';have n32:=aH hi3';have hG3:G i3=none:=by rw[ag _ _ n32]at hi3';exact hi3'
 have c3:∀(f:Heap) (x y:Option Blk),upd (upd f id x) i3 y=upd (upd f i3 y) id x:=fun f x y=>ct f x y n3.symm
 have c23:∀(f:Heap) (x y:Option Blk),upd (upd f i3 x) i2 y=upd (upd f i2 y) i3 x:=fun f x y=>ct f x y n32
 have m32:¬i3=i2:=n32;have m23:¬i2=i3:=n32.symm;simp only[go_sem,c3,aj,n3];intro i4 hi4;have n4:=aH hi4;have hi4' :=hi4;rw[ag _ _ n4]at hi4';have n43:=aH hi4';have hi4'' :=hi4';rw[ag _ _ n43]at hi4'';have n42:=aH hi4'';have hG4:G i4=none:=by rw[ag _ _ n42]at hi4'';exact hi4''
 have c4:∀(f:Heap) (x y:Option Blk),upd (upd f id x) i4 y=upd (upd f i4 y) id x:=fun f x y=>ct f x y n4.symm
 have c24:∀(f:Heap) (x y:Option Blk),upd (upd f i4 x) i2 y=upd (upd f i2 y) i4 x:=fun f x y=>ct f x y n42
 have c34:∀(f:Heap) (x y:Option Blk),upd (upd f i4 x) i3 y=upd (upd f i3 y) i4 x:=fun f x y=>ct f x y n43
 have m42:¬i4=i2:=n42;have m24:¬i2=i4:=n42.symm;have m43:¬i4=i3:=n43;have m34:¬i3=i4:=n43.symm;cases k2:((aJ st).kind==2)
 case true=>
  have e2:(aJ st).kind=2:=by simpa using k2
  have ev:fM st=(⟨2,(aJ st).n,(aJ st).s⟩,st):=by simp[fM,e2]
  cases kb:(st.bad !=0)
  ·have eb:st.bad=0:=by simpa using kb
   have en:aD st=(⟨2,(aJ st).n,(aJ st).s⟩,aZ st):=acF;simp only[go_sem,c2,c4,c23,c24,aj,n2,n3,n4,m23,m24,m34,k2,PO,kb,w1];exact afv
  ·have eb:st.bad≠0:=by simpa using kb
   have en:aD st=(⟨0,0,[]⟩,st):=acF;simp only[go_sem,c2,c4,c23,c24,aj,n2,n3,n4,m23,m24,m34,k2,PO,kb];exact afv
 have e2:(aJ st).kind≠2:=by simpa using k2
 cases k3:((aJ st).kind==3)
 case true=>
  have e3:(aJ st).kind=3:=by simpa using k3
  have ev:fM st=(⟨4,(aJ st).n,(aJ st).s⟩,st):=by simp[fM,e3]
  cases kb:(st.bad !=0)
  ·have eb:st.bad=0:=by simpa using kb
   have en:aD st=(⟨4,(aJ st).n,(aJ st).s⟩,aZ st):=acF;simp only[go_sem,c2,c4,c23,c24,aj,n2,n3,n4,m23,m24,m34,k2,k3,PO,kb,w1];exact afv
  ·have eb:st.bad≠0:=by simpa using kb
   have en:aD st=(⟨0,0,[]⟩,st):=acF;simp only[go_sem,c2,c4,c23,c24,aj,n2,n3,n4,m23,m24,m34,k2,k3,PO,kb];exact afv
 have e3:(aJ st).kind≠3:=by simpa using k3
 cases k4:((aJ st).kind==4)
 case true=>
  have e4:(aJ st).kind=4:=by simpa using k4
  have ev:fM st=(⟨5,(aJ st).n,(aJ st).s⟩,st):=by simp[fM,e4]
  cases kb:(st.bad !=0)
  ·have eb:st.bad=0:=by simpa using kb
   have en:aD st=(⟨5,(aJ st).n,(aJ st).s⟩,aZ st):=acF;simp only[go_sem,c2,c4,c23,c24,aj,n2,n3,n4,m23,m24,m34,k2,k3,k4,PO,kb,w1];exact afv
  ·have eb:st.bad≠0:=by simpa using kb
   have en:aD st=(⟨0,0,[]⟩,st):=acF;simp only[go_sem,c2,c4,c23,c24,aj,n2,n3,n4,m23,m24,m34,k2,k3,k4,PO,kb];exact afv
 have e4:(aJ st).kind≠4:=by simpa using k4
 cases k5:((aJ st).kind==5)
 case true=>
  have e5:(aJ st).kind=5:=by simpa using k5
  have ev:fM st=(⟨3,(aJ st).n,(aJ st).s⟩,st):=by simp[fM,e5]
  cases kb:(st.bad !=0)
  ·have eb:st.bad=0:=by simpa using kb
   have en:aD st=(⟨3,(aJ st).n,(aJ st).s⟩,aZ st):=acF;simp only[go_sem,c2,c4,c23,c24,aj,n2,n3,n4,m23,m24,m34,k2,k3,k4,k5,PO,kb,w1];exact afv
  ·have eb:st.bad≠0:=by simpa using kb
   have en:aD st=(⟨0,0,[]⟩,st):=acF;simp only[go_sem,c2,c4,c23,c24,aj,n2,n3,n4,m23,m24,m34,k2,k3,k4,k5,PO,kb];exact afv
 have e5:(aJ st).kind≠5:=by simpa using k5
 simp only[go_sem,c4,aj,n3,n4,m34,k2,k3,k4,k5];refine(sW st vQ hw).run ?_;cases kt:isD st vQ
 case true=>
  have ev:fM st=(⟨1,1,[]⟩,st):=by simp[fM,e2,e3,e4,e5,kt]
  cases kb:(st.bad !=0)
  ·have eb:st.bad=0:=by simpa using kb
   have en:aD st=(⟨1,1,[]⟩,aZ st):=acF;simp only[go_sem,c2,c4,c23,c24,aj,n2,n4,m23,m24,PO,kb,w1];exact afv
  ·have eb:st.bad≠0:=by simpa using kb
   have en:aD st=(⟨0,0,[]⟩,st):=acF;simp only[go_sem,c2,c4,c23,c24,aj,n2,n4,m23,m24,PO,kb];exact afv
 simp only[go_sem];refine(sW st pY hw).run ?_;cases kf:isD st pY
 case true=>
  have ev:fM st=(⟨1,0,[]⟩,st):=by simp[fM,e2,e3,e4,e5,kt,kf]
  cases kb:(st.bad !=0)
  ·have eb:st.bad=0:=by simpa using kb
   have en:aD st=(⟨1,0,[]⟩,aZ st):=acF;simp only[go_sem,c2,c4,c23,c24,aj,n2,n4,m23,m24,PO,kb,w1];exact afv
  ·have eb:st.bad≠0:=by simpa using kb
   have en:aD st=(⟨0,0,[]⟩,st):=acF;simp only[go_sem,c2,c4,c23,c24,aj,n2,n4,m23,m24,PO,kb];exact afv
 have ev:fM st=(⟨0,(aJ st).n,(aJ st).s⟩,bg st):=by simp[fM,e2,e3,e4,e5,kt,kf]
 have en:aD st=(⟨0,0,[]⟩,bg st):=by simp[aD,ev,qW]
 have kb:((bg st).bad !=0)=true:=by simpa using qW st
 simp only[go_sem];refine(kQ st hw).run ?_;simp only[go_sem,c2,c23,c24,aj,n2,m23,m24,PO,kb];exact afv
def tg:List Txt:=[[61],[60],[62]]
theorem Qp{st:PS}(i:Nat)(hi:i<tg.length)(hb:∀j (hj:j<tg.length),j<i→isD st tg[j]=false)(h:isD st tg[i]=true):opP st=((i:Int)+1,aZ st):=by
 have h3:i<3:=hi;rcases(by omega:i=0∨i=1∨i=2)with rfl|rfl|rfl
 ·simp only[opP,show isD st [61]=true from h,if_true];rfl
 ·simp only[opP,show isD st [61]=false from hb 0 abk abk,show isD st [60]=true from h,if_true];rfl
 ·simp only[opP,show isD st [61]=false from hb 0 abk abk,show isD st [60]=false from hb 1 abk abk,show isD st [62]=true from h,if_true];rfl
theorem KU{st:PS}(hb:∀j (hj:j<tg.length),isD st tg[j]=false):opP st=(0,bg st):=by
 simp only[opP,show isD st [61]=false from hb 0 abk,show isD st [60]=false from hb 1 abk,show isD st [62]=false from hb 2 abk];rfl
theorem Gl(st:PS)(hw:WfP st):PC 269 [] st (dH (ga st).1) (ga st).2:=.of fun G id=>by
 have h1:=A3 hw;obtain⟨a,st1,e1⟩:∃a st1,fN st=(a,st1):=⟨_,_,rfl⟩;have hat:=JG st hw;rw[e1]at h1 hat;simp only at h1 hat;refine abg Tryz.func269 32 [.cell 2 273] fun hwf=>?_
 simp only[go_sem];intro i2 hi2;have n2:=aH hi2;have hG2:G i2=none:=abQ;have c2:∀(f:Heap) (x y:Option Blk),upd (upd f id x) i2 y=upd (upd f i2 y) id x:=fun f x y=>ct f x y n2.symm
 simp only[go_sem,c2];refine hat.run ?_;simp only[go_sem,B7];intro i3 hi3;have n3:=aH hi3;have hi3' :=hi3;rw[ag _ _ n3]at hi3';have n32:=aH hi3';have hG3:G i3=none:=abQ;have c3:∀(f:Heap) (x y:Option Blk),upd (upd f id x) i3 y=upd (upd f i3 y) id x:=fun f x y=>ct f x y n3.symm
 have c23:∀(f:Heap) (x y:Option Blk),upd (upd f i3 x) i2 y=upd (upd f i2 y) i3 x:=fun f x y=>ct f x y n32
 have m32:¬i3=i2:=n32;have m23:¬i2=i3:=n32.symm;simp only[go_sem,c3,aj,n3];refine .intro (fun m ρ H=>H=upd (upd (upd G i2 (some (.obj [.i 0,.s [],.b false,.i 0,.i 0,.i 0,.s []] 273))) i3 (some (.obj [.i a.cat,.s a.name,.b a.must,.i 0,.i 0,.i 0,.s []] 273))) id (some (PO st1))∧
  ∃i:Nat,i≤3∧m=3 - i∧(∀j (hj:j<tg.length),j<i→isD st1 tg[j]=false)∧lk ρ 0=some (.ptr id 0)∧lk ρ 2=some (.ptr i2 0)∧lk ρ 3=some (.ptr i3 0)∧lk ρ 9=some (.sl (tg.map AV.s) .full)∧lk ρ 10=some (.i 3)∧lk ρ 11=some (.i i)) 3 ?_ ?_
 ·refine⟨rfl,0,abh,rfl,fun j _ hj=>abh,?_,?_,?_,?_,?_,?_⟩<;>simp only[go_sem]<;>rfl
 ·rintro m ρ H ⟨rfl,i,hi,rfl,hb,r0,r2,r3,r9,r10,r11⟩
  simp only[go_sem,r10,r11];refine .intro (fun e=>?_) (fun e=>?_)
  ·have hlt:i<3:=by grind
   have hlo:i<tg.length:=hlt;have w1:IntKind.i64.wrap ((i:Int)+1)=((i+1:Nat):Int):=abv;have w2:IntKind.i64.wrap (1+(i:Int))=((i:Int)+1):=abi;simp only[go_sem,r9,r11];refine .at i abi aby ?_;simp only[go_sem,r0,aa8];refine(jH st1 tg[i] h1.1).run ?_;cases d1:isD st1 tg[i]
   ·have et:cm st1 tg[i]=(false,st1):=by grind [cm]
    rw[et];simp only[go_sem,r11,w1];refine⟨_,?_,rfl,i+1,abh,rfl,fun j hj hji=>?_,?_,?_,?_,?_,?_,?_⟩
    ·omega
    ·grind
    all_goals simp only[go_sem,r0,r2,r3,r9,r10]
   ·have et:cm st1 tg[i]=(true,aZ st1):=by grind [cm]
    have eo:=Qp i hlo hb d1;have h2:Ah st1 (aZ st1):=eP h1.1 (dD d1);have en:ga st=(⟨a,(i:Int)+1,(aD (aZ st1)).1⟩,(aD (aZ st1)).2):=by grind [ga]
    have d2:(((i:Int)+1)==0)=false:=abx;rw[et];simp only[go_sem,c3,aj,n3,r0,r3,w2,d2];refine(tQ (aZ st1) h2.1).run ?_;exact agh
  ·have hge:i=3:=by grind
   subst hge;have eo:=KU fun j hj=>hb j hj hj
   have h2:Ah st1 (bg st1):=nC h1.1;have en:ga st=(⟨a,0,(aD (bg st1)).1⟩,(aD (bg st1)).2):=by grind [ga]
   simp only[go_sem,r0,r3,aj,n3];refine(kQ st1 h1.1).run ?_;simp only[go_sem,r0];refine(tQ (bg st1) h2.1).run ?_;exact agh
theorem QT:(U 273).sz=7:=abx
theorem TX:(U 273).bytes=72:=abx
theorem GP(l:List bO):Sized 7 (l.map dH):=fun z hz=>by
 obtain⟨c,_,rfl⟩:=List.mem_map.1 hz;rfl
theorem QS:(U 274).sz=1:=abx
theorem TV:(U 274).bytes=24:=abx
theorem GO(l:List (List bO)):Sized 1 (l.map iF):=fun z hz=>by
 obtain⟨c,_,rfl⟩:=List.mem_map.1 hz;rfl
theorem QU:(U 270).sz=1:=abx
theorem TZ:(U 270).bytes=24:=abx
theorem GR(l:List (List (List bO))):Sized 1 (l.map cO):=fun z hz=>by
 obtain⟨c,_,rfl⟩:=List.mem_map.1 hz;rfl
theorem N9(st:PS)(hw:WfP st):PC 238 [] st (iF (pn st).1) (pn st).2:=.of fun G id=>by
 have h1:=pI hw;have hm1:=Gl st hw;obtain⟨x0,st1,e1⟩:∃x0 st1,ga st=(x0,st1):=⟨_,_,rfl⟩;have ep:fG ga [44] 8 st.ts.length st1 [x0]=pn st:=by grind [pn]
 rw[e1]at h1 hm1;simp only[dH]at h1 hm1;refine abg Tryz.func238 20 [.tmp 2] fun hwf=>?_
 simp only[go_sem];refine hm1.run ?_;simp only[go_sem];have hB:upd G id none id=none:=ah ..;refine .intro (fun m ρ H=>∃(f:Nat) (st' :PS) (l:List _) (y:AV),H id=some (PO st')∧Acc U 273 (upd G id none) H y (l.map dH)∧Ah st1 st'∧fG ga [44] 8 f st' l=pn st∧st1.ts.length≤f+st'.pos∧l.length≤st'.pos+1∧m=st1.ts.length - st'.pos∧lk ρ 0=some (.ptr id 0)∧lk ρ 3=some y) (st1.ts.length - st1.pos) ?_ ?_
 ·refine⟨st.ts.length,st1,[x0],.sl ([x0].map dH) .full,ah ..,.full (base_start G id _),.refl h1.1,ep,by rw[h1.2.1];omega,abp,rfl,?_,?_⟩<;>simp only[go_sem]<;>rfl
 ·rintro m ρ H ⟨f,st',l,y,hH,hy,ha,hfin,hf,hll,rfl,r0,r3⟩
  have hlen:=ha.1.2.2;have hpos:=ha.1.1;have htl:=ha.2.1;simp only[go_sem,r0];refine(jH st' [44] ha.1).go hH ?_;cases d1:isD st' [44]
  ·have et:cm st' [44]=(false,st'):=by grind [cm]
   have ef:fG ga [44] 8 f st' l=(l,st'):=aeE;rw[et,bD hH];rw[ef]at hfin;simp only[go_sem,r3];exact .mk (h' :=upd G id (some (PO (pn st).2))) (iF l) hy.weak (by rw[←hfin];exact fh hy.1 hH) ⟨abi,rfl⟩
  ·have et:cm st' [44]=(true,aZ st'):=by grind [cm]
   obtain⟨g,rfl⟩:∃g,f=g+1:=⟨f - 1,abi⟩;simp only[fG,d1,if_true]at hfin;have h2:=eP ha.1 (dD d1);have hone:=Gl (aZ st') h2.1;have h3:=(fun _ h=>pI h:∀st,WfP st→Ah st (ga st).2) _ h2.1
   obtain⟨x,st2,e2⟩:∃x st2,ga (aZ st')=(x,st2):=⟨_,_,rfl⟩;rw[e2]at hfin hone h3;simp only[dH]at hfin hone h3;have hdec:decide ((8:Int)<((l.length+1:Nat):Int))=decide (8<l.length+1):=by
    grind
   have h4:=kC (decide (8<l.length+1)) h3.1;have hnp:(aZ st').pos=st'.pos+1:=rfl;have hp3:=h3.2.2;have hp4:=h4.2.2;rw[et];simp only[go_sem,r0,r3];refine hone.run ?_;simp only[go_sem];refine(hy.put hB hH _).app (zs:=[dH x]) (by grind [QT]) (by grind [TX]) (fun k hk=>hk) (by grind [QT,GP]) (by rw[QT];exact GP [x]) (by grind [TX]) fun y' H2 hy' hk2=>?_
   exact afs
theorem Oa(st:PS)(hw:WfP st):PC 203 [] st (cO (rf st).1) (rf st).2:=.of fun G id=>by
 have h0:=iR [40] hw;have h1:=A1 h0.1;have hm1:=N9 _ h0.1;obtain⟨x0,st1,e1⟩:∃x0 st1,pn (dO st [40])=(x0,st1):=⟨_,_,rfl⟩;obtain⟨M,eM⟩:∃M,fG pn orT 8 st.ts.length st1 [x0]=M:=⟨_,rfl⟩;have epp:(M.1,dO M.2 [41])=rf st:=by grind [rf]
 rw[e1]at h1 hm1;simp only[iF]at h1 hm1;refine abg Tryz.func203 24 [.tmp 2] fun hwf=>?_
 simp only[go_sem];refine(j8 st [40] hw).run ?_;simp only[go_sem];refine hm1.run ?_;simp only[go_sem];have hB:upd G id none id=none:=ah ..;refine .intro (fun m ρ H=>∃(f:Nat) (st' :PS) (l:List _) (y:AV),H id=some (PO st')∧Acc U 274 (upd G id none) H y (l.map iF)∧Ah st1 st'∧fG pn orT 8 f st' l=M∧st1.ts.length≤f+st'.pos∧l.length≤st'.pos+1∧m=st1.ts.length - st'.pos∧lk ρ 0=some (.ptr id 0)∧lk ρ 3=some y) (st1.ts.length - st1.pos) ?_ ?_
 ·refine⟨st.ts.length,st1,[x0],.sl ([x0].map iF) .full,ah ..,.full (base_start G id _),.refl h1.1,eM,by rw[h1.2.1,h0.2.1];omega,abp,rfl,?_,?_⟩<;>simp only[go_sem]<;>rfl
 ·rintro m ρ H ⟨f,st',l,y,hH,hy,ha,hfin,hf,hll,rfl,r0,r3⟩
  have hlen:=ha.1.2.2;have hpos:=ha.1.1;have htl:=ha.2.1;simp only[go_sem,r0];refine(jH st' orT ha.1).go hH ?_;cases d1:isD st' orT
  ·have et:cm st' orT=(false,st'):=by grind [cm]
   have ef:fG pn orT 8 f st' l=(l,st'):=aeE;rw[et,bD hH];rw[ef]at hfin;simp only[go_sem,r0];refine(j8 st' [41] ha.1).go hH ?_;simp only[go_sem,r3];exact .mk (h' :=upd G id (some (PO (rf st).2))) (cO l) hy.weak (by rw[←epp,←hfin];exact fh (hy.1.put hB _) (ah ..)) ⟨abi,rfl⟩
  ·have et:cm st' orT=(true,aZ st'):=by grind [cm]
   obtain⟨g,rfl⟩:∃g,f=g+1:=⟨f - 1,abi⟩;simp only[fG,d1,if_true]at hfin;have h2:=eP ha.1 (dD d1);have hone:=N9 (aZ st') h2.1;have h3:=(fun _ h=>A1 h:∀st,WfP st→Ah st (pn st).2) _ h2.1
   obtain⟨x,st2,e2⟩:∃x st2,pn (aZ st')=(x,st2):=⟨_,_,rfl⟩;rw[e2]at hfin hone h3;simp only[iF]at hfin hone h3;have hdec:decide ((8:Int)<((l.length+1:Nat):Int))=decide (8<l.length+1):=by
    grind
   have h4:=kC (decide (8<l.length+1)) h3.1;have hnp:(aZ st').pos=st'.pos+1:=rfl;have hp3:=h3.2.2;have hp4:=h4.2.2;rw[et];simp only[go_sem,r0,r3];refine hone.run ?_;simp only[go_sem];refine(hy.put hB hH _).app (zs:=[iF x]) (by grind [QS]) (by grind [TV]) (fun k hk=>hk) (by grind [QS,GO]) (by rw[QS];exact GO [x]) (by grind [TV]) fun y' H2 hy' hk2=>?_
   exact afs
theorem ON(st:PS)(hw:WfP st):PC 162 [] st (aU (gD st).1) (gD st).2:=.of fun G id=>by
 refine abg Tryz.func162 23 [.tmp 2] fun hwf=>?_
 simp only[go_sem];refine(jH st D3 hw).run ?_;cases d0:isD st D3
 ·have et:cm st D3=(false,st):=by grind [cm]
  have ep:gD st=([],st):=by grind [gD]
  rw[et];simp only[go_sem];exact .mk (h' :=upd G id (some (PO (gD st).2))) (aU []) (.sl _ _) (by rw[ep];exact .refl _) ⟨by rw[ep],rfl⟩
 have et:cm st D3=(true,aZ st):=by grind [cm]
 have h0:=eP hw (dD d0);have h1:=A2 h0.1;have hm1:=Oa _ h0.1;obtain⟨x0,st1,e1⟩:∃x0 st1,rf (aZ st)=(x0,st1):=⟨_,_,rfl⟩;obtain⟨M,eM⟩:∃M,fG rf B3 8 st.ts.length st1 [x0]=M:=⟨_,rfl⟩;have ep:M=gD st:=by simp_all [gD,if_true]
 rw[e1]at h1 hm1;simp only[cO]at h1 hm1;rw[et];simp only[go_sem];refine hm1.run ?_;simp only[go_sem];have hB:upd G id none id=none:=ah ..;refine .intro (fun m ρ H=>∃(f:Nat) (st' :PS) (l:List _) (y:AV),H id=some (PO st')∧Acc U 270 (upd G id none) H y (l.map cO)∧Ah st1 st'∧fG rf B3 8 f st' l=M∧st1.ts.length≤f+st'.pos∧l.length≤st'.pos+1∧m=st1.ts.length - st'.pos∧lk ρ 0=some (.ptr id 0)∧lk ρ 3=some y) (st1.ts.length - st1.pos) ?_ ?_
 ·refine⟨st.ts.length,st1,[x0],.sl ([x0].map cO) .full,ah ..,.full (base_start G id _),.refl h1.1,eM,by rw[h1.2.1,h0.2.1];omega,abp,rfl,?_,?_⟩<;>simp only[go_sem]<;>rfl
 ·rintro m ρ H ⟨f,st',l,y,hH,hy,ha,hfin,hf,hll,rfl,r0,r3⟩
  have hlen:=ha.1.2.2;have hpos:=ha.1.1;have htl:=ha.2.1;simp only[go_sem,r0];refine(jH st' B3 ha.1).go hH ?_;cases d1:isD st' B3
  ·have et:cm st' B3=(false,st'):=by grind [cm]
   have ef:fG rf B3 8 f st' l=(l,st'):=aeE;rw[et,bD hH];rw[ef]at hfin;simp only[go_sem,r3];exact .mk (h' :=upd G id (some (PO (gD st).2))) (aU l) hy.weak (by rw[←ep,←hfin];exact fh hy.1 hH) ⟨abi,rfl⟩
  ·have et:cm st' B3=(true,aZ st'):=by grind [cm]
   obtain⟨g,rfl⟩:∃g,f=g+1:=⟨f - 1,abi⟩;simp only[fG,d1,if_true]at hfin;have h2:=eP ha.1 (dD d1);have hone:=Oa (aZ st') h2.1;have h3:=(fun _ h=>A2 h:∀st,WfP st→Ah st (rf st).2) _ h2.1
   obtain⟨x,st2,e2⟩:∃x st2,rf (aZ st')=(x,st2):=⟨_,_,rfl⟩;rw[e2]at hfin hone h3;simp only[cO]at hfin hone h3;have hdec:decide ((8:Int)<((l.length+1:Nat):Int))=decide (8<l.length+1):=by
    grind
   have h4:=kC (decide (8<l.length+1)) h3.1;have hnp:(aZ st').pos=st'.pos+1:=rfl;have hp3:=h3.2.2;have hp4:=h4.2.2;rw[et];simp only[go_sem,r0,r3];refine hone.run ?_;simp only[go_sem];refine(hy.put hB hH _).app (zs:=[cO x]) (by grind [QU]) (by grind [TZ]) (fun k hk=>hk) (by grind [QU,GR]) (by rw[QU];exact GR [x]) (by grind [TZ]) fun y' H2 hy' hk2=>?_
   exact afs
theorem Df(op:Int)(h:Heap):ai Tryz.prog 314 [.i op] h fun r h' =>r= .sl ((opers op).map jt) .no∧h' =h:=by
 refine abg Tryz.func314 15 [.tmp 2] fun hwf=>?_
 cases k3:(op==3)<;>cases k4:(op==4)<;>cases k5:(op==5)<;>cases k11:(op==11)
 all_goals
  simp only[go_sem,k3,k4,k5,k11];simp only[beq_iff_eq,beq_eq_false_iff_ne]at k3 k4 k5 k11;refine .mk _ (.sl _ _) (.refl _) ⟨?_,rfl⟩
  grind [opers,jt]
theorem T0:(U 158).sz=3:=abx
theorem Wd:(U 158).bytes=32:=abx
theorem GQ(l:List cC):Sized 3 (l.map bn):=fun z hz=>by
 obtain⟨c,_,rfl⟩:=List.mem_map.1 hz;rfl
theorem sC(st:PS)(hw:WfP st):PC 166 [] st (aA (fV st).1) (fV st).2:=.of fun G id=>by
 obtain⟨M,eM⟩:∃M,fV st=M:=⟨_,rfl⟩;have eM2:fG zo vF 8 st.ts.length st []=M:=eM;refine abg Tryz.func166 28 [.tmp 2] fun hwf=>?_
 simp only[go_sem];have hB:upd G id none id=none:=ah ..;refine .intro (fun m ρ H=>∃(f:Nat) (st' :PS) (l:List cC) (y:AV),H id=some (PO st')∧Acc U 158 (upd G id none) H y (l.map bn)∧Ah st st'∧fG zo vF 8 f st' l=M∧st.ts.length≤f+st'.pos∧l.length≤st'.pos+1∧m=st.ts.length - st'.pos∧lk ρ 0=some (.ptr id 0)∧lk ρ 3=some y) (st.ts.length - st.pos) ?_ ?_
 ·refine⟨st.ts.length,st,[],.sl ([].map bn) .full,ah ..,.full (base_start G id _),.refl hw,eM2,abh,abp,rfl,?_,?_⟩<;>simp only[go_sem]<;>rfl
 ·rintro m ρ H ⟨f,st',l,y,hH,hy,ha,hfin,hf,hll,rfl,r0,r3⟩
  have hlen:=ha.1.2.2;have hpos:=ha.1.1;have htl:=ha.2.1;simp only[go_sem,r0];refine(jH st' vF ha.1).go hH ?_;cases d1:isD st' vF
  ·have et:cm st' vF=(false,st'):=by grind [cm]
   have ef:fG zo vF 8 f st' l=(l,st'):=aeE;rw[et,bD hH];rw[ef]at hfin;simp only[go_sem,r3];exact .mk (h' :=upd G id (some (PO (fV st).2))) (aA l) hy.weak (by rw[eM,←hfin];exact fh hy.1 hH) ⟨abi,rfl⟩
  ·have et:cm st' vF=(true,aZ st'):=by grind [cm]
   obtain⟨g,rfl⟩:∃g,f=g+1:=⟨f - 1,abi⟩;simp only[fG,d1,if_true]at hfin;have h2:=eP ha.1 (dD d1);have ho1:=gp uB h2.1;have ho2:=gp lU ho1.1;have ho3:=mB ho2.1;have h3:Ah (aZ st') (zo (aZ st')).2:=Jz h2.1;have hdec:decide ((8:Int)<((l.length+1:Nat):Int))=decide (8<l.length+1):=by
    grind
   have h4:=kC (decide (8<l.length+1)) h3.1;have hnp:(aZ st').pos=st'.pos+1:=rfl;have hp3:=h3.2.2;have hp4:=h4.2.2;have eX:(zo (aZ st'))=(⟨(aV (aZ st') uB).1,(aV (aV (aZ st') uB).2 lU).1,(ck (aV (aV (aZ st') uB).2 lU).2).1⟩,(ck (aV (aV (aZ st') uB).2 lU).2).2):=rfl;obtain⟨x,st2,e2⟩:∃x st2,zo (aZ st')=(x,st2):=⟨_,_,rfl⟩;rw[et];simp only[go_sem];intro i4 hi4;have n4:=aH hi4;have hH4:H i4=none:=abQ;have c4:∀(f:Heap) (x y:Option Blk),upd (upd f id x) i4 y=upd (upd f i4 y) id x:=fun f x y=>ct f x y n4.symm
   simp only[go_sem,r0,c4];refine(nD _ uB .full abk h2.1).run ?_;simp only[go_sem,r0,c4,aj,n4];refine(nD _ lU .full abk ho1.1).run ?_;simp only[go_sem,r0,c4,aj,n4];refine(tC _ ho2.1).run ?_;simp only[go_sem,r3,c4,aj,n4];rw[e2]at hfin h3 h4 hp3 hp4;simp only at hfin h3 h4 hp3 hp4;have ex1:x=(zo (aZ st')).1:=by rw[e2]
   have ex2:st2=(ck (aV (aV (aZ st') uB).2 lU).2).2:=by
    grind
   rw[←ex2];refine((hy.sub (Sub.ak (k:=_) hH4)).put hB (by rw[ag _ _ n4.symm];exact hH) _).app (zs:=[bn x]) abk abk (fun k hk=>by rw[ex1]at hk;exact hk) (by grind [T0,GQ]) (by rw[T0];exact GQ [x]) (by grind [Wd]) fun y' H2 hy' hk2=>?_
   exact afs
theorem sn{U:TypeId→TI}{e:TypeId}{B B' H:Heap}{y:AV}{xs:List AV}(hs:Sub B B')(ha:Acc U e B' H y xs):Acc U e B H y xs:=by
 obtain⟨h1,rfl|⟨k,i1,rfl,i2⟩⟩:=ha
 ·exact⟨hs.trans h1,.inl rfl⟩
 ·refine⟨hs.trans h1,.inr ⟨k,?_,rfl,i2⟩⟩
  cases hk:B k with
  |none=>rfl
  |some b=>rw[hs _ _ hk]at i1;omega
theorem wR{U:TypeId→TI}{e:TypeId}{B H:Heap}{y:AV}{xs:List AV}(ha:Acc U e B H y xs){i:Nat}(hi:H i=none)(b:Option Blk):Acc U e (upd B i b) (upd H i b) y xs:=by
 obtain⟨h1,rfl|⟨k,i1,rfl,i2⟩⟩:=ha
 ·exact⟨h1.both _ _,.inl rfl⟩
 ·have hne:k≠i:=fun hh=>by subst hh;rw[hi]at i2;cases i2
  exact⟨h1.both _ _,.inr ⟨k,abQ,rfl,abQ⟩⟩
theorem ny{U:TypeId→TI}{e:TypeId}{G K:Heap}{id:Nat}{st:PS}{y:AV}{xs:List AV}(ha:Acc U e (upd G id none) (upd K id (some (PO st))) y xs)(st' :PS):Acc U e (upd G id none) (upd K id (some (PO st'))) y xs:=by
 have:=ha.put (id:=id) (ah ..) (cs:=_) (t:=_) (ah ..) (some (PO st'));rw[mU]at this;exact abZ
def XC(f:FuncId)(args:List AV)(st:PS)(l:List aO)(mk:AV→AV)(st' :PS)(l' :List aO):Prop:=
 ∀(G K:Heap) (id:Nat) (y:AV),Acc U 229 (upd G id none) (upd K id (some (PO st))) y (l.map dF)→ai Tryz.prog f (.ptr id 0::y::args) (upd K id (some (PO st))) fun r h' =>∃y',r=mk y'∧h' id=some (PO st')∧Acc U 229 (upd G id none) h' y' (l'.map dF)
theorem XC.run{f:FuncId}{args:List AV}{st st' :PS}{l l' :List aO}{mk:AV→AV}(hc:XC f args st l mk st' l'){G K:Heap}{id:Nat}{y:AV}{Q:AV→Heap→Prop}(ha:Acc U 229 (upd G id none) (upd K id (some (PO st))) y (l.map dF))
  (k:∀y' K',Acc U 229 (upd G id none) (upd K' id (some (PO st'))) y' (l'.map dF)→Q (mk y') (upd K' id (some (PO st')))):ai Tryz.prog f (.ptr id 0::y::args) (upd K id (some (PO st))) Q:=
 (hc G K id y ha).mono fun r h' ⟨y',e1,e2,e3⟩=>by
  subst e1;have:=k y' h' (by grind [bD])
  rwa [bD e2]at this
def EH(ex:ExF)(f:Nat):Prop:=∀st l,WfP st→st.ts.length≤f+st.pos→l.length≤2*st.pos+1→XC 270 [] st l (fun y=> .tup [y,.v (.bool (ex st l).1.2)]) (ex st l).2 (ex st l).1.1
theorem Hi(st:PS)(ws:List Txt):0≤(aV st ws).1∧(aV st ws).1≤ws.length:=by
 unfold aV;cases ei:uo (aJ st).s ws with
 |none=>simp
 |some i=>
  have:=Bs ei;simp only;split<;>simp<;>omega
theorem Ao{ex:ExF}(ho:D7 ex){f:Nat}(he:EH ex f)(st:PS)(l:List aO)(b:Bool)(hw:WfP st)(hf:st.ts.length≤f+st.pos)(hl:l.length≤2*st.pos+1):XC 239 [.b b] st l (fun y=>y) (gU ex st l b).2 (gU ex st l b).1:=fun G K id y ha=>by
 refine abg Tryz.func239 25 [.tmp 6] fun hwf=>?_
 simp only[go_sem];refine(lE st hw).run ?_;simp only[go_sem,fA];refine(he st l hw hf hl).run ha fun y' K' ha' =>?_
 cases db:((ex st l).1.2==b)
 ·have e1:(ex st l).1.2≠b:=by grind
  have en:gU ex st l b=((ex st l).1.1,bG (ex st l).2 5 (aJ st).pos):=by grind [gU]
  simp only[go_sem,db,Bool.not_false];refine(qL _ 5 _).run ?_;simp only[go_sem];exact .mk (h' :=upd K' id (some (PO (bG (ex st l).2 5 (aJ st).pos)))) y' (.refl _) (.refl _) ⟨y',rfl,afi,by grind [ny]⟩
 ·have e1:(ex st l).1.2=b:=by grind
  have en:gU ex st l b=((ex st l).1.1,(ex st l).2):=by grind [gU]
  simp only[go_sem,db,Bool.not_true];exact .mk (h' :=upd K' id (some (PO (ex st l).2))) y' (.refl _) (.refl _) ⟨y',rfl,afi,abi⟩
theorem EK{ex:ExF}(ho:D7 ex){f:Nat}(he:EH ex f)(st:PS)(l:List aO)(hw:WfP st)(hf:st.ts.length≤f+st.pos)(hl:l.length+1≤2*st.pos):XC 296 [] st l (fun y=> .tup [y,dF (qb ex st l).1.2]) (qb ex st l).2 (qb ex st l).1.1:=fun G K id y ha=>by
 have h1:=gp kY hw;have hrg:=Hi st kY;have hfl:kY.length=11:=rfl;have w2:IntKind.i64.wrap (2+(aV st kY).1)=2+(aV st kY).1:=abv;refine abg Tryz.func296 36 [.tmp 4,.cell 5 229] fun hwf=>?_
 simp only[go_sem];intro i5 hi5;have n5:=aH hi5;have hK5:K i5=none:=abQ;have c5:∀(f:Heap) (x y:Option Blk),upd (upd f id x) i5 y=upd (upd f i5 y) id x:=fun f x y=>ct f x y n5.symm
 simp only[go_sem,c5];refine(nD _ kY .full abk hw).run ?_;simp only[go_sem,w2];intro i6 hi6;have n6:=aH hi6;have c6:∀(f:Heap) (x y:Option Blk),upd (upd f id x) i6 y=upd (upd f i6 y) id x:=fun f x y=>ct f x y n6.symm
 have hi6' :=hi6;rw[ag _ _ n6]at hi6';have n65:=aH hi6';have hK6:K i6=none:=abQ;simp only[go_sem,c6,aj,n6];refine(Df _ _).pthen ?_;simp only[go_sem];have h5f:=ha;obtain⟨bs,ebs⟩:∃bs,opers (2+(aV st kY).1)=bs:=⟨_,rfl⟩;obtain⟨M,eM⟩:∃M,iW ex bs (aV st kY).2 l=M:=⟨_,rfl⟩;have hb2:bs.length≤2:=by grind [Dg]
 have hMr:qb ex st l=((M.1,⟨2+(aV st kY).1,⟨0,0,[]⟩,⟨0,[],false⟩⟩),dO M.2 [41]):=by grind [qb]
 obtain⟨st1,es1⟩:∃st1,(aV st kY).2=st1:=⟨_,rfl⟩;have hac0:=wR (wR (ny ha st1) (by rw[ag _ _ n5];omega) (some (.obj [.i 0,.i 0,.i 0,.s [],.i 0,.s [],.b false] 229))) (by rw[ag _ _ n65,ag _ _ n6];omega) (some (.obj [.i (2+(aV st kY).1),.i 0,.i 0,.s [],.i 0,.s [],.b false] 229))
 simp only[c5,c6]at hac0;obtain⟨G',eG⟩:∃G',G' =upd (upd G i5 (some (.obj [.i 0,.i 0,.i 0,.s [],.i 0,.s [],.b false] 229))) i6 (some (.obj [.i (2+(aV st kY).1),.i 0,.i 0,.s [],.i 0,.s [],.b false] 229)):=⟨_,rfl⟩;have g5:upd G' id none i5=some (.obj [.i 0,.i 0,.i 0,.s [],.i 0,.s [],.b false] 229):=by simp_all [ag,Ne.symm,ah]
 have g6:upd G' id none i6=some (.obj [.i (2+(aV st kY).1),.i 0,.i 0,.s [],.i 0,.s [],.b false] 229):=by simp_all [ag,ah]
 rw[←eG]at hac0;have gi5:upd G id none i5=none:=by
  cases hk:upd G id none i5 with
  |none=>rfl
  |some b=>rw[ha.1 _ _ hk]at hi5;omega
 have hsG:Sub (upd G id none) (upd G' id none):=fun k b hk=>by
  have hs1:=ha.1 k b hk;have hk5:k≠i5:=fun e=>abi
  have hk6:k≠i6:=fun e=>by
   grind [ag]
  by_cases hkid:k=id
  ·subst hkid;rw[ah]at hk;cases hk
  ·rw[ag _ _ hkid]at hk⊢
   rw[eG,ag _ _ hk6,ag _ _ hk5];exact hk
 simp only[es1,ebs]at h1 eM⊢;refine .intro (fun m ρ H=>∃(i:Nat) (st' :PS) (l' :List aO) (y' :AV) (K' :Heap),H=upd K' id (some (PO st'))∧Acc U 229 (upd G' id none) (upd K' id (some (PO st'))) y' (l'.map dF)∧Ah st1 st'∧i≤bs.length∧iW ex (bs.drop i) st' l' =M∧l'.length+1≤2*st'.pos+i∧m=bs.length - i∧lk ρ 0=some (.ptr id 0)∧lk ρ 1=some y'∧lk ρ 5=some (.ptr i5 0)∧lk ρ 6=some (.ptr i6 0)∧lk ρ 16=some (.sl (bs.map jt) .no)∧lk ρ 17=some (.i bs.length)∧lk ρ 18=some (.i i)) bs.length ?_ ?_
 ·refine⟨0,st1,l,y,_,rfl,hac0,.refl h1.1,abh,abi,by have:=h1.2.2;omega,rfl,?_,?_,?_,?_,?_,?_,?_⟩<;>simp only[go_sem]<;>(try rfl)<;>simp
 ·rintro m ρ H ⟨i,st',l',y',K',rfl,hac,hah,hi,hfin,hll,rfl,r0,r1,r5,r6,r16,r17,r18⟩
  simp only[go_sem,r17,r18];have k6:upd K' id (some (PO st')) i6=some (.obj [.i (2+(aV st kY).1),.i 0,.i 0,.s [],.i 0,.s [],.b false] 229):=hac.1 _ _ g6;have k5:upd K' id (some (PO st')) i5=some (.obj [.i 0,.i 0,.i 0,.s [],.i 0,.s [],.b false] 229):=hac.1 _ _ g5;rw[ag _ _ n6]at k6;rw[ag _ _ n5]at k5;refine .intro (fun e=>?_) (fun e=>?_)
  ·have hlt:i<bs.length:=abe e
   simp only[go_sem,r16,r18];refine .at i abi aby ?_;cases db:(st'.bad !=0)
   ·have e1:st'.bad=0:=by grind
    rw[List.drop_eq_getElem_cons hlt]at hfin;simp only[iW,e1,if_true]at hfin;simp only[go_sem,r0,r1,aa8,jt,PO,db];have hpl:=hah.2.2;refine(Ao ho he st' l' bs[i] hah.1 (by rw[hah.2.1,h1.2.1];have:=h1.2.2;omega) abh).run hac fun y2 K2 hac2=>?_
    obtain⟨q1,q2⟩:=yg ho st' l' bs[i] hah.1;have w1:IntKind.i64.wrap ((i:Int)+1)=((i+1:Nat):Int):=abv;simp only[go_sem,r18,w1];refine⟨_,?_,i+1,(gU ex st' l' bs[i]).2,(gU ex st' l' bs[i]).1,y2,K2,rfl,hac2,hah.trans q1,hlt,hfin,abh,rfl,?_⟩
    ·omega
    refine⟨?_,?_,?_,?_,?_,?_,?_⟩
    all_goals simp only[go_sem,r0,r5,r6,r16,r17]
   ·have e1:st'.bad≠0:=by grind
    have hfin2:(l',st')=M:=by
     grind [List.drop_eq_getElem_cons,iW]
    clear hfin;have hfin:=hfin2;simp only[go_sem,r0,aa8,jt,PO,db];refine(j8 _ [41] hah.1).run ?_;simp only[go_sem,r1,r5,r6,aj,n5,n6,k5,k6];refine⟨.of abl,?_⟩;exact .mk (.tup [y',dF ⟨2+(aV st kY).1,⟨0,0,[]⟩,⟨0,[],false⟩⟩]) (.refl _) (.refl _) ⟨y',abx,by rw[hMr,←hfin];exact(ag _ _ (Ne.symm n5)).trans (ah ..),acL⟩
  ·have hge:i=bs.length:=by grind
   subst hge;rw[List.drop_length]at hfin;simp only[iW]at hfin;simp only[go_sem,r0];refine(j8 _ [41] hah.1).run ?_;simp only[go_sem,r1,r5,r6,aj,n5,n6,k5,k6];refine⟨.of abl,?_⟩;exact .mk (.tup [y',dF ⟨2+(aV st kY).1,⟨0,0,[]⟩,⟨0,[],false⟩⟩]) (.refl _) (.refl _) ⟨y',abx,by rw[hMr,←hfin];simp_all [ag,Ne.symm,trans,ah],acL⟩
theorem si:(U 229).sz=7:=abx
theorem zB:(U 229).bytes=72:=abx
theorem ko(l:List aO):Sized 7 (l.map dF):=fun z hz=>by
 obtain⟨c,_,rfl⟩:=List.mem_map.1 hz;rfl
theorem PU(f:Nat)(ih:EH (dX f) f):EH (dX (f+1)) (f+1):=fun st l hw hf hl G K id y ha=>by
 refine abg Tryz.func270 52 [.tmp 4,.tmp 5] fun hwf=>?_
 simp only[go_sem];intro i6 hi6;have n6:=aH hi6;have hK6:K i6=none:=by rw[ag _ _ n6]at hi6;exact hi6
 have c6:∀(f:Heap) (x y:Option Blk),upd (upd f id x) i6 y=upd (upd f i6 y) id x:=fun f x y=>ct f x y n6.symm
 have gi6:upd G id none i6=none:=by
  cases hk:upd G id none i6 with
  |none=>rfl
  |some b=>rw[ha.1 _ _ hk]at hi6;cases hi6
 have hac:=wR ha hi6 (some (.obj [.i 0,.i 0,.i 0,.s [],.i 0,.s [],.b false] 229));simp only[go_sem,c6];refine(lE st hw).run ?_;simp only[go_sem,fA];intro i7 hi7;have n7:=aH hi7;have hi7' :=hi7;rw[ag _ _ n7]at hi7';have n76:=aH hi7';have m76:¬i7=i6:=n76;have m67:¬i6=i7:=fun e=>n76 e.symm
 have hK7:K i7=none:=by rw[ag _ _ n76]at hi7';exact hi7'
 have c7:∀(f:Heap) (x y:Option Blk),upd (upd f id x) i7 y=upd (upd f i7 y) id x:=fun f x y=>ct f x y n7.symm
 have e6:upd (upd G id none) i6 (some (.obj [.i 0,.i 0,.i 0,.s [],.i 0,.s [],.b false] 229))=upd (upd G i6 (some (.obj [.i 0,.i 0,.i 0,.s [],.i 0,.s [],.b false] 229))) id none:=c6 G none _;have hac7:∀k,Acc U 229 (upd (upd G i6 (some (.obj [.i 0,.i 0,.i 0,.s [],.i 0,.s [],.b false] 229))) id none) (upd (upd (upd K i6 (some (.obj [.i 0,.i 0,.i 0,.s [],.i 0,.s [],.b false] 229))) i7 k) id (some (PO st))) y (l.map dF):=fun k=>by
  have:=hac.sub (Sub.ak (k:=k) (by rw[c6];exact hi7))
  rw[e6,c6 K,c7]at this;exact abZ
 have hsG:Sub (upd G id none) (upd (upd G i6 (some (.obj [.i 0,.i 0,.i 0,.s [],.i 0,.s [],.b false] 229))) id none):=by
  rw[←e6];exact Sub.ak gi6
 have g6:upd (upd G i6 (some (.obj [.i 0,.i 0,.i 0,.s [],.i 0,.s [],.b false] 229))) id none i6=some (.obj [.i 0,.i 0,.i 0,.s [],.i 0,.s [],.b false] 229):=by rw[←e6,ah]
 simp only[go_sem,c7,aj,n7];refine(jH st [40] hw).run ?_;have hacX:∀tk NB st',Acc U 229 (upd G id none) (upd (upd (upd (upd K i6 (some (.obj [.i 0,.i 0,.i 0,.s [],.i 0,.s [],.b false] 229))) i7 tk) i6 NB) id (some (PO st'))) y (l.map dF):=fun tk NB st' =>by
  have:=(ny (sn hsG (hac7 tk)) st').put gi6 ((ag _ _ n6).trans ((ag _ _ m67).trans (ah ..))) NB;rw[c6]at this;exact abZ
 obtain⟨⟨⟨lh,n⟩,sth⟩,eh⟩:∃x,iN (dX f) st l=x:=⟨_,rfl⟩;obtain⟨hha,hhl⟩:=CM (pX f) st l hw;rw[eh]at hha hhl;simp only at hha hhl;have hwp:=hha.1.2.2;have hwq:=hha.1.1;have hpl:=hha.2.2;have hdec:decide ((32:Int)<((lh.length+1:Nat):Int))=decide (32<lh.length+1):=by
  by_cases h:32<lh.length+1
  ·simp only[h,decide_true];exact decide_eq_true abh
  ·simp only[h,decide_false];exact decide_eq_false abh
 cases d0:isD st [40]
 ·have et:cm st [40]=(false,st):=by simp[cm,d0]
  rw[et];cases d1:((aJ st).kind==1)
  ·have en:iN (dX f) st l=((l,⟨1,(aD st).1,⟨0,[],false⟩⟩),(aD st).2):=by
    have:(aJ st).kind≠1:=aeg;simp[iN,d0,this]
   simp only[go_sem,aj,n7,d1];exact afr
  ·have k1:(aJ st).kind=1:=by simpa using d1
   cases d2:((aJ st).s== [116,114,117,101])
   ·have k2:(aJ st).s≠vQ:=by unfold vQ;simpa using d2
    cases d3:((aJ st).s== [102,97,108,115,101])
    ·have k3:(aJ st).s≠pY:=by unfold pY;simpa using d3
     have en:iN (dX f) st l=((l,⟨2,⟨0,0,[]⟩,(fN st).1⟩),(fN st).2):=by simp[iN,d0,k1,k2,k3]
     simp only[go_sem,aj,n7,d1,d2,d3,Bool.not_false];refine(JG st hw).run ?_;rw[en]at eh;injection eh with eh1 eh2
     injection eh1 with eh3 eh4
     subst eh2;subst eh3;subst eh4;simp only[go_sem,c6,aj,n6,m67,B7];refine(hacX _ _ _).app (zs:=[dF (⟨2,⟨0,0,[]⟩,(fN st).1⟩:aO)]) ae3 ae4 (fun k hk=>hk) aen (by rw[si];exact ko [(⟨2,⟨0,0,[]⟩,(fN st).1⟩:aO)]) ad8 fun y3 H3 hy3 hk3=>?_
     have hH3:H3 id=some (PO (fN st).2):=hk3 _ _ _ (ah ..);have hb3:H3 i6=some (.obj [.v (.int .i64 (⟨2,⟨0,0,[]⟩,(fN st).1⟩:aO).op),.v (.int .i64 (⟨2,⟨0,0,[]⟩,(fN st).1⟩:aO).val.kind),.v (.int .i64 (⟨2,⟨0,0,[]⟩,(fN st).1⟩:aO).val.n),.s (⟨2,⟨0,0,[]⟩,(fN st).1⟩:aO).val.s,.v (.int .i64 (⟨2,⟨0,0,[]⟩,(fN st).1⟩:aO).attr.cat),.s (⟨2,⟨0,0,[]⟩,(fN st).1⟩:aO).attr.name,.v (.bool (⟨2,⟨0,0,[]⟩,(fN st).1⟩:aO).attr.must)] 229):=hk3 _ _ _ ((ag _ _ n6).trans (ah ..));simp only[go_sem,hy3.len,abb,aa7,List.length_cons,List.length_nil,Nat.zero_add,hdec];refine(cH (fN st).2 _ hha.1).go hH3 ?_;simp only[go_sem,aj,n6,hb3];refine⟨.of abl,?_⟩;have efin:dX (f+1) st l=((l++ [(⟨2,⟨0,0,[]⟩,(fN st).1⟩:aO)],(⟨2,⟨0,0,[]⟩,(fN st).1⟩:aO).op==2),bC (fN st).2 (decide (32<l.length+1))):=ae9;exact .mk (.tup [y3,.b ((⟨2,⟨0,0,[]⟩,(fN st).1⟩:aO).op==2)]) (.refl _) (.refl _) ⟨y3,by rw[efin],adJ,ab1⟩
    ·have k3:(aJ st).s=pY:=by unfold pY;simpa using d3
     have en:iN (dX f) st l=((l,⟨1,(aD st).1,⟨0,[],false⟩⟩),(aD st).2):=by simp[iN,d0,k1,k3]
     simp only[go_sem,aj,n7,d1,d2,d3,Bool.not_false,Bool.not_true];exact afr
   ·have k2:(aJ st).s=vQ:=by unfold vQ;simpa using d2
    have en:iN (dX f) st l=((l,⟨1,(aD st).1,⟨0,[],false⟩⟩),(aD st).2):=by simp[iN,d0,k1,k2]
    simp only[go_sem,aj,n7,d1,d2,Bool.not_true];exact afr
 ·have et:cm st [40]=(true,aZ st):=by simp[cm,d0]
  have h1:=eP hw (dD d0);have hnp:(aZ st).pos=st.pos+1:=rfl;have hnt:(aZ st).ts=st.ts:=rfl;rw[et];simp only[go_sem];have ef:qb (dX f) (aZ st) l=((lh,n),sth):=by rw[←eh];simp[iN,d0]
  have hfx:=EK (pX f) ih (aZ st) l h1.1 (by rw[hnt];omega) abh
  simp only[ef]at hfx;refine hfx.run (ny (hac7 _) _) fun y2 K2 hac2=>?_
  have k6:=hac2.1 _ _ g6;rw[ag _ _ n6]at k6;simp only[go_sem,c6,aj,n6,k6,dF];have hac3:=(sn hsG hac2).put gi6 ((ag _ _ n6).trans k6) (some (.obj [.i n.op,.i n.val.kind,.i n.val.n,.s n.val.s,.i n.attr.cat,.s n.attr.name,.b n.attr.must] 229));rw[c6]at hac3;refine(hac3).app (zs:=[dF n]) ae3 ae4 (fun k hk=>hk) aen (by rw[si];exact ko [n]) ad8 fun y3 H3 hy3 hk3=>?_
  have hH3:H3 id=some (PO sth):=hk3 _ _ _ (ah ..);have hb3:H3 i6=some (.obj [.i n.op,.i n.val.kind,.i n.val.n,.s n.val.s,.i n.attr.cat,.s n.attr.name,.b n.attr.must] 229):=hk3 _ _ _ ((ag _ _ n6).trans (ah ..));simp only[go_sem,hy3.len,abb,aa7,List.length_cons,List.length_nil,Nat.zero_add,hdec];refine(cH sth _ hha.1).go hH3 ?_;simp only[go_sem,aj,n6,hb3];refine⟨.of abl,?_⟩;have efin:dX (f+1) st l=((lh++ [n],n.op==2),bC sth (decide (32<lh.length+1))):=by simp only[dX,eh]
  exact .mk (.tup [y3,.b (n.op==2)]) (.refl _) (.refl _) ⟨y3,by rw[efin],adJ,ab1⟩
theorem Ka:∀f,EH (dX f) f
 |0=>fun st l hw hf _=>absurd hw.1 abh
 |f+1=>PU f (Ka f)
theorem EE{P:Program}{f:FuncId}{args:List AV}{h:Heap}{Q Q' :AV→Heap→Prop}(hf:ai P f args h Q)(hq:∀x h1,Q x h1→∃y h2,Weak x y∧Sub h2 h1∧Q' y h2):ai P f args h Q' :=
 fun c vs h1 h2 h3 h4=>(hf c vs h1 h2 h3 h4).mono fun u w' ⟨c',x,h',g1,g2,g3,g4,g5,g6⟩=>by
  obtain⟨y,h'',k1,k2,k3⟩:=hq x h' g6;exact⟨c',y,h'',g1,g2,g3,g4.weak k1,k2.trans g5,k3⟩
def flat:AV→AV
 |.sl xs _=> .sl xs .no
 |x=>x
theorem fT(xs:List AV):Weak (.agg xs) (.agg (xs.map flat)):=.agg _ _ abp fun i h1 h2=>by
 rw[aa8];cases xs[i]<;>first|exact .refl _|exact .sl _ _
theorem IB(st:PS)(hw:WfP st):PC 239 [.sl [] .full,.b false] st (fj (gU (dX st.ts.length) st [] false).1) (gU (dX st.ts.length) st [] false).2:=.of fun G id=>by
 have hx:=Ao (pX st.ts.length) (Ka st.ts.length) st [] false hw abh abp;refine EE (hx G G id (.sl [] .full) (.full (base_start G id _))) fun r h1 ⟨y',e1,e2,e3⟩=>⟨_,upd G id (some (PO (gU (dX st.ts.length) st [] false).2)),?_,fh e3.1 e2,rfl,rfl⟩
 subst e1;exact e3.weak
theorem Lq(deny:Bool)(st:PS)(hw:WfP st):PC 206 [.b deny] st (aC (o9 deny st).1) (o9 deny st).2:=.of fun G id=>by
 have h1:=mB hw;have h2:=A7 h1.1;have h3:=FQ h2.1;have h4:=A5 h3.1;have ht:=ON _ h1.1;simp only[aU]at ht;refine abg Tryz.func206 23 [.cell 4 224] fun hwf=>?_
 simp only[go_sem];intro i4 hi4;have n4:=aH hi4;have hG4:G i4=none:=abQ;have c4:∀(f:Heap) (x y:Option Blk),upd (upd f id x) i4 y=upd (upd f i4 y) id x:=fun f x y=>ct f x y n4.symm
 simp only[go_sem,c4];refine(tC st hw).run ?_;simp only[go_sem];refine ht.run ?_;simp only[go_sem];intro i5 hi5;have n5:=aH hi5;have hi5' :=hi5;rw[ag _ _ n5]at hi5';have n54:=aH hi5';have m54:¬i5=i4:=n54;have m45:¬i4=i5:=n54.symm;have hG5:G i5=none:=abQ;have c5:∀(f:Heap) (x y:Option Blk),upd (upd f id x) i5 y=upd (upd f i5 y) id x:=fun f x y=>ct f x y n5.symm
 have c45:∀(f:Heap) (x y:Option Blk),upd (upd f i5 x) i4 y=upd (upd f i4 y) i5 x:=fun f x y=>ct f x y n54
 simp only[go_sem,c5,aj,n5];refine(jH _ ifT h2.1).run ?_;cases d0:isD (gD (ck st).2).2 ifT
 ·have et:cm (gD (ck st).2).2 ifT=(false,(gD (ck st).2).2):=by grind [cm]
  have ec:pU (gD (ck st).2).2=([],(gD (ck st).2).2):=by grind [pU]
  have er:o9 deny st=(⟨(ck st).1,deny,(gD (ck st).2).1,[],(fV (gD (ck st).2).2).1⟩,dO (fV (gD (ck st).2).2).2 [59]):=by grind [o9]
  rw[ec]at h4;have ho:=sC _ h2.1;simp only[aA]at ho;rw[et];simp only[go_sem];refine ho.run ?_;simp only[go_sem,c5,aj,n5];refine(j8 _ [59] h4.1).run ?_;simp only[go_sem,c4,c45,aj,n4,n5,m45];exact .mk (h' :=upd G id (some (PO (dO (fV (gD (ck st).2).2).2 [59])))) (aC ⟨(ck st).1,deny,(gD (ck st).2).1,[],(fV (gD (ck st).2).2).1⟩) (fT _) (Sub.both abJ _ _) ⟨by rw[er],by rw[er]⟩
 ·have et:cm (gD (ck st).2).2 ifT=(true,aZ (gD (ck st).2).2):=by grind [cm]
  obtain⟨⟨cn,stc⟩,ec⟩:∃x,pU (gD (ck st).2).2=x:=⟨_,rfl⟩;have er:o9 deny st=(⟨(ck st).1,deny,(gD (ck st).2).1,cn,(fV stc).1⟩,dO (fV stc).2 [59]):=by grind [o9]
  have hcnd:=IB (aZ (gD (ck st).2).2) (eP h2.1 (dD d0)).1;have ec2:gU (dX (aZ (gD (ck st).2).2).ts.length) (aZ (gD (ck st).2).2) [] false=(cn,stc):=by rw[←ec];simp only[pU,d0,if_true];rfl
  rw[ec2]at hcnd;simp only[fj]at hcnd;rw[ec]at h3 h4;have ho:=sC _ h3.1;simp only[aA]at ho;rw[et];simp only[go_sem];refine hcnd.run ?_;simp only[go_sem,c5,aj,n5];refine ho.run ?_;simp only[go_sem,c5,aj,n5];refine(j8 _ [59] h4.1).run ?_;simp only[go_sem,c4,c45,aj,n4,n5,m45];exact .mk (h' :=upd G id (some (PO (dO (fV stc).2 [59])))) (aC ⟨(ck st).1,deny,(gD (ck st).2).1,cn,(fV stc).1⟩) (fT _) (Sub.both abJ _ _) ⟨by rw[er],by rw[er]⟩
theorem NS:(U 224).sz=5:=abx
theorem TY:(U 224).bytes=96:=abx
theorem wK(l:List cM):Sized 5 (l.map aC):=fun z hz=>by
 obtain⟨c,_,rfl⟩:=List.mem_map.1 hz;rfl
theorem QA(st:PS)(hw:WfP st)(hr:st.rules≤64):PC 165 [] st (.sl ((jE 17 st []).1.map aC) .no) (jE 17 st []).2:=.of fun G id=>by
 obtain⟨M,eM⟩:∃M,jE 17 st []=M:=⟨_,rfl⟩;rw[eM];refine abg Tryz.func165 51 [.tmp 2] fun hwf=>?_
 simp only[go_sem];have hB:upd G id none id=none:=ah ..;refine .intro (fun m ρ H=>∃(f:Nat) (st' :PS) (l:List cM) (y:AV),H id=some (PO st')∧Acc U 224 (upd G id none) H y (l.map aC)∧Ah st st'∧st'.rules≤64∧jE f st' l=M∧f+l.length=17∧l.length≤16∧m=f∧lk ρ 0=some (.ptr id 0)∧lk ρ 3=some y) 17 ?_ ?_
 ·refine⟨17,st,[],.sl ([].map aC) .full,ah ..,.full (base_start G id _),.refl hw,hr,eM,abp,abp,rfl,?_,?_⟩<;>simp only[go_sem]<;>rfl
 ·rintro m ρ H ⟨f,st',l,y,hH,hy,ha,hru,hfin,hf,hll,rfl,r0,r3⟩
  have hlen:=ha.1.2.2;have hpos:=ha.1.1;obtain⟨g,rfl⟩:∃g,m=g+1:=⟨m - 1,abh⟩;simp only[go_sem,r0];refine(sW st' oK ha.1).go hH ?_;rw[bD hH];have fin:isD st' oK=false→isD st' iK=false→(l,st')=M:=fun d1 d2=>by
   grind [jE]
  have rest:isD st' oK=true∨isD st' iK=true→True:=fun _=>trivial
  cases d1:isD st' oK
  ·simp only[go_sem,r0]
   refine(sW st' iK ha.1).go hH ?_;rw[bD hH];cases d2:isD st' iK
   ·simp only[go_sem,r3]
    have e:=fin d1 d2;exact .mk (h' :=upd G id (some (PO M.2))) (.sl (M.1.map aC) .no) ack (by rw[←e];exact fh hy.1 hH) ⟨rfl,rfl⟩
   ·exact afq
  ·exact afq
theorem NR:(U 65).sz=7:=abx
theorem TW:(U 65).bytes=128:=abx
theorem wJ(l:List bI):Sized 7 (l.map aL):=fun z hz=>by
 obtain⟨c,_,rfl⟩:=List.mem_map.1 hz;cases c;rfl
theorem P8(pol:PoF)(d:Nat)(hd5:d≤5)(hp:∀st,WfP st→st.rules≤64→d≤4→PC 114 [.i d] st (aL (pol st).1) (pol st).2)(hpa:∀st,WfP st→Ah st (pol st).2)(hpr:∀st,mZ st (pol st).2)
  (st:PS) (hw:WfP st) (hr:st.rules≤64):PC 164 [.i d] st (.sl ((jy pol (decide ((4:Int)<(d:Int))) 17 st []).1.map aL) .no) (jy pol (decide ((4:Int)<(d:Int))) 17 st []).2:=.of fun G id=>by
 obtain⟨M,eM⟩:∃M,jy pol (decide ((4:Int)<(d:Int))) 17 st []=M:=⟨_,rfl⟩;rw[eM];refine abg Tryz.func164 33 [.tmp 4] fun hwf=>?_
 simp only[go_sem];have hB:upd G id none id=none:=ah ..;refine .intro (fun m ρ H=>∃(f:Nat) (st' :PS) (l:List bI) (y:AV),H id=some (PO st')∧Acc U 65 (upd G id none) H y (l.map aL)∧Ah st st'∧st'.rules≤64∧jy pol (decide ((4:Int)<(d:Int))) f st' l=M∧f+l.length=17∧l.length≤16∧m=f∧lk ρ 0=some (.ptr id 0)∧lk ρ 1=some (.i d)∧lk ρ 5=some y) 17 ?_ ?_
 ·refine⟨17,st,[],.sl ([].map aL) .full,ah ..,.full (base_start G id _),.refl hw,hr,eM,abp,abp,rfl,?_,?_,?_⟩<;>simp only[go_sem]<;>rfl
 ·rintro m ρ H ⟨f,st',l,y,hH,hy,ha,hru,hfin,hf,hll,rfl,r0,r1,r5⟩
  have hlen:=ha.1.2.2;have hpos:=ha.1.1;obtain⟨g,rfl⟩:∃g,m=g+1:=⟨m - 1,abh⟩;simp only[go_sem,r0];refine(sW st' oL ha.1).go hH ?_;rw[bD hH];have fin:isD st' oL=false→isD st' Fl=false→(l,st')=M:=fun d1 d2=>by
   grind [jy]
  cases d1:isD st' oL
  ·simp only[go_sem,r0]
   refine(sW st' Fl ha.1).go hH ?_;rw[bD hH];cases d2:isD st' Fl
   ·simp only[go_sem,r5]
    have e:=fin d1 d2;exact .mk (h' :=upd G id (some (PO M.2))) (.sl (M.1.map aL) .no) ack (by rw[←e];exact fh hy.1 hH) ⟨rfl,rfl⟩
   ·have hd:isD st' oL=true∨isD st' Fl=true:=by grind
    have eb:=(lY hd).1;have ek:=(lY hd).2;have db:(st'.bad !=0)=false:=abi;have gP:=hH;unfold PO at gP;have lim:l.length=16∨decide ((4:Int)<(d:Int))=true→(l,bC st' true)=M:=fun h=>by
     rw[←hfin];simp only[jy,if_pos hd,if_pos h]
    have hdl:bC st' true=bG st' 6 (aJ st').pos:=rfl;have hlb:((bC st' true).bad !=0)=true:=by grind [bG]
    cases dA:((l.length:Int)==16)
    ·cases dB:decide ((4:Int)<(d:Int))
     ·have nA:l.length≠16:=fun e=>by grind
      have hno:¬(l.length=16∨decide ((4:Int)<(d:Int))=true):=fun h=>h.elim nA (fun e=>abi)
      simp only[jy,if_pos hd,if_neg hno]at hfin;rw[dB]at hfin;have hd4:d≤4:=abi;simp only[go_sem,r0,r1,r5,hy.len,aa7,dA,dB];refine(cH st' false ha.1).go hH ?_;rw[show bC st' false=st' from rfl,bD hH]
      have h3:=hpa st' ha.1;have hrp:=hp st' ha.1 hru hd4;have hr3:=uL (hpr st') hru;obtain⟨x,st2,e2⟩:∃x st2,pol st' =(x,st2):=⟨_,_,rfl⟩;rw[e2]at hfin hrp h3 hr3;obtain⟨pid,pset,palg,ptgt,prules,pkids,pobls⟩:=x;simp only[aL]at hrp hfin h3 hr3;simp only[go_sem,r0,r1,r5,gP,db];refine hrp.go hH ?_;simp only[go_sem];refine(hy.put hB hH _).app (zs:=[aL ⟨pid,pset,palg,ptgt,prules,pkids,pobls⟩]) abk abk (fun k hk=>hk) (by grind [NR,wJ]) adC (by grind [TW]) fun y' H2 hy' hk2=>?_
      have hH2:H2 id=some (PO st2):=hk2 _ _ _ (ah ..);simp only[go_sem];refine⟨_,?_,g,st2,l++ [⟨pid,pset,palg,ptgt,prules,pkids,pobls⟩],y',hH2,abi,ha.trans h3,hr3,hfin,abi,abi,rfl,?_,?_,?_⟩
      ·omega
      all_goals simp only[go_sem,r0,r1]
     ·have e:=lim (.inr dB)
      simp only[go_sem,r0,r1,r5,hy.len,aa7,dA,dB];refine(cH st' true ha.1).go hH ?_;have g3:upd H id (some (PO (bC st' true))) id=some (PO (bC st' true)):=ah ..;unfold PO at g3;simp only[go_sem,r0,r5,g3,hlb,PO];exact .mk (h' :=upd G id (some (PO M.2))) (.sl (M.1.map aL) .no) ack abO ⟨rfl,rfl⟩
    ·have nA:l.length=16:=by grind
     have e:=lim (.inl nA);simp only[go_sem,r0,r5,hy.len,aa7,dA];refine(cH st' true ha.1).go hH ?_;have g3:upd H id (some (PO (bC st' true))) id=some (PO (bC st' true)):=ah ..;unfold PO at g3;simp only[go_sem,r0,r5,g3,hlb,PO];exact .mk (h' :=upd G id (some (PO M.2))) (.sl (M.1.map aL) .no) ack abO ⟨rfl,rfl⟩
  ·have hd:isD st' oL=true∨isD st' Fl=true:=by grind
   have eb:=(lY hd).1;have ek:=(lY hd).2;have db:(st'.bad !=0)=false:=abi;have gP:=hH;unfold PO at gP;have lim:l.length=16∨decide ((4:Int)<(d:Int))=true→(l,bC st' true)=M:=fun h=>by
    rw[←hfin];simp only[jy,if_pos hd,if_pos h]
   have hdl:bC st' true=bG st' 6 (aJ st').pos:=rfl;have hlb:((bC st' true).bad !=0)=true:=by grind [bG]
   cases dA:((l.length:Int)==16)
   ·cases dB:decide ((4:Int)<(d:Int))
    ·have nA:l.length≠16:=fun e=>by grind
     have hno:¬(l.length=16∨decide ((4:Int)<(d:Int))=true):=fun h=>h.elim nA (fun e=>abi)
     simp only[jy,if_pos hd,if_neg hno]at hfin;rw[dB]at hfin;have hd4:d≤4:=abi;simp only[go_sem,r0,r1,r5,hy.len,aa7,dA,dB];refine(cH st' false ha.1).go hH ?_;rw[show bC st' false=st' from rfl,bD hH]
     have h3:=hpa st' ha.1;have hrp:=hp st' ha.1 hru hd4;have hr3:=uL (hpr st') hru;obtain⟨x,st2,e2⟩:∃x st2,pol st' =(x,st2):=⟨_,_,rfl⟩;rw[e2]at hfin hrp h3 hr3;obtain⟨pid,pset,palg,ptgt,prules,pkids,pobls⟩:=x;simp only[aL]at hrp hfin h3 hr3;simp only[go_sem,r0,r1,r5,gP,db];refine hrp.go hH ?_;simp only[go_sem];refine(hy.put hB hH _).app (zs:=[aL ⟨pid,pset,palg,ptgt,prules,pkids,pobls⟩]) abk abk (fun k hk=>hk) (by grind [NR,wJ]) adC (by grind [TW]) fun y' H2 hy' hk2=>?_
     have hH2:H2 id=some (PO st2):=hk2 _ _ _ (ah ..);simp only[go_sem];refine⟨_,?_,g,st2,l++ [⟨pid,pset,palg,ptgt,prules,pkids,pobls⟩],y',hH2,abi,ha.trans h3,hr3,hfin,abi,abi,rfl,?_,?_,?_⟩
     ·omega
     all_goals simp only[go_sem,r0,r1]
    ·have e:=lim (.inr dB)
     simp only[go_sem,r0,r1,r5,hy.len,aa7,dA,dB];refine(cH st' true ha.1).go hH ?_;have g3:upd H id (some (PO (bC st' true))) id=some (PO (bC st' true)):=ah ..;unfold PO at g3;simp only[go_sem,r0,r5,g3,hlb,PO];exact .mk (h' :=upd G id (some (PO M.2))) (.sl (M.1.map aL) .no) ack abO ⟨rfl,rfl⟩
   ·have nA:l.length=16:=by grind
    have e:=lim (.inl nA);simp only[go_sem,r0,r5,hy.len,aa7,dA];refine(cH st' true ha.1).go hH ?_;have g3:upd H id (some (PO (bC st' true))) id=some (PO (bC st' true)):=ah ..;unfold PO at g3;simp only[go_sem,r0,r5,g3,hlb,PO];exact .mk (h' :=upd G id (some (PO M.2))) (.sl (M.1.map aL) .no) ack abO ⟨rfl,rfl⟩
theorem Dr(r:Nat)(d:Nat)(hrd:r+d=4)(hp:∀st,WfP st→st.rules≤64→d+1≤4→PC 114 [.i (d+1:Nat)] st (aL (gr r st).1) (gr r st).2)(st:PS)(hw:WfP st)(hr:st.rules≤64):
  PC 114 [.i d] st (aL (gr (r+1) st).1) (gr (r+1) st).2:=.of fun G id=>by
 have h1:=gp l9 hw;have h2:=mB h1.1;have h3:=gp wX h2.1;have h4:=A7 h3.1;have h5:Ah _ (cP st).2:=iR [123] h4.1;have ht:=ON _ h3.1;simp only[aU]at ht;have hrh:=uL (Dw st).big hr;have hset:(cP st).1.1=((aV st l9).1==2):=rfl;have w1:IntKind.i64.wrap ((d:Int)+1)=((d+1:Nat):Int):=abv;have hdp:(r==0)=decide ((4:Int)<((d+1:Nat):Int)):=by
  grind
 have hk:=P8 (gr r) (d+1) abh hp (fun _ h=>wU r _ h) (BJ r) _ h5.1 hrh
 have hs:=QA _ h5.1 hrh;refine abg Tryz.func114 39 [.cell 4 65] fun hwf=>?_
 simp only[go_sem];intro i4 hi4;have n4:=aH hi4;have hG4:G i4=none:=abQ;have c4:∀(f:Heap) (x y:Option Blk),upd (upd f id x) i4 y=upd (upd f i4 y) id x:=fun f x y=>ct f x y n4.symm
 simp only[go_sem,c4];intro i5 hi5;have n5:=aH hi5;have hi5' :=hi5;rw[ag _ _ n5]at hi5';have n54:=aH hi5';have m54:¬i5=i4:=n54;have m45:¬i4=i5:=n54.symm;have hG5:G i5=none:=abQ;have c5:∀(f:Heap) (x y:Option Blk),upd (upd f id x) i5 y=upd (upd f i5 y) id x:=fun f x y=>ct f x y n5.symm
 have c45:∀(f:Heap) (x y:Option Blk),upd (upd f i5 x) i4 y=upd (upd f i4 y) i5 x:=fun f x y=>ct f x y n54
 simp only[go_sem,c5];refine(nD st l9 .full abk hw).run ?_;simp only[go_sem,c5,aj,n5];refine(tC _ h1.1).run ?_;simp only[go_sem,c5,aj,n5];refine(nD _ wX .full abk h2.1).run ?_;simp only[go_sem,c5,aj,n5];refine ht.run ?_;simp only[go_sem,c5,aj,n5];refine(j8 _ [123] h4.1).run ?_;cases ds:((aV st l9).1==2)
 ·rw[ds]at hset
  simp only[go_sem,aj,n5];have eb:oX (gr r) (r==0) (cP st).1.1 (cP st).2=(((jE 17 (cP st).2 []).1,[]),(jE 17 (cP st).2 []).2):=by grind [oX]
  have hb:=A4 (fun _ h=>wU r _ h) (r==0) (cP st).1.1 h5.1
  obtain⟨⟨rl,stb⟩,er⟩:∃x,jE 17 (cP st).2 []=x:=⟨_,rfl⟩;rw[er]at eb hs;rw[eb]at hb;have ho:=sC _ (iR [125] hb.1).1;simp only[aA]at ho hs;refine hs.run ?_;simp only[go_sem,c5,aj,n5];refine(j8 _ [125] hb.1).run ?_;simp only[go_sem];refine ho.run ?_;simp only[go_sem,c4,c5,c45,aj,n4,n5,m45];have efin:gr (r+1) st=(.mk (cP st).1.2.1 false (cP st).1.2.2.1 (cP st).1.2.2.2 rl [] (fV (dO stb [125])).1,(fV (dO stb [125])).2):=by grind [gr]
  exact .mk (h' :=upd G id (some (PO (fV (dO stb [125])).2))) (aL (.mk (cP st).1.2.1 false (cP st).1.2.2.1 (cP st).1.2.2.2 rl [] (fV (dO stb [125])).1)) (fT _) (Sub.both abJ _ _) ⟨abi,abi⟩
 ·rw[ds]at hset
  simp only[go_sem,aj,n5,w1];have eb:oX (gr r) (r==0) (cP st).1.1 (cP st).2=(([],(jy (gr r) (r==0) 17 (cP st).2 []).1),(jy (gr r) (r==0) 17 (cP st).2 []).2):=by grind [oX]
  have hb:=A4 (fun _ h=>wU r _ h) (r==0) (cP st).1.1 h5.1
  rw[←hdp]at hk;obtain⟨⟨kl,stb⟩,er⟩:∃x,jy (gr r) (r==0) 17 (cP st).2 []=x:=⟨_,rfl⟩;rw[er]at eb hk;rw[eb]at hb;have ho:=sC _ (iR [125] hb.1).1;simp only[aA]at ho hk;refine hk.run ?_;simp only[go_sem,c5,aj,n5];refine(j8 _ [125] hb.1).run ?_;simp only[go_sem];refine ho.run ?_;simp only[go_sem,c4,c5,c45,aj,n4,n5,m45];have efin:gr (r+1) st=(.mk (cP st).1.2.1 true (cP st).1.2.2.1 (cP st).1.2.2.2 [] kl (fV (dO stb [125])).1,(fV (dO stb [125])).2):=by grind [gr]
  exact .mk (h' :=upd G id (some (PO (fV (dO stb [125])).2))) (aL (.mk (cP st).1.2.1 true (cP st).1.2.2.1 (cP st).1.2.2.2 [] kl (fV (dO stb [125])).1)) (by simp only[aL,aW];exact fT _) (Sub.both abJ _ _) ⟨abi,abi⟩
theorem Dq:∀(r d:Nat),r+d=4→∀st,WfP st→st.rules≤64→PC 114 [.i d] st (aL (gr (r+1) st).1) (gr (r+1) st).2
 |0,d,hrd=>fun st hw hr=>Dr 0 d hrd abh st hw hr
 |r+1,d,hrd=>fun st hw hr=>Dr (r+1) d hrd (fun st hw hr _=>Dq r (d+1) abh st hw hr) st hw hr
theorem JB(l:List (List bO))(h:Heap):ai Tryz.prog 271 [cO l] h fun r h' =>r= .i (vV l)∧h' =h:=by
 refine abg Tryz.func271 25 [.tmp 2] fun hwf=>?_
 simp only[go_sem,cO,aa7];refine(Gk _ _).pthen ?_;cases d1:(jM l.length !=0)
 case true=>
  have e1:jM l.length≠0:=abi;simp only[go_sem,d1];exact .same (.refl _) ⟨by grind [vV,au],rfl⟩
 have e1:jM l.length=0:=abi;have hlen:=C4 e1;simp only[go_sem,d1,aa7];refine .intro (fun m ρ h' =>Ab.Sub h h'∧∃i:Nat,i≤l.length∧m=l.length - i∧gR vU (l.take i)=0∧lk ρ 13=some (cO l)∧lk ρ 14=some (.i l.length)∧lk ρ 15=some (.i i)) l.length ?_ ?_
 ·refine⟨.refl _,0,abh,rfl,rfl,?_,?_,?_⟩<;>simp only[go_sem,cO]
 ·rintro m ρ h' ⟨hs,i,hi,rfl,hc,r12,r13,r14⟩
  simp only[go_sem,r13,r14];refine .intro (fun e=>?_) (fun e=>?_)
  ·have hlt:i<l.length:=abe e
   have w1:IntKind.i64.wrap ((i:Int)+1)=((i+1:Nat):Int):=abv;simp only[go_sem,r12,r14,cO];refine .at i abi aby ?_;simp only[go_sem,aa8,iF];refine(JA l[i] _).pthen ?_;cases d2:(vU l[i] !=0)
   ·have e2:vU l[i]=0:=by grind
    simp only[go_sem,r14,d2,w1];refine⟨_,?_,hs,i+1,abh,rfl,vr hlt hc e2,?_,?_,?_⟩
    ·omega
    all_goals simp only[go_sem,r12,r13,cO]
   ·have e2:vU l[i]≠0:=by grind
    simp only[go_sem,d2];refine .mk _ (.refl _) hs ⟨?_,rfl⟩
    grind [vV,z6,au]
  ·have hge:i=l.length:=by grind
   subst hge;rw[List.take_length]at hc;simp only[go_sem];exact .mk _ (.refl _) hs ⟨by grind [vV,au],rfl⟩
theorem uT(l:fU)(h:Heap):ai Tryz.prog 241 [aU l] h fun r h' =>r= .i (kR l)∧h' =h:=by
 refine abg Tryz.func241 21 [.tmp 2] fun hwf=>?_
 cases d1:decide (8<(l.length:Int))
 case true=>
  have e1:8<l.length:=abi;simp only[go_sem,aU,aa7,d1];exact .same (.refl _) ⟨by grind [kR,au],rfl⟩
 have e1:¬8<l.length:=abi;simp only[go_sem,d1,aU,aa7];refine .intro (fun m ρ h' =>Ab.Sub h h'∧∃i:Nat,i≤l.length∧m=l.length - i∧gR vV (l.take i)=0∧lk ρ 9=some (aU l)∧lk ρ 10=some (.i l.length)∧lk ρ 11=some (.i i)) l.length ?_ ?_
 ·refine⟨.refl _,0,abh,rfl,rfl,?_,?_,?_⟩<;>simp only[go_sem,aU]
 ·rintro m ρ h' ⟨hs,i,hi,rfl,hc,r12,r13,r14⟩
  simp only[go_sem,r13,r14];refine .intro (fun e=>?_) (fun e=>?_)
  ·have hlt:i<l.length:=abe e
   have w1:IntKind.i64.wrap ((i:Int)+1)=((i+1:Nat):Int):=abv;simp only[go_sem,r12,r14,aU];refine .at i abi aby ?_;simp only[go_sem,aa8,cO];refine(JB l[i] _).pthen ?_;cases d2:(vV l[i] !=0)
   ·have e2:vV l[i]=0:=by grind
    simp only[go_sem,r14,d2,w1];refine⟨_,?_,hs,i+1,abh,rfl,vr hlt hc e2,?_,?_,?_⟩
    ·omega
    all_goals simp only[go_sem,r12,r13,aU]
   ·have e2:vV l[i]≠0:=by grind
    simp only[go_sem,d2];refine .mk _ (.refl _) hs ⟨?_,rfl⟩
    grind [kR,z6,au]
  ·have hge:i=l.length:=by grind
   subst hge;rw[List.take_length]at hc;simp only[go_sem];exact .mk _ (.refl _) hs ⟨by grind [kR,au],rfl⟩
theorem BB(l:List cC)(h:Heap):ai Tryz.prog 242 [aA l] h fun r h' =>r= .i (gT l)∧h' =h:=by
 refine abg Tryz.func242 39 [.tmp 2] fun hwf=>?_
 cases d1:decide (8<(l.length:Int))
 case true=>
  have e1:8<l.length:=abi;simp only[go_sem,aA,aa7,d1];exact .same (.refl _) ⟨by grind [gT,au],rfl⟩
 have e1:¬8<l.length:=abi;simp only[go_sem,d1,aA,aa7];refine .intro (fun m ρ h' =>Ab.Sub h h'∧∃i:Nat,i≤l.length∧m=l.length - i∧(l.take i).all qt=true∧lk ρ 8=some (aA l)∧lk ρ 9=some (.i l.length)∧lk ρ 10=some (.i i)) l.length ?_ ?_
 ·refine⟨.refl _,0,abh,rfl,rfl,?_,?_,?_⟩<;>simp only[go_sem,aA]
 ·rintro m ρ h' ⟨hs,i,hi,rfl,hc,r12,r13,r14⟩
  simp only[go_sem,r13,r14];refine .intro (fun e=>?_) (fun e=>?_)
  ·have hlt:i<l.length:=abe e
   have w1:IntKind.i64.wrap ((i:Int)+1)=((i+1:Nat):Int):=abv;simp only[go_sem,r12,r14,aA];refine .at i abi aby ?_;simp only[go_sem,aa8,bn];intro id hid;have bad:qt l[i]=false→gT l=1:=fun hb=>by
    have:l.all qt=false:=List.all_eq_false.2 ⟨_,abc hlt,abi⟩;simp[gT,e1,this]
   cases c1:decide (l[i].on<1)
   case true=>
    simp only[go_sem,c1];exact .mk _ (.refl _) (hs.new hid _) ⟨by rw[bad (by have:=aa9 c1;simp[qt];omega)];rfl,rfl⟩
   cases c2:decide (2<l[i].on)
   case true=>
    simp only[go_sem,c1,c2];exact .mk _ (.refl _) (hs.new hid _) ⟨by rw[bad (by have:=aa9 c2;simp[qt];omega)];rfl,rfl⟩
   cases c3:decide (l[i].kind<1)
   case true=>
    simp only[go_sem,c1,c2,c3];exact .mk _ (.refl _) (hs.new hid _) ⟨by rw[bad (by have:=aa9 c3;simp[qt];omega)];rfl,rfl⟩
   cases c4:decide (4<l[i].kind)
   case true=>
    simp only[go_sem,c1,c2,c3,c4];exact .mk _ (.refl _) (hs.new hid _) ⟨by rw[bad (by have:=aa9 c4;simp[qt];omega)];rfl,rfl⟩
   simp only[go_sem,c1,c2,c3,c4];refine(oD _ _).pthen ?_;cases d2:bl l[i].arg
   ·simp only[go_sem]
    exact .mk _ (.refl _) (hs.new hid _) ⟨by rw[bad (by grind [qt])];rfl,rfl⟩
   ·simp only[go_sem,r14,w1]
    refine⟨_,?_,hs.new hid _,i+1,abh,rfl,?_,?_,?_,?_⟩
    ·omega
    ·grind [aba,List.take_succ_eq_append_getElem,qt]
    all_goals simp only[go_sem,r12,r13,aA]
  ·have hge:i=l.length:=by grind
   subst hge;rw[List.take_length]at hc;simp only[go_sem];exact .mk _ (.refl _) hs ⟨by grind [gT,au],rfl⟩
theorem LY(op:Int)(h:Heap):ai Tryz.prog 299 [.i op] h fun r h' =>r=(match hY op with
  |none=> .tup [.sl [] .no,.b false]
  |some w=> .tup [.sl (w.map jt) .no,.b true])∧h' =h:=by
 refine abg Tryz.func299 35 [.tmp 2,.tmp 3] fun hwf=>?_
 cases k1:(op==1)
 case true=>
  have e1:op=1:=abi;simp only[go_sem,k1];exact .mk _ (fm _) (.refl _) ⟨aeF,rfl⟩
 have n1:op≠1:=abi;cases k2:(op==2)
 case true=>
  have e1:op=2:=abi;simp only[go_sem,k1,k2];exact .mk _ (fm _) (.refl _) ⟨aeF,rfl⟩
 have n2:op≠2:=abi;cases k3:(op==3)
 case true=>
  have e1:op=3:=abi;simp only[go_sem,k1,k2,k3];exact .mk _ (fm _) (.refl _) ⟨adw,rfl⟩
 have n3:op≠3:=abi;cases k4:(op==4)
 case true=>
  have e1:op=4:=abi;simp only[go_sem,k1,k2,k3,k4];exact .mk _ (fm _) (.refl _) ⟨adw,rfl⟩
 have n4:op≠4:=abi;cases k5:(op==5)
 case true=>
  have e1:op=5:=abi;simp only[go_sem,k1,k2,k3,k4,k5];exact .mk _ (fm _) (.refl _) ⟨adw,rfl⟩
 have n5:op≠5:=abi;cases k11:(op==11)
 case true=>
  have e1:op=11:=abi;simp only[go_sem,k1,k2,k3,k4,k5,k11];exact .mk _ (fm _) (.refl _) ⟨adw,rfl⟩
 have n11:op≠11:=abi;cases k6:decide (6≤op)
 ·have n6:=aba k6
  simp only[go_sem,k1,k2,k3,k4,k5,k11,k6];exact .mk _ (fm _) (.refl _) ⟨aeF,rfl⟩
 cases k13:decide (op≤13)
 ·have n13:=aba k13
  simp only[go_sem,k1,k2,k3,k4,k5,k11,k6,k13];exact .mk _ (fm _) (.refl _) ⟨aeF,rfl⟩
 have n6:=aa9 k6;have n13:=aa9 k13;simp only[go_sem,k1,k2,k3,k4,k5,k11,k6,k13];exact .mk _ (fm _) (.refl _) ⟨adw,rfl⟩
theorem HK(n:aO)(h:Heap):ai Tryz.prog 300 [dF n] h fun r h' =>r= .b (ju n)∧h' =h:=by
 refine abg Tryz.func300 37 [.tmp 2] fun hwf=>?_
 simp only[go_sem,dF];intro id hid;have fa:∀x y z:Bool,(x && (y && (z && true)))=(x && (y && (z && true))):=fun _ _ _=>rfl
 cases k1:(n.op==1)
 case true=>
  have e1:n.op=1:=abi;simp only[go_sem,k1];refine(fX n.val _).pthen ?_;cases d0:bE n.val
  ·simp only[go_sem]
   exact agy
  ·simp only[go_sem]
   exact .mk _ (.refl _) (.ak hid) ⟨by grind [ju,au,zeroAt],rfl⟩
 have n1:n.op≠1:=abi;cases k2:(n.op==2)
 case true=>
  have e1:n.op=2:=abi;simp only[go_sem,k1,k2];refine(FW n.attr _).pthen ?_;cases d0:pL n.attr
  ·simp only[go_sem]
   exact agy
  ·simp only[go_sem]
   exact .mk _ (.refl _) (.ak hid) ⟨by grind [ju,au,zeroV],rfl⟩
 have n2:n.op≠2:=abi;cases d0:zeroV n.val
 ·have d1:=d0
  unfold zeroV at d1;simp only[go_sem,k1,k2,d1];exact agy
 ·have d1:=d0
  unfold zeroV at d1;simp only[go_sem,k1,k2,d1];exact .mk _ (.refl _) (.ak hid) ⟨by grind [ju,au,zeroAt],rfl⟩
theorem u4:(U 4).sz=1:=abx
theorem u4a:(U 4).k.agg=false:=abx
theorem u4b:(U 4).bytes=1:=abx
theorem u4f:fit (U 4).zero 1:=abq
theorem u4n:bx (U 4).zero=false:=abx
theorem FX(l:List Bool):One (l.map jt):=One.map (fun _=>rfl) l
theorem NI(y:AV)(st:List Bool)(n:aO)(h0 h:Heap)(hy:WrA 4 h0 h y (st.map jt))(hl:st.length≤1000000):
  ai Tryz.prog 272 [y,dF n] h fun r h' =>∃z,r= .tup [z,.v (.bool (gZ st n).isSome)]∧match gZ st n with
   |none=>Ab.Sub h0 h'
   |some st' =>WrA 4 h0 h' z (st'.map jt):=by
 refine abg Tryz.func272 60 [.tmp 4,.tmp 5] fun hwf=>?_
 simp only[go_sem,dF];intro id hid;simp only[go_sem];have hyb:=hy.base hid (some (.obj [.i n.op,.i n.val.kind,.i n.val.n,.s n.val.s,.i n.attr.cat,.s n.attr.name,.b n.attr.must] 229));have hw:=LY n.op (upd h id (some (.obj [.i n.op,.i n.val.kind,.i n.val.n,.s n.val.s,.i n.attr.cat,.s n.attr.name,.b n.attr.must] 229)));cases hwd:hY n.op with
 |none=>
  rw[hwd]at hw;have hst:gZ st n=none:=by grind [gZ]
  refine hw.pthen ?_;exact ag0
 |some w=>
  rw[hwd]at hw;have hwl:w.length≤2:=by
   grind [hY]
  refine hw.pthen ?_;simp only[go_sem];refine(HK n _).pthen ?_;cases d1:ju n
  ·have hst:gZ st n=none:=by grind [gZ]
   exact ag0
  cases d2:decide ((st.length:Int)<(w.length:Int))
  case true=>
   have e2:¬w.length≤st.length:=abi;have hst:gZ st n=none:=by grind [gZ]
   simp only[go_sem,hyb.len,aa7,d2];exact .mk _ (.refl _) (.ak hid) ⟨_,afe,aeZ⟩
  have e2:w.length≤st.length:=abi;have w1:IntKind.i64.wrap ((st.length:Int) - (w.length:Int))=((st.length - w.length:Nat):Int):=abv;obtain⟨hb,ehb⟩:∃hb,upd h id (some (.obj [.i n.op,.i n.val.kind,.i n.val.n,.s n.val.s,.i n.attr.cat,.s n.attr.name,.b n.attr.must] 229))=hb:=⟨_,rfl⟩;have hbid:hb id=some (.obj [.i n.op,.i n.val.kind,.i n.val.n,.s n.val.s,.i n.attr.cat,.s n.attr.name,.b n.attr.must] 229):=aeG;have hsub:Ab.Sub h hb:=by rw[←ehb];exact .ak hid
  rw[ehb]at hyb⊢;simp only[go_sem,hyb.len,aa7,d2,w1];refine .intro (fun m ρ h' =>h' =hb∧∃i:Nat,i≤w.length∧m=w.length - i∧(∀j,j<i→st[st.length - w.length+j]? =w[j]?)∧lk ρ 0=some y∧lk ρ 3=some (.ptr id 0)∧lk ρ 8=some (.i ((st.length - w.length:Nat):Int))∧lk ρ 36=some (.sl (w.map jt) .no)∧lk ρ 37=some (.i w.length)∧lk ρ 38=some (.i i)) w.length ?_ ?_
  ·refine⟨rfl,0,abh,rfl,fun j hj=>abh,?_,?_,?_,?_,?_,?_⟩<;>simp only[go_sem]
  ·rintro m ρ h' ⟨rfl,i,hi,rfl,hc,r0,r3,r8,r36,r37,r38⟩
   simp only[go_sem,r37,r38];refine .intro (fun e=>?_) (fun e=>?_)
   ·have hlt:i<w.length:=abe e
    have w2:IntKind.i64.wrap ((i:Int)+1)=((i+1:Nat):Int):=abv;have w3:IntKind.i64.wrap (((st.length - w.length:Nat):Int)+(i:Int))=((st.length - w.length+i:Nat):Int):=abv;have hlt2:st.length - w.length+i<st.length:=abh;simp only[go_sem,r36,r38];refine .at i abi aby ?_;simp only[go_sem,r0,r8,aa8,jt,w3];refine hyb.idx (FX st) (st.length - w.length+i) rfl abi u4 u4a fun p hp=>?_
    simp only[go_sem,hp _,aa8,jt];cases d3:(st[st.length - w.length+i]==w[i])
    ·have hst:gZ st n=none:=by
      have:st.drop (st.length - w.length)≠w:=fun hh=>by
       grind
      simp[gZ,hwd,this]
     simp only[go_sem];exact .mk _ (.refl _) hsub ⟨_,afe,aeZ⟩
    ·simp only[go_sem,r38,w2]
     refine⟨_,?_,rfl,i+1,abh,rfl,fun j hj=>?_,?_,?_,?_,?_,?_,?_⟩
     ·omega
     ·grind
     all_goals simp only[go_sem,r0,r3,r8,r36,r37]
   ·have hge:i=w.length:=by grind
    subst hge;have hdrop:st.drop (st.length - w.length)=w:=by
     apply List.ext_getElem?
     grind
    have hst:gZ st n=some (st.take (st.length - w.length)++ [n.op==2]):=by
     grind [gZ]
    simp only[go_sem];refine .calls (hm1 id _) [0,1,2,3,4,5,6,7,8,9] (.hm1 hbid) abl rfl ?_;simp only[go_sem,r0,r8];refine hyb.cut (x:=.i64) (st.length - w.length) abx rfl abp u4 fun z hz=>?_
    rw[←List.map_take]at hz;simp only[go_sem,r3,fR];refine hz.app (zs:=[.b (n.op==2)]) (FX _) (FX [n.op==2]) u4 abk u4f u4n (fun k hk=>hk) (by grind [u4b]) fun z' h2 hz' =>?_
    refine⟨fun j b hj=>((Sub.hm1 (ah ..)).trans hz'.1) j b hj,?_⟩
    simp only[go_sem];have hz2:=hz'.less (Sub.ak (hy.1.none hid));refine .same (.refl _) ⟨z',afe,?_⟩;rw[hst];simp only[List.map_append];exact hz2
theorem Em{l:List aO}(h:l.length≤32)(hs:fK [] l=none):jL l=1:=by
 grind [jL,Nat.not_lt]
theorem jF(st:List Bool):∀(l:List aO) (i:Nat),fK st l=(match fK st (l.take i)with
  |none=>none
  |some st' =>fK st' (l.drop i))
 | [],i=>by simp[fK]
 |n::r,0=>abx
 |n::r,i+1=>by
  simp only[List.take_succ_cons,List.drop_succ_cons,fK];cases gZ st n with
  |none=>rfl
  |some st' =>simp only;exact jF st' r i
theorem rE(st st' :List Bool)(l:List aO)(h:fK st l=some st'):st'.length≤st.length+l.length:=by
 induction l generalizing st with
 |nil=>grind [fK,Option.some.injEq]
 |cons n r ih=>
  simp only[fK]at h;cases hs:gZ st n with
  |none=>grind
  |some s2=>
   grind [gZ]
theorem F3(l:List aO)(h:Heap):ai Tryz.prog 243 [fj l] h fun r h' =>r= .i (jL l)∧h' =h:=by
 refine abg Tryz.func243 38 [.tmp 2] fun hwf=>?_
 cases d1:decide (32<(l.length:Int))
 case true=>
  have e1:32<l.length:=abi;simp only[go_sem,fj,aa7,d1];exact .same (.refl _) ⟨by grind [jL,au],rfl⟩
 have e1:l.length≤32:=abi;simp only[go_sem,fj,aa7,d1];refine .intro (fun m ρ h' =>∃(i:Nat) (y:AV) (st:List Bool),WrA 4 h h' y (st.map jt)∧fK [] (l.take i)=some st∧i≤l.length∧m=l.length - i∧
  lk ρ 0=some (fj l)∧lk ρ 3=some y∧lk ρ 10=some (fj l)∧lk ρ 11=some (.i l.length)∧lk ρ 12=some (.i i)) l.length ?_ ?_
 ·refine⟨0,_,[],.nil (.refl _),rfl,abh,rfl,?_,?_,?_,?_,?_⟩<;>simp only[go_sem,fj]
 ·rintro m ρ h' ⟨i,y,st,hy,hst,hi,rfl,r0,r3,r10,r11,r12⟩
  have hsl:=rE _ _ _ hst;have hsl:st.length≤i:=abi;simp only[go_sem,r11,r12];refine .intro (fun e=>?_) (fun e=>?_)
  ·have hlt:i<l.length:=abe e
   have w1:IntKind.i64.wrap ((i:Int)+1)=((i+1:Nat):Int):=abv;have hnx:fK [] (l.take (i+1))=gZ st l[i]:=by
    rw[jF [] _ i,List.take_take,Nat.min_eq_left abh,hst,List.take_succ_eq_append_getElem hlt,List.drop_append_of_le_length abi,List.drop_of_length_le abi]
    grind [fK,gZ]
   simp only[go_sem,r10,r12,fj];refine .at i abi aby ?_;simp only[go_sem,aa8,dF];intro id hid;simp only[go_sem,r3];have hyb:=hy.sub (Sub.ak (k:=some (.obj [.i l[i].op,.i l[i].val.kind,.i l[i].val.n,.s l[i].val.s,.i l[i].attr.cat,.s l[i].attr.name,.b l[i].attr.must] 229)) hid);refine(NI y st l[i] h _ hyb abh).mono fun r h2 ⟨z,e2,hz⟩=>?_
   subst e2;cases hsd:gZ st l[i]with
   |none=>
    rw[hsd]at hz;simp only[go_sem,Option.isSome_none];refine .mk _ (.refl _) hz ⟨?_,rfl⟩;rw[Em e1 (by rw[jF [] l (i+1),hnx,hsd])];rfl
   |some st' =>
    rw[hsd]at hz hnx;simp only[go_sem,r12,Option.isSome_some,w1];refine⟨_,?_,i+1,z,st',hz,hnx,abh,rfl,?_,?_,?_,?_,?_⟩
    ·omega
    all_goals simp only[go_sem,r0,r10,r11,fj]
  ·have hge:i=l.length:=by grind
   subst hge;rw[List.take_length]at hst;have he:jL l=if l= []∨st= [false]then 0 else 1:=by
    simp_all [jL,if_neg]
   cases d2:decide (0<(l.length:Int))
   ·have e2:l= []:=by simp_all
    simp only[go_sem,r0,fj,aa7,d2];exact .mk _ (.refl _) hy.1 ⟨by rw[he,if_pos (.inl e2)];rfl,rfl⟩
   have e2:l≠ []:=abi;cases d3:((st.length:Int) !=1)
   case true=>
    have e3:st≠ [false]:=abi;simp only[go_sem,r0,r3,fj,aa7,d2,hy.len,d3];exact .mk _ (.refl _) hy.1 ⟨by rw[he,if_neg abi];rfl,rfl⟩
   have e3:st.length=1:=by
    grind
   obtain⟨b,rfl⟩:=List.length_eq_one_iff.1 e3;simp only[go_sem,r0,r3,fj,aa7,d2,hy.len];refine hy.idx (FX [b]) 0 rfl abp u4 u4a fun p hp=>?_
   simp only[go_sem,hp _,jt,List.getElem_cons_zero];cases b
   ·simp only[go_sem]
    exact .mk _ (.refl _) hy.1 ⟨by rw[he,if_pos (.inr rfl)];rfl,rfl⟩
   ·simp only[go_sem]
    exact .mk _ (.refl _) hy.1 ⟨by rw[he,if_neg abi];rfl,rfl⟩
def Keeps(S:List Nat)(h h' :Heap):Prop:=∀j k,j∉S→h j=some k→h' j=some k
theorem Keeps.trans{S:List Nat}{a b c:Heap}(x:Keeps S a b)(y:Keeps S b c):Keeps S a c:=fun j k hj e=>y j k hj (x j k hj e)
theorem Keeps.of{S:List Nat}{a b:Heap}(x:Ab.Sub a b):Keeps S a b:=fun j k _ e=>x j k e
theorem Keeps.upd{S:List Nat}{a:Heap}{i:Nat}{b:Option Blk}(hi:i∈S):Keeps S a (Ab.upd a i b):=fun j k hj e=>by
 grind [ag]
def gO(h:Heap)(idw mid:Nat)(m:dS):Prop:=h idw=some (.obj [.mp mid,.i m.rules] 255)∧h mid=some (.mp (zv m.met))∧(∀l∈m.met,l.length≤16)∧m.rules≤64
theorem gO.ne{h:Heap}{idw mid:Nat}{m:dS}(hw:gO h idw mid m):idw≠mid:=fun e=>by
 have h1:=hw.1;have h2:=hw.2.1
 rw[e,h2]at h1;cases h1
theorem gO.keep{h h' :Heap}{idw mid:Nat}{m:dS}(hw:gO h idw mid m)(hs:Ab.Sub h h'):gO h' idw mid m:=⟨hs _ _ hw.1,hs _ _ hw.2.1,hw.2.2⟩
theorem Wb:(U 355).sz=0:=abx
theorem E3{s:Txt}(h:bl s=true):s.length≤16:=by
 grind [bl]
theorem yd{m:dS}{s:Txt}(h:s∈m.met∨bl s=false):iQ m s=none:=by
 unfold iQ
 grind
theorem D4(idw mid:Nat)(m:dS)(s:Txt)(h:Heap)(hw:gO h idw mid m):ai Tryz.prog 240 [.ptr idw 0,.s s] h fun r h' =>match iQ m s with
  |none=>r= .b false∧Ab.Sub h h'
  |some m' =>r= .b true∧Keeps [idw,mid] h h'∧gO h' idw mid m' :=by
 refine abg Tryz.func240 28 [.tmp 4] fun hwf=>?_
 obtain⟨w1,w2,w3,w4⟩:=hw;have hlen:s.length≤maxLen:=by
  have:=hwf (.s s) abp;simp only[wfA,wf1,lim]at this;unfold maxLen;omega
 have hkeys:zI .str (zv m.met):=Is fun l hl=>by grind [maxLen]
 simp only[go_sem,w1,w2];refine⟨hlen,.inr abx,hkeys,?_⟩;rw[Iu _ _ Wb];simp only[go_sem];intro idv hidv;simp only[go_sem];cases d1:decide (s∈m.met)
 case true=>
  have hm:=yd (.inl (aa9 d1));simp only[go_sem];rw[hm];exact .mk _ (.refl _) (.ak hidv) ⟨rfl,.refl _⟩
 have e1:=aba d1;simp only[go_sem];refine(oD _ _).pthen ?_;cases d2:bl s
 ·have hm:=yd (m:=m) (.inr d2)
  simp only[go_sem];rw[hm];exact .mk _ (.refl _) (.ak hidv) ⟨rfl,.refl _⟩
 have hm:iQ m s=some ⟨m.met++ [s],m.rules⟩:=by grind [iQ]
 have w1' :upd h idv (some (.obj [] 355)) idw=some (.obj [.mp mid,.i m.rules] 255):=abQ;have w2' :upd h idv (some (.obj [] 355)) mid=some (.mp (zv m.met)):=abQ;simp only[go_sem,w1',w2'];refine⟨hlen,hkeys,?_⟩;rw[Lz e1];rw[hm];refine .same (.refl _) ⟨rfl,(Keeps.of (.ak hidv)).trans (.upd abp),?_,?_,?_,w4⟩
 ·grind [ag]
 ·rw[ah]
 grind [List.mem_singleton,E3]
theorem L2(idw mid:Nat)(m:dS)(r:cM)(h:Heap)(hw:gO h idw mid m):ai Tryz.prog 208 [.ptr idw 0,aC r] h fun x h' =>x= .v (.int .i64 (fW m r).err)∧Keeps [idw,mid] h h'∧∀m',fW m r= .ok m'→gO h' idw mid m' :=by
 refine abg Tryz.func208 39 [.tmp 4] fun hwf=>?_
 simp only[go_sem,aC,aU,fj,aA];intro id hid;have n1:idw≠id:=fun e=>by have:=hw.1;rw[e,hid]at this;cases this
 have n2:mid≠id:=fun e=>by have:=hw.2.1;rw[e,hid]at this;cases this
 have hwb:=hw.keep (Sub.ak (k:=some (.obj [.s r.id,.b r.deny,.sl (r.tgt.map cO) .no,.sl (r.cond.map dF) .no,.sl (r.obls.map bn) .no] 224)) hid);have hk0:Keeps [idw,mid] h (upd h id (some (.obj [.s r.id,.b r.deny,.sl (r.tgt.map cO) .no,.sl (r.cond.map dF) .no,.sl (r.obls.map bn) .no] 224))):=.of (.ak hid);simp only[go_sem];obtain⟨hb,ehb⟩:∃hb,upd h id (some (.obj [.s r.id,.b r.deny,.sl (r.tgt.map cO) .no,.sl (r.cond.map dF) .no,.sl (r.obls.map bn) .no] 224))=hb:=⟨_,rfl⟩;have hbid:hb id=some (.obj [.s r.id,.b r.deny,.sl (r.tgt.map cO) .no,.sl (r.cond.map dF) .no,.sl (r.obls.map bn) .no] 224):=aeG;rw[ehb]at hwb hk0⊢;refine(D4 idw mid m r.id hb hwb).mono fun x h2 hx=>?_
 cases hm:iQ m r.id with
 |none=>
  rw[hm]at hx;obtain⟨rfl,hs⟩:=hx;have hr:fW m r= .bad 1:=by grind [fW]
  simp only[go_sem];exact .same (.refl _) ⟨afj,hk0.trans (.of hs),fun m' h' =>abi⟩
 |some m1=>
  rw[hm]at hx;obtain⟨rfl,hk,hw2⟩:=hx;have g2:=hw2.1;have hle:=hw2.2.2.2;have hid2:h2 id=some (.obj [.s r.id,.b r.deny,.sl (r.tgt.map cO) .no,.sl (r.cond.map dF) .no,.sl (r.obls.map bn) .no] 224):=hk id _ abi hbid;have w1:IntKind.i64.wrap ((m1.rules:Int)+1)=((m1.rules+1:Nat):Int):=abv;have hk3:Keeps [idw,mid] h (upd h2 idw (some (.obj [.mp mid,.i ((m1.rules+1:Nat):Int)] 255))):=(hk0.trans hk).trans (.upd abp);have hid3:upd h2 idw (some (.obj [.mp mid,.i ((m1.rules+1:Nat):Int)] 255)) id=some (.obj [.s r.id,.b r.deny,.sl (r.tgt.map cO) .no,.sl (r.cond.map dF) .no,.sl (r.obls.map bn) .no] 224):=by
   grind [ag]
  cases d1:decide (64<((m1.rules+1:Nat):Int))
  case true=>
   have e1:m1.rules+1>64:=abi;have hr:fW m r= .bad 6:=by grind [fW]
   simp only[go_sem,g2,w1,d1];exact agf
  have e1:¬m1.rules+1>64:=abi;have hr:fW m r=need (kR r.tgt) (need (jL r.cond) (need (gT r.obls) (.ok ⟨m1.met,m1.rules+1⟩))):=by grind [fW]
  simp only[go_sem,g2,w1,d1,hid3];refine(uT r.tgt _).pthen ?_;cases d2:(kR r.tgt !=0)
  case true=>
   have e2:kR r.tgt≠0:=abi;have hr:fW m r= .bad (kR r.tgt):=by grind [need]
   simp only[go_sem,d2];exact agf
  have e2:kR r.tgt=0:=abi;rw[need,if_pos e2]at hr;simp only[go_sem,d2,hid3];refine(F3 r.cond _).pthen ?_;cases d3:(jL r.cond !=0)
  case true=>
   have e3:jL r.cond≠0:=abi;have hr:fW m r= .bad (jL r.cond):=by grind [need]
   simp only[go_sem,d3];exact agf
  have e3:jL r.cond=0:=abi;rw[need,if_pos e3]at hr;simp only[go_sem,d3,hid3];refine(BB r.obls _).pthen ?_;simp only[go_sem]
  by_cases e4:gT r.obls=0
  ·rw[need,if_pos e4]at hr
   refine .same (.refl _) ⟨by rw[hr,e4];rfl,hk3,fun m' h' =>?_⟩
   rw[hr]at h';cases h';refine⟨ah ..,?_,hw2.2.2.1,abi⟩;rw[ag _ _ hw2.ne.symm];exact hw2.2.1
  ·rw[need,if_neg e4]at hr
   exact agf
theorem xM{m:dS}{id:Txt}{set:Bool}{alg:Int}{tgt:fU}{nr nk:Nat}{obls:List cC}(h:iQ m id=none):eU m id set alg tgt nr nk obls= .bad 1:=by
 grind [eU]
theorem L0(idw mid:Nat)(m:dS)(id:Txt)(set:Bool)(alg:Int)(tgt:fU)(rules:List cM)(kids:List bI)(obls:List cC)(h:Heap)(hw:gO h idw mid m):
  ai Tryz.prog 207 [.ptr idw 0,aL (.mk id set alg tgt rules kids obls)] h fun x h' =>x= .v (.int .i64 (eU m id set alg tgt rules.length kids.length obls).err)∧Keeps [idw,mid] h h'∧∀m',eU m id set alg tgt rules.length kids.length obls= .ok m'→gO h' idw mid m' :=by
 refine abg Tryz.func207 68 [.tmp 4] fun hwf=>?_
 simp -implicitDefEqProofs only[go_sem,aL,aU,aA];intro ip hip;have n1:idw≠ip:=fun e=>by have:=hw.1;rw[e,hip]at this;cases this
 have n2:mid≠ip:=fun e=>by have:=hw.2.1;rw[e,hip]at this;cases this
 have hwb:=hw.keep (Sub.ak (k:=some (.obj [.s id,.b set,.i alg,.sl (tgt.map cO) .no,.sl (rules.map aC) .no,.sl (fu kids) .no,.sl (obls.map bn) .no] 65)) hip);have hk0:Keeps [idw,mid] h (upd h ip (some (.obj [.s id,.b set,.i alg,.sl (tgt.map cO) .no,.sl (rules.map aC) .no,.sl (fu kids) .no,.sl (obls.map bn) .no] 65))):=.of (.ak hip);simp -implicitDefEqProofs only[go_sem];obtain⟨hb,ehb⟩:∃hb,upd h ip (some (.obj [.s id,.b set,.i alg,.sl (tgt.map cO) .no,.sl (rules.map aC) .no,.sl (fu kids) .no,.sl (obls.map bn) .no] 65))=hb:=⟨_,rfl⟩;have hbip:hb ip=some (.obj [.s id,.b set,.i alg,.sl (tgt.map cO) .no,.sl (rules.map aC) .no,.sl (fu kids) .no,.sl (obls.map bn) .no] 65):=aeG;rw[ehb]at hwb hk0⊢;refine(D4 idw mid m id hb hwb).mono fun x h2 hx=>?_
 cases hm:iQ m id with
 |none=>
  rw[hm]at hx;obtain⟨rfl,hs⟩:=hx;simp -implicitDefEqProofs only[go_sem];exact .same (.refl _) ⟨by rw[xM hm];rfl,hk0.trans (.of hs),fun m' h' =>by rw[xM hm]at h';cases h'⟩
 |some m1=>
  rw[hm]at hx;obtain⟨rfl,hk,hw2⟩:=hx;have hip2:h2 ip=some (.obj [.s id,.b set,.i alg,.sl (tgt.map cO) .no,.sl (rules.map aC) .no,.sl (fu kids) .no,.sl (obls.map bn) .no] 65):=hk ip _ (by simp[n1.symm,n2.symm]) hbip
  have hkk:=hk0.trans hk;have bad:∀e,eU m id set alg tgt rules.length kids.length obls= .bad e→(.i e:AV)= .v (.int .i64 (eU m id set alg tgt rules.length kids.length obls).err)∧Keeps [idw,mid] h h2∧∀m',eU m id set alg tgt rules.length kids.length obls= .ok m'→gO h2 idw mid m' :=
   fun e he=>⟨by rw[he];rfl,hkk,fun m' h' =>by rw[he]at h';cases h'⟩
  cases d1:decide (alg<1)
  case true=>
   have e1:=aa9 d1;simp -implicitDefEqProofs only[go_sem,d1,hip2];exact .same (.refl _) (bad 1 (by simp[eU,hm,e1]))
  cases d2:decide (6<alg)
  case true=>
   have e2:=aa9 d2;simp -implicitDefEqProofs only[go_sem,d1,d2,hip2];exact .same (.refl _) (bad 1 (by simp[eU,hm,e2]))
  have e1:¬(alg<1∨alg>6):=by have:=aba d1;have:=aba d2;omega
  have tail:∀(z:Unit),¬(set=true∧rules.length>0∨set=false∧(kids.length>0∨alg=4))→eU m id set alg tgt rules.length kids.length obls=need (kR tgt) (need (gT obls) (if rules.length>16∨kids.length>16 then .bad 6 else .ok m1)):=fun _ hh=>by
   simp only[eU,hm];rw[if_neg e1,if_neg hh]
  cases set
  ·cases d4:decide (0<(kids.length:Int))
   case true=>
    have f4:0<kids.length:=by have:=aa9 d4;omega
    simp -implicitDefEqProofs only[go_sem,d1,d2,hip2,aW,aa7,d4];exact .same (.refl _) (bad 1 (by simp[eU,hm,e1,f4]))
   have g4:¬0<kids.length:=by have:=aba d4;omega
   cases d5:(alg==4)
   case true=>
    have f5:alg=4:=by simpa using d5
    simp -implicitDefEqProofs only[go_sem,d1,d2,hip2,aW,aa7,d4,d5];exact .same (.refl _) (bad 1 (by simp[eU,hm,f5]))
   have g5:alg≠4:=by simpa using d5
   simp -implicitDefEqProofs only[go_sem,d1,d2,hip2,aW,aa7,d4,d5];have e3:=tail () (by simp[g4,g5])
   refine(uT tgt _).pthen ?_;cases t1:(kR tgt !=0)
   case true=>
    exact agk
   have f1:kR tgt=0:=by simpa using t1
   simp -implicitDefEqProofs only[go_sem,t1,hip2];refine(BB obls _).pthen ?_;cases t2:(gT obls !=0)
   case true=>
    exact agi
   have f2:gT obls=0:=by simpa using t2
   cases t3:decide (16<(rules.length:Int))
   case true=>
    exact agd
   have f3:¬16<rules.length:=by have:=aba t3;omega
   cases t4:decide (16<(kids.length:Int))
   case true=>
    exact aga
   have f4:¬16<kids.length:=by have:=aba t4;omega
   simp -implicitDefEqProofs only[go_sem,t2,hip2,aa7,t3,aW,t4];have e4:eU m id false alg tgt rules.length kids.length obls= .ok m1:=by rw[e3];simp[need,f1,f2,f3,f4]
   exact agL
  ·cases d3:decide (0<(rules.length:Int))
   case true=>
    have f3:0<rules.length:=by have:=aa9 d3;omega
    simp -implicitDefEqProofs only[go_sem,d1,d2,hip2,aa7,d3];exact .same (.refl _) (bad 1 (by simp[eU,hm,e1,f3]))
   have g3:¬0<rules.length:=by have:=aba d3;omega
   simp -implicitDefEqProofs only[go_sem,d1,d2,hip2,aa7,d3];have e3:=tail () (by simp[g3])
   refine(uT tgt _).pthen ?_;cases t1:(kR tgt !=0)
   case true=>
    exact agk
   have f1:kR tgt=0:=by simpa using t1
   simp -implicitDefEqProofs only[go_sem,t1,hip2];refine(BB obls _).pthen ?_;cases t2:(gT obls !=0)
   case true=>
    exact agi
   have f2:gT obls=0:=by simpa using t2
   cases t3:decide (16<(rules.length:Int))
   case true=>
    exact agd
   have f3:¬16<rules.length:=by have:=aba t3;omega
   cases t4:decide (16<(kids.length:Int))
   case true=>
    exact aga
   have f4:¬16<kids.length:=by have:=aba t4;omega
   simp -implicitDefEqProofs only[go_sem,t2,hip2,aa7,t3,aW,t4];have e4:eU m id true alg tgt rules.length kids.length obls= .ok m1:=by rw[e3];simp[need,f1,f2,f3,f4]
   exact agL
theorem Lc(k:bI):(aL k).cells.length=7:=by
 cases k;rfl
theorem uF{m:dS}{d:Nat}{p:bI}(h:4<d):jY m d p= .bad 6:=by
 cases p;grind [jY]
theorem uG{m:dS}{d:Nat}{id:Txt}{set:Bool}{alg:Int}{tgt:fU}{rules:List cM}{kids:List bI}{obls:List cC}{e:Int}(h:¬4<d)
  (hh:eU m id set alg tgt rules.length kids.length obls= .bad e):jY m d (.mk id set alg tgt rules kids obls)= .bad e:=by
 grind [jY]
theorem yu{m m1:dS}{d:Nat}{id:Txt}{set:Bool}{alg:Int}{tgt:fU}{rules:List cM}{kids:List bI}{obls:List cC}{e:Int}(h:¬4<d)
  (hh:eU m id set alg tgt rules.length kids.length obls= .ok m1) (hr:fl m1 rules= .bad e):jY m d (.mk id set alg tgt rules kids obls)= .bad e:=by
 grind [jY]
theorem Au{m m1 m2:dS}{d:Nat}{id:Txt}{set:Bool}{alg:Int}{tgt:fU}{rules:List cM}{kids:List bI}{obls:List cC}(h:¬4<d)
  (hh:eU m id set alg tgt rules.length kids.length obls= .ok m1) (hr:fl m1 rules= .ok m2):jY m d (.mk id set alg tgt rules kids obls)=iC m2 (d+1) kids:=by
 grind [jY]
theorem tD:∀(n d:Nat) (m:dS) (p:bI) (e:Int),d+n=5→jY m d p= .bad e→e≠0
 |0,d,m,p,e,hd,h=>by grind [uF]
 |n+1,d,m,.mk id set alg tgt rules kids obls,e,hd,h=>by
  by_cases h4:4<d
  ·omega
  cases hh:eU m id set alg tgt rules.length kids.length obls with
  |bad e' =>grind [uG,z8]
  |ok m1=>
   cases hr:fl m1 rules with
   |bad e' =>
    rw[yu h4 hh hr]at h;cases h
    clear hh hd
    induction rules generalizing m1 with
    |nil=>cases hr
    |cons r l ih=>
     grind [fl,fW,AF]
   |ok m2=>
    rw[Au h4 hh hr]at h;have ih:=fun m p e=>tD n (d+1) m p e abh
    clear hh hr
    induction kids generalizing m2 with
    |nil=>cases h
    |cons k l ihk=>
     simp only[iC]at h;cases hx:jY m2 (d+1) k with
     |bad x=>rw[hx]at h;cases h;exact ih _ _ _ hx
     |ok m3=>rw[hx]at h;exact ihk m3 h
theorem Gq{e:Int}{w:Went}{m:dS}(h:need e w= .ok m):e=0∧w= .ok m:=by
 grind [need]
theorem Kk{m m1:dS}{id:Txt}{set:Bool}{alg:Int}{tgt:fU}{nr nk:Nat}{obls:List cC}(h:eU m id set alg tgt nr nk obls= .ok m1):
  iQ m id=some m1∧1≤alg∧alg≤6∧(set=true→nr=0)∧(set=false→nk=0∧alg≠4)∧kR tgt=0∧gT obls=0∧nr≤16∧nk≤16:=by
 unfold eU at h;split at h
 ·cases h
 split at h
 ·cases h
 split at h
 ·cases h
 obtain⟨h3,h⟩:=Gq h;obtain⟨h4,h⟩:=Gq h
 grind
theorem He:∀(n d:Nat),d+n=5→∀(idw mid:Nat) (m:dS) (p:bI) (h:Heap),gO h idw mid m→
  ai Tryz.prog 167 [.ptr idw 0,aL p,.i d] h fun x h' =>x= .v (.int .i64 (jY m d p).err)∧Keeps [idw,mid] h h'∧∀m',jY m d p= .ok m'→gO h' idw mid m'
 |n,d,hd,idw,mid,m,.mk id set alg tgt rules kids obls,h,hw=>by
  refine abg Tryz.func167 52 [.tmp 6] fun hwf=>?_
  simp only[go_sem,aL,aU,aA];intro ip hip;have n1:idw≠ip:=fun e=>by have:=hw.1;rw[e,hip]at this;cases this
  have n2:mid≠ip:=fun e=>by have:=hw.2.1;rw[e,hip]at this;cases this
  have hwb:=hw.keep (Sub.ak (k:=some (.obj [.s id,.b set,.i alg,.sl (tgt.map cO) .no,.sl (rules.map aC) .no,.sl (fu kids) .no,.sl (obls.map bn) .no] 65)) hip);have hk0:Keeps [idw,mid] h (upd h ip (some (.obj [.s id,.b set,.i alg,.sl (tgt.map cO) .no,.sl (rules.map aC) .no,.sl (fu kids) .no,.sl (obls.map bn) .no] 65))):=.of (.ak hip);obtain⟨hb,ehb⟩:∃hb,upd h ip (some (.obj [.s id,.b set,.i alg,.sl (tgt.map cO) .no,.sl (rules.map aC) .no,.sl (fu kids) .no,.sl (obls.map bn) .no] 65))=hb:=⟨_,rfl⟩;have hbip:hb ip=some (.obj [.s id,.b set,.i alg,.sl (tgt.map cO) .no,.sl (rules.map aC) .no,.sl (fu kids) .no,.sl (obls.map bn) .no] 65):=aeG;rw[ehb]at hwb hk0⊢;cases d0:decide (4<(d:Int))
  case true=>
   have e0:4<d:=abi;simp only[go_sem,d0];exact .same (.refl _) ⟨by rw[uF e0];rfl,hk0,fun m' h' =>by grind [uF]⟩
  have e0:¬4<d:=abi;simp only[go_sem,d0,hbip];have hhead:=L0 idw mid m id set alg tgt rules kids obls hb hwb;simp only[aL,aU,aA]at hhead;refine hhead.mono fun x h2 ⟨ex,hk,hw2⟩=>?_
  subst ex;have hk2:=hk0.trans hk;cases hh:eU m id set alg tgt rules.length kids.length obls with
  |bad e=>
   have hne:=z8 hh;have t1:(e !=0)=true:=abi;simp only[go_sem,Went.err,t1];exact .same (.refl _) ⟨by rw[uG e0 hh];rfl,hk2,fun m' h' =>by grind [uG]⟩
  |ok m1=>
   have hw2:=hw2 _ hh;have hle:=(Kk hh).2.2.2.2.2.2.2;have hip2:=hk ip _ abi hbip;simp only[go_sem,Went.err,hip2,aa7];refine .intro (fun k ρ h' =>∃(i:Nat) (mi:dS),i≤rules.length∧k=rules.length - i∧fl m1 (rules.take i)= .ok mi∧Keeps [idw,mid] h h'∧gO h' idw mid mi∧
    h' ip=some (.obj [.s id,.b set,.i alg,.sl (tgt.map cO) .no,.sl (rules.map aC) .no,.sl (fu kids) .no,.sl (obls.map bn) .no] 65)∧
    lk ρ 0=some (.ptr idw 0)∧lk ρ 2=some (.i d)∧lk ρ 4=some (.ptr ip 0)∧lk ρ 23=some (.sl (rules.map aC) .no)∧lk ρ 24=some (.i rules.length)∧lk ρ 25=some (.i i)) rules.length ?_ ?_
   ·refine⟨0,m1,abh,rfl,rfl,hk2,hw2,hip2,?_,?_,?_,?_,?_,?_⟩<;>simp only[go_sem]
   ·rintro k ρ h' ⟨i,mi,hi,rfl,hri,hki,hwi,hipi,r0,r2,r4,r23,r24,r25⟩
    simp only[go_sem,r24,r25];refine .intro (fun e=>?_) (fun e=>?_)
    ·have hlt:i<rules.length:=abe e
     have w1:IntKind.i64.wrap ((i:Int)+1)=((i+1:Nat):Int):=abv;simp only[go_sem,r23,r25];refine .at i abi aby ?_;simp only[go_sem,aa8,aC];intro ir hir;have hrl:=L2 idw mid mi rules[i] _ (hwi.keep (Sub.ak (k:=some (.obj [.s rules[i].id,.b rules[i].deny,aU rules[i].tgt,fj rules[i].cond,aA rules[i].obls] 224)) hir));simp only[aC]at hrl;simp only[go_sem,r0];refine hrl.mono fun x h3 ⟨ex,hk3,hw3⟩=>?_
     subst ex;have hk4:=(hki.trans (.of (Sub.ak hir))).trans hk3;have hip3:=hk3 ip _ abi ((Sub.ak hir) _ _ hipi);cases hx:fW mi rules[i]with
     |bad x=>
      have t1:(x !=0)=true:=by grind [AF]
      simp only[go_sem,Went.err,t1];have hp:=yu (d:=d) (kids:=kids) e0 hh (DE hlt hri hx);exact .same (.refl _) ⟨by rw[hp];rfl,hk4,fun m' h' =>abi⟩
     |ok m3=>
      simp only[go_sem,r25,Went.err,w1];refine⟨_,?_,i+1,m3,abh,rfl,by grind [vK],hk4,hw3 _ hx,hip3,?_,?_,?_,?_,?_,?_⟩
      ·omega
      all_goals simp only[go_sem,r0,r2,r4,r23,r24]
    ·have hge:i=rules.length:=by grind
     subst hge;rw[List.take_length]at hri;have hpk:=Au (d:=d) (kids:=kids) e0 hh hri;simp only[go_sem,r4,hipi,aW,aa7];refine .intro (fun k ρ h' =>∃(i:Nat) (mj:dS),i≤kids.length∧k=kids.length - i∧iC mi (d+1) (kids.take i)= .ok mj∧Keeps [idw,mid] h h'∧gO h' idw mid mj∧
      lk ρ 0=some (.ptr idw 0)∧lk ρ 2=some (.i d)∧lk ρ 37=some (.sl (kids.map aL) .no)∧lk ρ 38=some (.i kids.length)∧lk ρ 39=some (.i i)) kids.length ?_ ?_
     ·refine⟨0,mi,abh,rfl,rfl,hki,hwi,?_,?_,?_,?_,?_⟩<;>simp only[go_sem,r0,r2]
     ·rintro k ρ h' ⟨i,mj,hi,rfl,hkj,hki,hwi,r0,r2,r37,r38,r39⟩
      simp only[go_sem,r38,r39];refine .intro (fun e=>?_) (fun e=>?_)
      ·have hlt:i<kids.length:=abe e
       have w1:IntKind.i64.wrap ((i:Int)+1)=((i+1:Nat):Int):=abv;have w2:IntKind.i64.wrap ((d:Int)+1)=((d+1:Nat):Int):=abv;obtain⟨n',rfl⟩:∃n',n=n' +1:=⟨n - 1,abh⟩;have hrec:=He n' (d+1) abh idw mid mj kids[i];cases hki' :kids[i]with
       |mk kid kset kalg ktgt krules kkids kobls=>
       rw[hki']at hrec;simp only[aL,aU,aA]at hrec;simp only[go_sem,r37,r39];refine .at i abi (by grind [Lc]) ?_
       simp only[go_sem,aa8,hki',aL,aU,aA];intro ir hir;simp only[go_sem,r0,r2,w2];refine(hrec _ (hwi.keep (Sub.ak hir))).mono fun x h3 ⟨ex,hk3,hw3⟩=>?_
       subst ex;have hk4:=(hki.trans (.of (Sub.ak hir))).trans hk3;cases hx:jY mj (d+1) (.mk kid kset kalg ktgt krules kkids kobls)with
       |bad x=>
        have t1:(x !=0)=true:=by simpa using tD n' (d+1) _ _ _ abh hx
        simp only[go_sem,Went.err,t1];have hp:=EY hlt hkj (by rw[hki'];exact hx)
        exact .same (.refl _) ⟨by rw[hpk,hp];rfl,hk4,fun m' h' =>abi⟩
       |ok m3=>
        simp only[go_sem,r39,Went.err,w1];refine⟨_,?_,i+1,m3,abh,rfl,by grind [xR],hk4,hw3 _ hx,?_,?_,?_,?_,?_⟩
        ·omega
        all_goals simp only[go_sem,r0,r2,r37,r38]
      ·have hge:i=kids.length:=by grind
       subst hge;rw[List.take_length]at hkj;simp only[go_sem];exact .same (.refl _) ⟨by rw[hpk,hkj];rfl,hki,fun m' h' =>abi⟩
theorem E4{h:Heap}{i j:Nat}{b:Blk}(e:upd h i (some b) j=none):j≠i:=fun hh=>by
 subst hh;rw[ah]at e;cases e
theorem tI(p:bI)(h:Heap):ai Tryz.prog 117 [aL p] h fun r h' =>r= .i (gh p)∧h' =h:=by
 cases p with
 |mk id set alg tgt rules kids obls=>
 refine abg Tryz.func117 10 [.tmp 2] fun hwf=>?_
 simp only[go_sem,aL,aU,aA];intro ip hip;simp only[go_sem];intro im him;simp only[go_sem];intro iw hiw;have n1:=E4 him;have n2:=E4 hiw;have hiw1:=hiw;rw[ag _ _ n2]at hiw1;have n3:=E4 hiw1;have s1:Ab.Sub h (upd (upd (upd h ip (some (.obj [.s id,.b set,.i alg,.sl (tgt.map cO) .no,.sl (rules.map aC) .no,.sl (fu kids) .no,.sl (obls.map bn) .no] 65))) im (some (.mp []))) iw (some (.obj [.mp im,.i 0] 255))):=
  ((Sub.ak hip).trans (.ak him)).trans (.ak hiw)
 obtain⟨h3,e3⟩:∃h3,upd (upd (upd h ip (some (.obj [.s id,.b set,.i alg,.sl (tgt.map cO) .no,.sl (rules.map aC) .no,.sl (fu kids) .no,.sl (obls.map bn) .no] 65))) im (some (.mp []))) iw (some (.obj [.mp im,.i 0] 255))=h3:=⟨_,rfl⟩;have g1:h3 ip=some (.obj [.s id,.b set,.i alg,.sl (tgt.map cO) .no,.sl (rules.map aC) .no,.sl (fu kids) .no,.sl (obls.map bn) .no] 65):=by
  rw[←e3,ag _ _ n3.symm,ag _ _ n1.symm,ah]
 have g2:gO h3 iw im ⟨[],0⟩:=by
  refine⟨by rw[←e3,ah];rfl,by rw[←e3,ag _ _ n2.symm,ah];rfl,fun l hl=>abi,abk⟩
 have hi0:h im=none:=abQ;have hw0:h iw=none:=abQ;simp only[go_sem];rw[e3]at s1⊢;simp only[go_sem,g1];have hp:=He 4 1 rfl iw im ⟨[],0⟩ (.mk id set alg tgt rules kids obls) h3 g2;refine hp.mono fun x h4 ⟨ex,hk,_⟩=>?_
 subst ex;simp only[go_sem];refine .mk _ (.refl _) (fun j k hj=>?_) ⟨rfl,rfl⟩
 refine hk j k ?_ (s1 _ _ hj)
 grind
def jC(x:bI×Int×Int):AV:=.tup [aL x.1,.i x.2.1,.i x.2.2]
theorem jb(a b c:AV)(h:Weak a b)(d:AV):Weak (.tup [a,c,d]) (.tup [b,c,d]):=.tup _ _ rfl fun i h1 h2=>by
 rcases i with _|_|_|i
 ·exact h
 ·exact acC
 ·exact acC
 grind
theorem ym(s:Txt)(h:Heap)(he:lu h):ai Tryz.prog 67 [.s s] h fun r h' =>r=jC (aP s)∧h' =h:=by
 refine abg Tryz.func67 61 [.cell 2 65,.tmp 3,.tmp 4] fun hwf=>?_
 simp only[go_sem];intro i2 hi2;simp only[go_sem];refine(Eb s _ (he.sub (.ak hi2))).pthen ?_;cases el:rR s with
 |bad e a=>
  have e1:=xV el;have d1:(e !=0)=true:=by
   grind
  have efin:aP s=(nQ,e,a):=by grind [aP]
  simp only[go_sem,Na,d1];rw[efin];exact .mk (h' :=h) (jC (nQ,e,a)) (jb _ _ _ (fT _) _) (.ak hi2) ⟨rfl,rfl⟩
 |ok ts=>
  have efin:aP s=yj s ts:=by grind [aP]
  have hw:=Jg el 0 0 0;have hpol:=Dq 3 1 rfl ⟨ts,0,0,0,0⟩ hw (Nat.zero_le _);have hap:=wU 4 ⟨ts,0,0,0,0⟩ hw;obtain⟨⟨⟨pid,pset,palg,ptgt,prules,pkids,pobls⟩,st1⟩,ep⟩:∃x,gr 4 ⟨ts,0,0,0,0⟩=x:=⟨_,rfl⟩;rw[show 3+1=4 from rfl,ep]at hpol
  rw[ep]at hap;simp only[aL]at hpol hap;simp only[yj,ep]at efin;simp only[go_sem,Na];intro i8 hi8;have n8:=aH hi8;have m82:¬i8=i2:=n8;have m28:¬i2=i8:=fun e=>n8 e.symm
  have hh8:h i8=none:=abQ;simp only[go_sem];refine hpol.go (ah ..) ?_;rw[mU];simp only[go_sem];intro i9 hi9;have n9:=aH hi9;have hi9' :=hi9;rw[ag _ _ n9]at hi9';have n92:=aH hi9';have m92:¬i9=i2:=n92;have m29:¬i2=i9:=fun e=>n92 e.symm
  have m98:¬i9=i8:=n9;have m89:¬i8=i9:=fun e=>n9 e.symm
  have hh9:h i9=none:=abQ;have c9:∀(f:Heap) (x y:Option Blk),upd (upd f i8 x) i9 y=upd (upd f i9 y) i8 x:=fun f x y=>ct f x y n9.symm
  simp only[go_sem,c9,aj,m98];refine(lE st1 hap.1).run ?_;have subs:∀x y z,Sub h (upd (upd (upd h i2 x) i9 y) i8 z):=fun x y z=>((Sub.ak hi2).put hh9 _).put hh8 _
  cases d1:((aJ st1).kind !=7)
  ·have k1:(aJ st1).kind=7:=by grind
   have e2:(if(aJ st1).kind=7 then st1 else bg st1)=st1:=if_pos k1
   simp only[go_sem,fA,d1];cases db:((st1).bad==0)
   ·have eb:(st1).bad≠0:=by grind
    simp only[go_sem,PO,db];have eend:pz s (.mk pid pset palg ptgt prules pkids pobls,st1)=st1:=by
     simp_all [pz,if_neg]
    have hbb:(st1).bad≠0:=eb;have dn:((st1).bad !=0)=true:=abi;simp only[go_sem,dn];refine .calls (hm1 i8 (PO (st1))) [0,1,2,3,4,5,6,7,8,9,10,11] (.hm1 (ah ..)) abl rfl ?_;simp only[go_sem,aj,m28,m29,PO,fR];refine⟨.hm1 ((ag _ _ n8).trans (ah ..)),?_⟩;have efin2:aP s=(nQ,(st1).bad,(st1).place):=abi;rw[efin2];exact .mk (h' :=h) (jC (nQ,(st1).bad,(st1).place)) (jb _ _ _ (fT _) _) (Sub.put (subs _ _ _) hi2 _) ⟨rfl,rfl⟩
   ·have eb:(st1).bad=0:=by grind
    simp only[go_sem,aj,m98,PO,db];refine(tI (.mk pid pset palg ptgt prules pkids pobls) _).pthen ?_;cases dr:(gh (.mk pid pset palg ptgt prules pkids pobls) !=0)
    ·have er:gh (.mk pid pset palg ptgt prules pkids pobls)=0:=by grind
     have dn:((st1).bad !=0)=false:=abi;simp only[go_sem,aj,m28,m29,m98,dr,dn];have eend:pz s (.mk pid pset palg ptgt prules pkids pobls,st1)=st1:=by
      simp_all [pz,if_neg]
     exact agX
    ·have er:gh (.mk pid pset palg ptgt prules pkids pobls)≠0:=by grind
     simp only[go_sem,dr];refine(qL (st1) 5 s.length).run ?_;have eend:pz s (.mk pid pset palg ptgt prules pkids pobls,st1)=bG (st1) 5 s.length:=by
      simp_all [pz,if_pos]
     have hwb:bG (st1) 5 s.length= {(st1)with bad:=5,place:=s.length}:=by rw[bG,if_pos eb]
     have hbb:(bG (st1) 5 s.length).bad≠0:=abi;have dn:((bG (st1) 5 s.length).bad !=0)=true:=abi;simp only[go_sem,PO,dn];refine .calls (hm1 i8 (PO (bG (st1) 5 s.length))) [0,1,2,3,4,5,6,7,8,9,10,11] (.hm1 (ah ..)) abl rfl ?_;simp only[go_sem,aj,m28,m29,PO,fR];refine⟨.hm1 ((ag _ _ n8).trans (ah ..)),?_⟩;have efin2:aP s=(nQ,(bG (st1) 5 s.length).bad,(bG (st1) 5 s.length).place):=abi;rw[efin2];exact .mk (h' :=h) (jC (nQ,(bG (st1) 5 s.length).bad,(bG (st1) 5 s.length).place)) (jb _ _ _ (fT _) _) (Sub.put (subs _ _ _) hi2 _) ⟨rfl,rfl⟩
  ·have k1:(aJ st1).kind≠7:=by grind
   have e2:(if(aJ st1).kind=7 then st1 else bg st1)=bg st1:=if_neg k1
   simp only[go_sem,fA,d1];refine(kQ st1 hap.1).run ?_;simp only[go_sem];cases db:((bg st1).bad==0)
   ·have eb:(bg st1).bad≠0:=by grind
    simp only[go_sem,PO,db];have eend:pz s (.mk pid pset palg ptgt prules pkids pobls,st1)=bg st1:=by
     simp_all [pz,if_neg]
    have hbb:(bg st1).bad≠0:=eb;have dn:((bg st1).bad !=0)=true:=abi;simp only[go_sem,dn];refine .calls (hm1 i8 (PO (bg st1))) [0,1,2,3,4,5,6,7,8,9,10,11] (.hm1 (ah ..)) abl rfl ?_;simp only[go_sem,aj,m28,m29,PO,fR];refine⟨.hm1 ((ag _ _ n8).trans (ah ..)),?_⟩;have efin2:aP s=(nQ,(bg st1).bad,(bg st1).place):=abi;rw[efin2];exact .mk (h' :=h) (jC (nQ,(bg st1).bad,(bg st1).place)) (jb _ _ _ (fT _) _) (Sub.put (subs _ _ _) hi2 _) ⟨rfl,rfl⟩
   ·have eb:(bg st1).bad=0:=by grind
    simp only[go_sem,aj,m98,PO,db];refine(tI (.mk pid pset palg ptgt prules pkids pobls) _).pthen ?_;cases dr:(gh (.mk pid pset palg ptgt prules pkids pobls) !=0)
    ·have er:gh (.mk pid pset palg ptgt prules pkids pobls)=0:=by grind
     have dn:((bg st1).bad !=0)=false:=abi;simp only[go_sem,aj,m28,m29,m98,dr,dn];have eend:pz s (.mk pid pset palg ptgt prules pkids pobls,st1)=bg st1:=by
      simp_all [pz,if_neg]
     exact agX
    ·have er:gh (.mk pid pset palg ptgt prules pkids pobls)≠0:=by grind
     simp only[go_sem,dr];refine(qL (bg st1) 5 s.length).run ?_;have eend:pz s (.mk pid pset palg ptgt prules pkids pobls,st1)=bG (bg st1) 5 s.length:=by
      simp_all [pz,if_pos]
     have hwb:bG (bg st1) 5 s.length= {(bg st1)with bad:=5,place:=s.length}:=by rw[bG,if_pos eb]
     have hbb:(bG (bg st1) 5 s.length).bad≠0:=abi;have dn:((bG (bg st1) 5 s.length).bad !=0)=true:=abi;simp only[go_sem,PO,dn];refine .calls (hm1 i8 (PO (bG (bg st1) 5 s.length))) [0,1,2,3,4,5,6,7,8,9,10,11] (.hm1 (ah ..)) abl rfl ?_;simp only[go_sem,aj,m28,m29,PO,fR];refine⟨.hm1 ((ag _ _ n8).trans (ah ..)),?_⟩;have efin2:aP s=(nQ,(bG (bg st1) 5 s.length).bad,(bG (bg st1) 5 s.length).place):=abi;rw[efin2];exact .mk (h' :=h) (jC (nQ,(bG (bg st1) 5 s.length).bad,(bG (bg st1) 5 s.length).place)) (jb _ _ _ (fT _) _) (Sub.put (subs _ _ _) hi2 _) ⟨rfl,rfl⟩
end Go.Proofs.YtcochaoekecfdaaGreatDoor
namespace Go.Ab
open Go
theorem OwE.keepb{tb:TypeId}{h0 h h' :Heap}{sz:Nat}{y:AV}{xs:List AV}(hw:OwE tb h0 h sz y xs)(hk:∀id,h0 id=Option.none→h id≠Option.none→h' id=h id):OwE tb h0 h' sz y xs:=
 hw.keep fun id e=>hk id (hw.nid e).1 (hw.nid e).2.1
end Go.Ab
namespace Go.Proofs.YtcochaoekecfdaaGreatDoor
open Go Go.Ab Go.Bf
theorem fc.keepb{h0 h h' :Heap}{ys:List AV}{x:AV}{c:aK}(hm:fc h0 h ys x c)(hk:∀id,h0 id=none→h id≠none→h' id=h id):fc h0 h' ys x c:=by
 obtain⟨f,l,e,a,b,c,d⟩:=hm;exact⟨f,l,e,a.keepb hk,b.keepb hk,c,d⟩
theorem lB.keepb{h0 h h' :Heap}{ys:List AV}{y:AV}{cs:List aK}{i0:Nat}(ho:lB h0 h ys y cs i0)(hk:∀id,h0 id=none→h id≠none→h' id=h id):lB h0 h' ys y cs i0:=by
 obtain⟨xs,a,b,c,d⟩:=ho;exact⟨xs,a.keepb hk,b,c,fun h1 h2=>(d h1 h2).keepb hk⟩
theorem sk.keepb{h0 h h' :Heap}{x:AV}{s:an}{i0:Nat}(ho:sk h0 h x s i0)(hk:∀id,h0 id=none→h id≠none→h' id=h id):sk h0 h' x s i0:=by
 obtain⟨y1,y2,y3,y4,e,a,b,c,d,r⟩:=ho;exact⟨y1,y2,y3,y4,e,a.keepb hk,b.keepb hk,c.keepb hk,d.keepb hk,r⟩
theorem lB.keepx{h0 h h' :Heap}{ys:List AV}{y z:AV}{cs:List aK}{i0:Nat}(ho:lB h0 h ys y cs i0)(hz:z∈ys)(hy:apart y z)(hk:∀id,h0 id=none→h id≠none→nid z≠some id→h' id=h id):lB h0 h' ys y cs i0:=by
 obtain⟨xs,a,b,c,d⟩:=ho;refine⟨xs,a.keep fun id e=>hk id (a.nid e).1 (a.nid e).2.1 (hy id e),b,c,fun h1 h2=>?_⟩
 obtain⟨f,l,e,of,ol,hap,hys⟩:=d h1 h2;exact⟨f,l,e,of.keep fun id e=>hk id (of.nid e).1 (of.nid e).2.1 ((hys z hz).1 id e),ol.keep fun id e=>hk id (ol.nid e).1 (ol.nid e).2.1 ((hys z hz).2 id e),hap,hys⟩
theorem fc.frz{g h0 h:Heap}{ys:List AV}{x:AV}{c:aK}(hm:fc h0 h ys x c)(hg:Ab.Sub g h0):Frz g h x (cq c):=by
 obtain⟨f,l,rfl,a,b,_⟩:=hm;refine .agg _ _ rfl fun j h1 h2=>?_
 rcases j with _|_|_|_|_|j
 ·exact abC
 ·exact abC
 ·exact abC
 ·exact(a.less hg).frz (bp (fun _=>rfl) _)
 ·exact(b.less hg).frz (bp (fun _=>rfl) _)
 ·simp at h1;omega
theorem HW{g h0 h:Heap}{y:AV}{xs:List AV}{cs:List aK}(hw:OwE 134 h0 h 5 y xs)(hg:Ab.Sub g h0)(hn:xs.length=cs.length)(hx:∀j (h1:j<xs.length) (h2:j<cs.length),Frz g h xs[j] (cq cs[j])):Frz g h y (fQ cs):=by
 rcases hw with⟨rfl,rfl⟩|⟨id,h1,hw⟩
 ·have:cs= []:=by grind
  subst this;exact .sl [] [] .full rfl abh abp
 ·have hsz:∀i (h1:i<xs.length),xs[i].cells.length=5:=fun i h1=>hw.rd.1 _ abp
  refine hw.frz (hg.none h1) abi (fun i h1 h2=>by rw[hsz i h1,aa8];rfl) fun i h1 h2 j h3 h4=>?_
  have h2' :i<cs.length:=abh;have hf:=hx i h1 h2';have key:∀x y:AV,Frz g h x y→bx y=true→cI y=true→∀j (h3:j<x.cells.length) (h4:j<y.cells.length),Frz g h x.cells[j] y.cells[j]:=by
   intro x y hf ha hp j h3 h4;cases hf with
   |keep x hx=>exact .pure (mN hp _ (abc h4))
   |agg xs ys hn hr=>exact hr j h3 h4
   |_=>cases ha
  have e:(cs.map cq)[i]'h2=cq cs[i]:=abp;simp only[e]at h4⊢;exact key _ _ hf rfl (by simp only[cq,mG,cI,gJ,fZ,rS,Bool.and_true,Bool.true_and,Bool.and_eq_true];exact⟨bp (fun _=>rfl) _,bp (fun _=>rfl) _⟩) j h3 h4
theorem lB.frz{g h0 h:Heap}{ys:List AV}{y:AV}{cs:List aK}{i0:Nat}(ho:lB h0 h ys y cs i0)(hg:Ab.Sub g h0):Frz g h y (fQ cs):=by
 obtain⟨xs,a,b,c,d⟩:=ho;refine HW a hg b fun j h1 h2=>?_
 by_cases e:j=i0
 ·subst e;exact(d h1 h2).frz hg
 grind [CB]
theorem Ld{g h:Heap}(p:bI):∀x∈fO p,Frz g h x x:=fun x hx=>by
 refine .pure (mN (x:=aL p) (Ds p) x ?_);rw[Nq];exact hx
theorem CC{g h:Heap}{xs:List AV}(hx:∀x∈xs,Frz g h x x):∀i (h1:i<xs.length) (h2:i<xs.length),Frz g h xs[i] xs[i]:=fun i h1 _=>hx _ (abc h1)
theorem F9{g h:Heap}{ps bs cs ds:List AV}(n1:ps.length=bs.length)(n2:cs.length=ds.length)(h1:∀i (a:i<ps.length) (b:i<bs.length),Frz g h ps[i] bs[i])(h2:∀i (a:i<cs.length) (b:i<ds.length),Frz g h cs[i] ds[i]):
  ∀i (a:i<(ps++cs).length) (b:i<(bs++ds).length),Frz g h (ps++cs)[i] (bs++ds)[i]:=fun i a b=>by
 by_cases e:i<ps.length
 ·rw[List.getElem_append_left e,List.getElem_append_left abh];exact h1 i e abh
 ·rw[List.getElem_append_right abh,List.getElem_append_right abh]
  simp only[abb]at a b;have:=h2 (i - ps.length) abh abh;simp only[n1]at this⊢;exact abZ
theorem uh{g h:Heap}{s:an}{y1 y2 y3 y4:AV}(a:Frz g h y1 (fQ s.cases))(b:Frz g h y2 (jP s.reviews))(c:Frz g h y3 (kM s.notices))(d:Frz g h y4 (dR s.roles)):
  Frz g h (.agg ([.i s.tick,y1,y2,y3,y4]++fO s.policy++ [.i s.version])) (cJ s):=by
 refine .agg _ _ abp (F9 abp rfl (F9 rfl rfl (fun i h1 h2=>?_) (CC (Ld _))) (CC fun x hx=>by rw[List.mem_singleton.1 hx];exact .pure rfl))
 rcases i with _|_|_|_|_|i
 ·exact abC
 ·exact a
 ·exact b
 ·exact c
 ·exact d
 ·simp at h1;omega
theorem lB.rd{h0 h:Heap}{ys:List AV}{y:AV}{cs:List aK}{i0:Nat}(ho:lB h0 h ys y cs i0):zc h y cs:=by
 obtain⟨xs,a,b,c,d⟩:=ho;refine⟨xs,a.rd,b,fun j h1 h2=>?_⟩
 by_cases e:j=i0
 ·subst e
  obtain⟨f,l,e,a,b,_⟩:=d h1 h2;exact⟨f,l,e,a.rd,b.rd⟩
 grind [rdC]
theorem sk.rd{h0 h:Heap}{x:AV}{s:an}{i0:Nat}(ho:sk h0 h x s i0):RdS h x s:=by
 obtain⟨y1,y2,y3,y4,rfl,a,b,c,d,r⟩:=ho;exact⟨y1,y2,y3,y4,rfl,a.rd,b.rd,c.rd,d.rd⟩
end Go.Proofs.YtcochaoekecfdaaGreatDoor
namespace Go.Ab
open Go
theorem OwE.bJ{tb:TypeId}{h0 h1 h:Heap}{sz:Nat}{y:AV}{xs:List AV}(hw:OwE tb h1 h sz y xs)(hs:∀i,h1 i=Option.none→h0 i=Option.none):OwE tb h0 h sz y xs:=by
 rcases hw with hw|⟨id,e,hw⟩
 ·exact afc
 ·exact .inr ⟨id,hs _ e,hw⟩
end Go.Ab
namespace Go.Proofs.YtcochaoekecfdaaGreatDoor
open Go Go.Ab Go.Bf
theorem fc.bJ{g h0 h:Heap}{ys:List AV}{x:AV}{c:aK}(hm:fc h0 h ys x c)(hg:∀i,h0 i=none→g i=none):fc g h ys x c:=by
 obtain⟨f,l,e,a,b,c⟩:=hm;exact⟨f,l,e,a.bJ hg,b.bJ hg,c⟩
theorem lB.bJ{g h0 h:Heap}{ys:List AV}{y:AV}{cs:List aK}{i0:Nat}(ho:lB h0 h ys y cs i0)(hg:∀i,h0 i=none→g i=none):lB g h ys y cs i0:=by
 obtain⟨xs,a,b,c,d⟩:=ho;exact⟨xs,a.bJ hg,b,c,fun h1 h2=>(d h1 h2).bJ hg⟩
theorem sk.bJ{g h0 h:Heap}{x:AV}{s:an}{i0:Nat}(ho:sk h0 h x s i0)(hg:∀i,h0 i=none→g i=none):sk g h x s i0:=by
 obtain⟨y1,y2,y3,y4,e,a,b,c,d,r⟩:=ho;exact⟨y1,y2,y3,y4,e,a.bJ hg,b.bJ hg,c.bJ hg,d.bJ hg,r⟩
theorem oJ{g K:Heap}{S:an}{j:Nat}{y1 y2 y3 y4:AV}{tk ver palg:Int}{pid:Txt}{pset:Bool}{ptgt:fU}{prules:List cM}{pkids:List bI}{pobls:List cC}(h1:S.tick=tk)(h2:S.policy= .mk pid pset palg ptgt prules pkids pobls)(h3:S.version=ver)
  (a:lB g K [y1,y2,y3,y4] y1 S.cases j) (b:OwE 143 g K 7 y2 (S.reviews.map iu)) (c:OwE 146 g K 3 y3 (S.notices.map mu)) (d:OwE 149 g K 2 y4 (S.roles.map dZ)) (ap:apart y1 y2∧apart y1 y3∧apart y1 y4∧apart y2 y3∧apart y2 y4∧apart y3 y4):
  sk g K (.agg [.i tk,y1,y2,y3,y4,.s pid,.b pset,.i palg,aU ptgt,.sl (prules.map aC) .no,.sl (pkids.map aL) .no,aA pobls,.i ver]) S j:=by
 refine⟨y1,y2,y3,y4,?_,a,b,c,d,ap⟩;rw[h1,h2,h3,show fO (.mk pid pset palg ptgt prules pkids pobls)= [.s pid,.b pset,.i palg,aU ptgt,.sl (prules.map aC) .no,.sl (pkids.map aL) .no,aA pobls] by simp[fO,aW]]
 rfl
theorem lB.move{h0 h h' :Heap}{ys ys' :List AV}{y z:AV}{cs:List aK}{i0:Nat}(ho:lB h0 h ys y cs i0)(hz:z∈ys)(hy:apart y z)(hk:∀id,h0 id=none→h id≠none→nid z≠some id→h' id=h id)
  (hr:∀y'∈ys',∀k,nid y' =some k→h k=none∨∃w∈ys,nid w=some k):lB h0 h' ys' y cs i0:=by
 obtain⟨xs,a,b,c,d⟩:=ho;refine⟨xs,a.keep fun id e=>hk id (a.nid e).1 (a.nid e).2.1 (hy id e),b,c,fun h1 h2=>?_⟩
 obtain⟨f,l,e,of,ol,hap,hys⟩:=d h1 h2;refine⟨f,l,e,of.keep fun id e=>hk id (of.nid e).1 (of.nid e).2.1 ((hys z hz).1 id e),ol.keep fun id e=>hk id (ol.nid e).1 (ol.nid e).2.1 ((hys z hz).2 id e),hap,fun w hw=>⟨fun k e1 e2=>?_,fun k e1 e2=>?_⟩⟩
 ·rcases hr w hw k e2 with hn|⟨v,hv,e3⟩
  ·exact(of.nid e1).2.1 hn
  ·exact(hys v hv).1 k e1 e3
 ·rcases hr w hw k e2 with hn|⟨v,hv,e3⟩
  ·exact(ol.nid e1).2.1 hn
  ·exact(hys v hv).2 k e1 e3
theorem Np{g K:Heap}{r X:AV}{A B:List aK}{C:aK}{ys:List AV}{j:Nat}(hj:A.length=j)(hw:OwE 134 g K 5 r (A.map cq++([X]++B.map cq)))(hX:fc g K ys X C):lB g K ys r (A++ [C]++B) j:=by
 refine⟨_,hw,abp,fun k h1 h2 hk=>?_,fun h1 h2=>?_⟩
 ·grind
 grind
theorem BD{g K:Heap}{z:AV}{xs:List AV}{cs:List aK}{j:Nat}{X:AV}{F:aK→aK}{ys:List AV}(hw:OwE 134 g K 5 z (xs.set j X))(hn:xs.length=cs.length)(hlo:∀k (h1:k<xs.length) (h2:k<cs.length),k≠j→xs[k]=cq cs[k])(hX:∀h:j<cs.length,fc g K ys X (F cs[j])):lB g K ys z (cs.modify j F) j:=by
 refine⟨_,hw,abi,fun k h1 h2 e=>?_,fun h1 h2=>?_⟩
 ·grind
 grind
theorem sI{xs:List AV}{j:Nat}(hj:j<xs.length)(x:AV):aq (xs.set j x)=aq (xs.take j)++(x.cells++aq (xs.drop (j+1))):=by
 simp_all [List.set_eq_take_append_cons_drop,if_pos,lJ,aq]
theorem Bl{xs:List AV}{j:Nat}(hj:j<xs.length):aq xs=aq (xs.take j)++(xs[j].cells++aq (xs.drop (j+1))):=by
 grind [sI,List.set_getElem_self]
theorem yC{s:an}{o:OpD}(h:bL s o=0)(hk:o.kind=3∨o.kind=4):bX s.cases o.case=true:=by
 grind [bX,bL,bW]
theorem J3{g:Heap}{x:AV}{s:an}(hb:RdS g x s)(o:OpD)(hf:Few s)(hp:mc 1 s.policy)(hr:i64 o.review)(ht:i64 s.tick)(hver:0≤s.version∧s.version≤1000000)(he:lu g):
  ai Tryz.prog 74 [x,opA o] g fun r h' =>Ab.Sub g h'∧∃j,sk g h' r (dN aP s o) j∧(bL s o=0→j=findD s.cases o.case):=by
 obtain⟨i0,ei0⟩:∃i0,(if o.kind=1 then s.cases.length else findD s.cases o.case)=i0:=⟨_,rfl⟩
 have hown:=fun(G:Heap) (hG:Ab.Sub g G)=>Qr (hb.sub hG) i0 hf hp
 have hrdy:=fun(G:Heap) (hG:Ab.Sub g G)=>DB (hb.sub hG) o hf hr ht
 obtain⟨y1,y2,y3,y4,rfl,hb'⟩:=hb;cases hpp:s.policy with
 |mk pid pset palg ptgt prules pkids pobls=>
 have hcC:fO (.mk pid pset palg ptgt prules pkids pobls)= [.s pid,.v (.bool pset),.v (.int .i64 palg),aU ptgt,.sl (prules.map aC) .no,.sl (pkids.map aL) .no,aA pobls]:=aej;rw[hpp,hcC]at hown hrdy;simp only[opA,opC,List.cons_append,List.nil_append]at hown hrdy;refine abg Tryz.func74 138 [.cell 4 67] fun hwf=>?_
 simp only[go_sem,hcC,opA,opC,List.cons_append,List.nil_append];intro i2 h2;simp only[go_sem];intro i3 h3;have n32:=aH h3;have h3' :=aB h3;simp only[go_sem];intro i4 h4;have n43:=aH h4;have h4a:=aB h4;have n42:=aH h4a;have h4' :=aB h4a;simp only[go_sem,aj,n32.symm,n42.symm];obtain⟨H,eH⟩:∃H,upd (upd (upd g i2 (some (.obj [.v (.int .i64 s.tick),y1,y2,y3,y4,.s pid,.v (.bool pset),.v (.int .i64 palg),aU ptgt,.sl (prules.map aC) .no,.sl (pkids.map aL) .no,aA pobls,.v (.int .i64 s.version)] 67))) i3 (some (.obj (opC o) 32))) i4 (some (.obj [.v (.int .i64 0),.sl [] .full,.sl [] .full,.sl [] .full,.sl [] .full,.s [],.v (.bool false),.v (.int .i64 0),.sl [] .full,.sl [] .full,.sl [] .full,.sl [] .full,.v (.int .i64 0)] 67))=H:=⟨_,rfl⟩;have hH:Ab.Sub g H:=by rw[←eH];exact(((Sub.refl g).put h2 _).put h3' _).put h4' _
 have g2:H i2=some (.obj [.v (.int .i64 s.tick),y1,y2,y3,y4,.s pid,.v (.bool pset),.v (.int .i64 palg),aU ptgt,.sl (prules.map aC) .no,.sl (pkids.map aL) .no,aA pobls,.v (.int .i64 s.version)] 67):=by rw[←eH,ag _ _ n42.symm,ag _ _ n32.symm,ah]
 have g3:H i3=some (.obj (opC o) 32):=by rw[←eH,ag _ _ n43.symm,ah]
 have g4:H i4=some (.obj [.v (.int .i64 0),.sl [] .full,.sl [] .full,.sl [] .full,.sl [] .full,.s [],.v (.bool false),.v (.int .i64 0),.sl [] .full,.sl [] .full,.sl [] .full,.sl [] .full,.v (.int .i64 0)] 67):=acJ;simp only[opC]at eH g3;rw[eH];clear eH;refine(hown H hH).mono fun r H1 ⟨hS,s1⟩=>?_
 obtain⟨z1,z2,z3,z4,er,hS1⟩:=id hS;subst er;rw[hpp,hcC]at hS⊢;obtain⟨hC,w2,w3,w4,a12,a13,a14,a23,a24,a34⟩:=hS1;obtain⟨xs,w1,hnx,hlo,hmy⟩:=id hC;simp only[go_sem,List.cons_append,List.nil_append];intro i5 h5;simp only[go_sem];have q2:=s1 _ _ g2;have q3:=s1 _ _ g3;have q4:=s1 _ _ g4;have n52:i2≠i5:=fun e=>by rw[←e,q2]at h5;cases h5
 have n53:i3≠i5:=fun e=>by rw[←e,q3]at h5;cases h5
 have n54:i4≠i5:=fun e=>by rw[←e,q4]at h5;cases h5
 obtain⟨K,eK⟩:∃K,upd H1 i5 (some (.obj [.v (.int .i64 s.tick),z1,z2,z3,z4,.s pid,.v (.bool pset),.v (.int .i64 palg),aU ptgt,.sl (prules.map aC) .no,.sl (pkids.map aL) .no,aA pobls,.v (.int .i64 s.version)] 67))=K:=⟨_,rfl⟩;have sK:Ab.Sub H1 K:=by rw[←eK];exact .ak h5
 have k5:K i5=some (.obj [.v (.int .i64 s.tick),z1,z2,z3,z4,.s pid,.v (.bool pset),.v (.int .i64 palg),aU ptgt,.sl (prules.map aC) .no,.sl (pkids.map aL) .no,aA pobls,.v (.int .i64 s.version)] 67):=by rw[←eK,ah]
 rw[eK];have hz5:∀k,H k=none→H1 k≠none→k≠i5:=fun k _ hk e=>hk (by rw[e];exact h5)
 have k2:=sK _ _ q2;have k3:=sK _ _ q3;have k4:=sK _ _ q4;clear eK;have sg:Ab.Sub g K:=hH.trans (s1.trans sK);simp only[go_sem,k2,k3];refine(hrdy K sg).pthen ?_;have g5:g i5=none:=(hH.trans s1).none h5;have kK:∀k,H1 k≠none→K k=H1 k:=fun k hk=>by
  cases e:H1 k with
  |none=>exact(hk e).elim
  |some b=>exact sK _ _ e
 have hz4:∀k,H k=none→k≠i4:=fun k hk e=>by rw[e,g4]at hk;cases hk
 by_cases p0:bL s o=0
 ·have d0:(bL s o !=0)=false:=by simp[p0]
  simp only[go_sem,d0];simp only[go_sem,k5,k3];have hSK:sk H K (.agg ([.v (.int .i64 s.tick),z1,z2,z3,z4]++fO s.policy++ [.v (.int .i64 s.version)])) s i0:=by
   rw[hpp,hcC];exact hS.keepb fun k _ hk=>kK k hk
  have hfi:=Bk hSK.rd o.case hf.cases;rw[hpp,hcC]at hfi;simp only[List.cons_append,List.nil_append]at hfi;refine hfi.pthen ?_;simp only[go_sem,k3];have hform:dj o=true:=by
   cases e:dj o
   ·simp[bL,e]at p0
   ·rfl
  have hdone:dN aP s o=doD aP s o:=by simp[dN,p0]
  rw[hdone]
  by_cases p1:o.kind=1
  ·have k1:(o.kind==1)=true:=by simp[p1]
   simp only[go_sem,k1];simp only[go_sem,k3];intro i8 h8;have n82:i2≠i8:=fun e=>by rw[←e,k2]at h8;cases h8
   have n83:i3≠i8:=fun e=>by rw[←e,k3]at h8;cases h8
   have n84:i4≠i8:=fun e=>by rw[←e,k4]at h8;cases h8
   have n85:i5≠i8:=fun e=>by rw[←e,k5]at h8;cases h8
   simp only[go_sem];obtain⟨K2,eK2⟩:∃K2,upd K i8 (some (.obj [.s o.case,.s o.subj,.s [111,112,101,110],.sl [] .full,.sl [] .full] 134))=K2:=⟨_,rfl⟩;have sK2:Ab.Sub K K2:=by rw[←eK2];exact .ak h8
   have e8:K2 i8=some (.obj [.s o.case,.s o.subj,.s [111,112,101,110],.sl [] .full,.sl [] .full] 134):=by rw[←eK2,ah]
   rw[eK2];clear eK2;have m3:=sK2 _ _ k3;have m4:=sK2 _ _ k4;have m5:=sK2 _ _ k5;simp only[go_sem,m3,m5];have hha:=rN (h0:=H) (s:=s) z1 z2 z3 z4 (k:=i8) (o:=0) (A:=[]) (B:=[]) (t:=134) (c:=⟨o.case,o.subj,jj,[],[]⟩) (f:=.sl [] .full) (l:=.sl [] .full) rfl e8 abk (.inl ⟨rfl,rfl⟩) (s1.trans (sK.trans sK2)) (Nat.zero_le _) o.subj [110,101,119];rw[hpp,hcC]at hha;simp only[List.cons_append,List.nil_append]at hha;refine hha.mono fun r K3 ⟨l',ol,e8',fr3,ap3⟩=>?_
   have kK3:∀k,K2 k≠none→k≠i8→K3 k=K2 k:=fun k hk hk8=>fr3 k hk hk8 (by simp[nid])
   have m3' :K3 i3=_:=(kK3 i3 (by rw[m3];simp) n83).trans m3
   have m4' :K3 i4=_:=(kK3 i4 (by rw[m4];simp) n84).trans m4
   have m5' :K3 i5=_:=(kK3 i5 (by rw[m5];simp) n85).trans m5
   simp only[bZ,List.append_nil]at e8';simp only[go_sem];simp only[go_sem,m5',e8'];have kk2:∀k,H1 k≠none→K2 k=H1 k:=fun k hk=>by
    have:=kK k hk;cases e:K k with
    |none=>rw[e]at this;exact(hk this.symm).elim
    |some b=>rw[sK2 _ _ e,←e,this]
   have k8:∀k,H1 k≠none→k≠i8:=fun k hk e=>hk (by have:=kK k hk;rw[e,h8]at this;rw[e];exact this.symm)
   have kk3:∀k,H1 k≠none→K3 k=H1 k:=fun k hk=>(kK3 k (by rw[kk2 k hk];exact hk) (k8 k hk)).trans (kk2 k hk)
   have sH3:Ab.Sub H1 K3:=fun k b hk=>by rw[kk3 k (by rw[hk];simp)];exact hk
   have hfl:findD s.cases o.case≤s.cases.length:=List.findIdx_le_length;have hfc:=hf.cases;refine(ET z1 xs (.agg [.s o.case,.s o.subj,.s jj,.sl [] .full,l']) (findD s.cases o.case) H K3 (w1.keepb fun k _ hk=>kk3 k hk) (s1.trans sH3) abh abh rfl (by simp[Ab.fit])).mono fun r K4 ⟨ow5,fr4,ap4⟩=>?_
   have m4'' :K4 i4=_:=(fr4 i4 (by rw[m4'];simp) (fun e=>by have:=(w1.nid e).1;rw[g4]at this;cases this)).trans m4'
   have m5'' :K4 i5=_:=(fr4 i5 (by rw[m5'];simp) (fun e=>(w1.nid e).2.1 h5)).trans m5'
   simp only[go_sem,m5'',ow5.rd.fit,ow5.rd.cells];simp only[go_sem,aj,n54,m4''];have hi0:i0=s.cases.length:=by rw[←ei0,if_pos p1]
   have hxs:xs=s.cases.map cq:=List.ext_getElem (by simpa using hnx) fun j a b=>by rw[hlo j a abh abh,aa8]
   have kk4:∀k,H1 k≠none→nid z1≠some k→K4 k=H1 k:=fun k hk hz=>(fr4 k (by rw[kk3 k hk];exact hk) hz).trans (kk3 k hk)
   obtain⟨K5,eK5⟩:∃K5,upd (upd K4 i5 (some (.obj [.v (.int .i64 s.tick),r,z2,z3,z4,.s pid,.v (.bool pset),.v (.int .i64 palg),aU ptgt,.sl (prules.map aC) .no,.sl (pkids.map aL) .no,aA pobls,.v (.int .i64 s.version)] 67))) i4 (some (.obj [.v (.int .i64 s.tick),r,z2,z3,z4,.s pid,.v (.bool pset),.v (.int .i64 palg),aU ptgt,.sl (prules.map aC) .no,.sl (pkids.map aL) .no,aA pobls,.v (.int .i64 s.version)] 67))=K5:=⟨_,rfl⟩;rw[eK5];have o5:∀k,k≠i4→k≠i5→K5 k=K4 k:=fun k a b=>by rw[←eK5,ag _ _ a,ag _ _ b]
   have kk5:∀k,H k=none→H1 k≠none→nid z1≠some k→K5 k=H1 k:=fun k a b c=>(o5 k (hz4 k a) (hz5 k a b)).trans (kk4 k b c)
   have ow:OwE 134 H K5 5 r (List.take (findD s.cases o.case) xs++([.agg [.s o.case,.s o.subj,.s jj,.sl [] .full,l']]++List.drop (findD s.cases o.case) xs)):=ow5.keep fun id e=>o5 id (hz4 id (ow5.nid e).1) fun e5=>by
    subst e5;rcases ap4 _ e with h|h
    ·rw[m5']at h;cases h
    ·exact(w1.nid h).2.1 h5
   have ol5:OwE 205 H K5 3 l' _:=ol.keep fun id e=>by
    have h2n:K2 id=none:=(ap3 id e).resolve_right (by simp[nid])
    have hz:nid z1≠some id:=fun e1=>by
     have:=kk2 id (w1.nid e1).2.1;rw[h2n]at this;exact(w1.nid e1).2.1 this.symm
    rw[o5 id (hz4 id (ol.nid e).1) (fun e5=>by rw[e5,m5]at h2n;cases h2n),fr4 id (ol.nid e).2.1 hz]
   have hmc:fc H K5 [] (.agg [.s o.case,.s o.subj,.s jj,.sl [] .full,l']) (iU s ⟨o.case,o.subj,jj,[],[]⟩ o.subj [110,101,119]):=⟨.sl [] .full,l',rfl,.inl ⟨rfl,rfl⟩,ol5,(fun i e=>abI),fun y hy=>by cases hy⟩
   have sg4:Ab.Sub g K4:=fun k b hk=>by
    have h1:=hH _ _ hk;have h2:=s1 _ _ h1;rw[kk4 k (by rw[h2];simp) (fun e=>by have:=(w1.nid e).1;rw[h1]at this;cases this)]
    exact afl
   have sg5:Ab.Sub g K5:=by rw[←eK5];exact(sg4.put g5 _).put h4' _
   have hdo:doD aP s o= {s with cases:=s.cases.take (findD s.cases o.case)++ [iU s ⟨o.case,o.subj,jj,[],[]⟩ o.subj [110,101,119]]++s.cases.drop (findD s.cases o.case)}:=by simp[doD,p1]
   refine .mk _ (.refl _) (.refl _) ⟨sg5,_,?_,fun _=>rfl⟩
   rw[hdo];have apr:∀k,nid r=some k→H1 k=none∨nid z1=some k:=fun k e=>(ap4 k e).imp (fun h=>sH3.none h) id
   have hro:∀ {w:AV},apart z1 w→(∀k,nid w=some k→H1 k≠none)→apart r w:=fun ha hw k e1 e2=>(apr k e1).elim (fun h=>hw k e2 h) (fun h=>ha k h e2)
   have hl0:∀k,nid l' =some k→H1 k=none:=fun k e=>(sK.trans sK2).none ((ap3 k e).resolve_right (by simp[nid]))
   have hlr:apart l' r:=fun k e1 e2=>(ap4 k e2).elim (fun h=>(ol.nid e1).2.1 h) (fun h=>(w1.nid h).2.1 (hl0 k e1))
   rw[hxs,←List.map_take,←List.map_drop]at ow;refine oJ rfl hpp rfl (Np adg (ow.bJ (fun _ e=>hH.none e)) ⟨.sl [] .full,l',rfl,.inl ⟨rfl,rfl⟩,ol5.bJ (fun _ e=>hH.none e),(fun i e=>abI),fun y hy=>⟨(fun i e=>abI),?_⟩⟩) ((w2.keep fun id e=>kk5 id (w2.nid e).1 (w2.nid e).2.1 fun e1=>a12 id e1 e).bJ fun _ e=>hH.none e) ((w3.keep fun id e=>kk5 id (w3.nid e).1 (w3.nid e).2.1 fun e1=>a13 id e1 e).bJ fun _ e=>hH.none e) ((w4.keep fun id e=>kk5 id (w4.nid e).1 (w4.nid e).2.1 fun e1=>a14 id e1 e).bJ fun _ e=>hH.none e) ⟨hro a12 fun k e=>(w2.nid e).2.1,hro a13 fun k e=>(w3.nid e).2.1,hro a14 fun k e=>(w4.nid e).2.1,a23,a24,a34⟩
   simp only[List.mem_cons,List.not_mem_nil,or_false]at hy;rcases hy with rfl|rfl|rfl|rfl
   ·exact hlr
   ·exact fun k e1 e2=>(w2.nid e2).2.1 (hl0 k e1)
   ·exact fun k e1 e2=>(w3.nid e2).2.1 (hl0 k e1)
   ·exact fun k e1 e2=>(w4.nid e2).2.1 (hl0 k e1)
  have k1:(o.kind==1)=false:=by simp[p1]
  have hi0:i0=findD s.cases o.case:=by rw[←ei0,if_neg p1]
  simp only[go_sem,k1]
  by_cases p3:o.kind=3
  ·have k3' :(o.kind==3)=true:=by simp[p3]
   simp only[go_sem,k3'];have hth:=yC p0 (.inl p3);have hlt:=jk hth;obtain⟨j,ej⟩:∃j,findD s.cases o.case=j:=⟨_,rfl⟩;have hj:j<s.cases.length:=by rw[←ej];exact hlt
   have hjx:j<xs.length:=abh;rw[ej]at hi0;subst hi0;obtain⟨f,l,ex,of,ol,hap,hys⟩:=hmy hjx hj;obtain⟨id1,hg1,o1⟩:=w1.ow ad9;have o1' :=o1;obtain⟨cap,rest,ey,hid,hrl,hcap,hsz⟩:=o1';have lA:i0*5=(aq (xs.take i0)).length:=acm;have hidK:K id1=some (.obj (aq (xs.take i0)++(bZ s.cases[i0] f l++(aq (xs.drop (i0+1))++rest))) 134):=by
    rw[sK _ _ hid,Bl hjx,ex];simp[bZ,AV.cells]
   have n14:id1≠i4:=hz4 id1 hg1;have n13:id1≠i3:=fun e=>by rw[e,g3]at hg1;cases hg1
   have n15:id1≠i5:=fun e=>o1.none (by rw[e];exact h5)
   have nf4:∀k,nid f=some k→k≠i3∧k≠i4∧k≠i5∧k≠id1:=fun k e=>⟨(fun e' =>ad3),hz4 k (of.nid e).1,hz5 k (of.nid e).1 (of.nid e).2.1,fun e' =>(hys z1 abp).1 k e aeJ⟩
   have nl4:∀k,nid l=some k→k≠i3∧k≠i4∧k≠i5∧k≠id1:=fun k e=>⟨(fun e' =>ad4),hz4 k (ol.nid e).1,hz5 k (ol.nid e).1 (ol.nid e).2.1,fun e' =>(hys z1 abp).2 k e aeJ⟩
   have hff:=hf.fields _ (abc hj);have hfl:=hf.log _ (abc hj);rw[ej];refine .calls (pick K [i3,i5]) [0,1,2,3,4,5,6,7,8] bw abl rfl ?_;simp only[go_sem,bz (show i5∈ [i3,i5] by simp),k3,k5]
   refine(o1.sub sK).idx (U:=U) (e:=134) i0 rfl hjx mT abk ?_;simp only[go_sem,bz (show i3∈ [i3,i5] by simp),k3,k5]
   refine(show ai Tryz.prog 136 [.ptr id1 (i0*5),.s o.field,.agg [.v (.int .i64 o.val.kind),.v (.int .i64 o.val.n),.s o.val.s]] K _ from L1 lA hidK abk (of.sub sK) (s1.trans sK) hff o.field o.val).mono fun r K3 ⟨f',of',e1',fr3,ap3⟩=>?_
   have kk3:∀k,H1 k≠none→k≠id1→nid f≠some k→K3 k=H1 k:=fun k a b c=>(fr3 k (by rw[kK k a];exact a) b c).trans (kK k a)
   have m3:K3 i3=_:=(fr3 i3 (by rw[k3];simp) n13.symm fun e=>(nf4 _ e).1 rfl).trans k3
   have m4:K3 i4=_:=(fr3 i4 (by rw[k4];simp) n14.symm fun e=>(nf4 _ e).2.1 rfl).trans k4
   have m5:K3 i5=_:=(fr3 i5 (by rw[k5];simp) n15.symm fun e=>(nf4 _ e).2.2.1 rfl).trans k5
   refine⟨iq fun k hk=>?_,?_⟩
   ·simp only[List.mem_cons,List.not_mem_nil,or_false]at hk
    rcases hk with rfl|rfl
    ·rw[m3,k3]
    ·rw[m5,k5]
   simp only[go_sem];have sH3:Ab.Sub H K3:=fun k b hk=>abU
   have ol3:OwE 205 H K3 3 l (s.cases[i0].log.map ig):=ol.keep fun k e=>kk3 k (ol.nid e).2.1 (nl4 k e).2.2.2 (fun e1=>hap k e1 e)
   have hX5:∀y1 y2:AV,Sized 5 (xs.set i0 (.agg (bZ s.cases[i0] y1 y2))):=fun y1 y2 z hz=>by
    exact af2
   have mkO:∀ {G:Heap} {y1 y2:AV},G id1=some (.obj (aq (xs.take i0)++(bZ s.cases[i0] y1 y2++(aq (xs.drop (i0+1))++rest))) 134)→Ow 134 G 5 id1 z1 (xs.set i0 (.agg (bZ s.cases[i0] y1 y2))):=fun {G y1 y2} hG=>⟨cap,rest,adz,by rw[hG,sI hjx];simp[AV.cells],aeo,ads,hX5 _ _⟩
   have hjs:∀x:AV,i0<(xs.set i0 x).length:=fun x=>by rw[List.length_set];exact hjx
   refine .calls (pick K3 [i3,i5]) [0,1,2,3,4,5,6,7] bw abl rfl ?_;simp only[go_sem,bz (show i5∈ [i3,i5] by simp),m3,m5]
   refine(mkO e1').idx (U:=U) (e:=134) i0 rfl (hjs _) mT abk ?_;simp only[go_sem,bz (show i3∈ [i3,i5] by simp),m3,m5]
   have hha:=rN (h0:=H) (h:=K3) (s:=s) z1 z2 z3 z4 (k:=id1) (c:=s.cases[i0]) (f:=f') (l:=l) lA e1' abk ol3 sH3 hfl o.subj [119,114,105,116,101];rw[hpp,hcC]at hha;simp only[List.cons_append,List.nil_append]at hha;refine hha.mono fun r K4 ⟨l',ol',e1'',fr4,ap4⟩=>?_
   have m3' :K4 i3=_:=(fr4 i3 (by rw[m3];simp) n13.symm fun e=>(nl4 _ e).1 rfl).trans m3
   have m4' :K4 i4=_:=(fr4 i4 (by rw[m4];simp) n14.symm fun e=>(nl4 _ e).2.1 rfl).trans m4
   have m5' :K4 i5=_:=(fr4 i5 (by rw[m5];simp) n15.symm fun e=>(nl4 _ e).2.2.1 rfl).trans m5
   refine⟨iq fun k hk=>?_,?_⟩
   ·simp only[List.mem_cons,List.not_mem_nil,or_false]at hk
    rcases hk with rfl|rfl
    ·rw[m3',m3]
    ·rw[m5',m5]
   simp only[go_sem];simp only[go_sem,m5',m4'];obtain⟨K5,eK5⟩:∃K5,upd K4 i4 (some (.obj [.v (.int .i64 s.tick),z1,z2,z3,z4,.s pid,.v (.bool pset),.v (.int .i64 palg),aU ptgt,.sl (prules.map aC) .no,.sl (pkids.map aL) .no,aA pobls,.v (.int .i64 s.version)] 67))=K5:=⟨_,rfl⟩;rw[eK5];have o5:∀k,k≠i4→K5 k=K4 k:=fun k a=>by rw[←eK5,ag _ _ a]
   have kk5:∀k,H k=none→H1 k≠none→k≠id1→nid f≠some k→nid l≠some k→K5 k=H1 k:=fun k a b c d e=>by
    exact ag5
   have of5:OwE 215 H K5 4 f' _:=of'.keep fun id e=>by
    exact afI
   have ol5:OwE 205 H K5 3 l' _:=ol'.keep fun id e=>o5 id (hz4 id (ol'.nid e).1)
   have sg4:Ab.Sub g K4:=fun k b hk=>by
    exact agb
   have sg5:Ab.Sub g K5:=by rw[←eK5];exact sg4.put h4' _
   have n1' :nid z1=some id1:=o1.nid;have hdo:doD aP s o= {s with cases:=s.cases.modify i0 fun c=>iU s {c with fields:=eT c.fields o.field o.val} o.subj [119,114,105,116,101]}:=by simp[doD,p3,ej]
   refine .mk _ (.refl _) (.refl _) ⟨sg5,_,?_,fun _=>rfl⟩
   rw[hdo];have thr:∀w∈ [z1,z2,z3,z4],∀k,nid w=some k→H1 k≠none:=fun w hw k e=>by
    exact af8
   refine oJ rfl hpp rfl ?_ ((w2.keep fun id e=>kk5 id (w2.nid e).1 (w2.nid e).2.1 (fun e1=>a12 id1 n1' ad0) (fun e1=>(hys z2 abp).1 id e1 e) (fun e1=>(hys z2 abp).2 id e1 e)).bJ fun _ e=>hH.none e) ((w3.keep fun id e=>kk5 id (w3.nid e).1 (w3.nid e).2.1 (fun e1=>a13 id1 n1' ad0) (fun e1=>(hys z3 abp).1 id e1 e) (fun e1=>(hys z3 abp).2 id e1 e)).bJ fun _ e=>hH.none e) ((w4.keep fun id e=>kk5 id (w4.nid e).1 (w4.nid e).2.1 (fun e1=>a14 id1 n1' ad0) (fun e1=>(hys z4 abp).1 id e1 e) (fun e1=>(hys z4 abp).2 id e1 e)).bJ fun _ e=>hH.none e) ⟨a12,a13,a14,a23,a24,a34⟩
   refine BD (X:=.agg (bZ s.cases[i0] f' l')) ((show OwE 134 H K5 5 z1 _ from .inr ⟨id1,hg1,mkO ((o5 id1 n14).trans e1'')⟩).bJ (fun _ e=>hH.none e)) hnx (fun k h1 h2 hk=>hlo k h1 h2 hk) fun hh=>⟨f',l',rfl,of5.bJ (fun _ e=>hH.none e),ol5.bJ (fun _ e=>hH.none e),fun k e1 e2=>?_,fun w hw=>⟨fun k e1 e2=>?_,fun k e1 e2=>?_⟩⟩
   ·rcases ap4 k e2 with h|h
    ·exact(of'.nid e1).2.1 h
    ·rcases ap3 k e1 with h' |h'
     ·exact(ol.nid h).2.1 (sK.none h')
     ·exact hap k h' h
   ·rcases ap3 k e1 with h|h
    ·exact thr w hw k e2 (sK.none h)
    ·exact(hys w hw).1 k h e2
   ·rcases ap4 k e1 with h|h
    ·by_cases h1:k=id1
     ·subst h1;rw[e1']at h;cases h
     ·have:=kk3 k (thr w hw k e2) h1 (fun e=>(hys w hw).1 k e e2)
      rw[h]at this;exact thr w hw k e2 this.symm
    ·exact(hys w hw).2 k h e2
  have k3' :(o.kind==3)=false:=by simp[p3]
  simp only[go_sem,k3']
  by_cases p4:o.kind=4
  ·have k4' :(o.kind==4)=true:=by simp[p4]
   simp only[go_sem,k4'];have hth:=yC p0 (.inr p4);have hlt:=jk hth;obtain⟨j,ej⟩:∃j,findD s.cases o.case=j:=⟨_,rfl⟩;have hj:j<s.cases.length:=by rw[←ej];exact hlt
   have hjx:j<xs.length:=abh;rw[ej]at hi0;subst hi0;obtain⟨f,l,ex,of,ol,hap,hys⟩:=hmy hjx hj;obtain⟨id1,hg1,o1⟩:=w1.ow ad9;have o1' :=o1;obtain⟨cap,rest,ey,hid,hrl,hcap,hsz⟩:=o1';have lA:i0*5=(aq (xs.take i0)).length:=acm;have hidK:K id1=some (.obj (aq (xs.take i0)++(bZ s.cases[i0] f l++(aq (xs.drop (i0+1))++rest))) 134):=by
    rw[sK _ _ hid,Bl hjx,ex];simp[bZ,AV.cells]
   have n14:id1≠i4:=hz4 id1 hg1;have n13:id1≠i3:=fun e=>by rw[e,g3]at hg1;cases hg1
   have n15:id1≠i5:=fun e=>o1.none (by rw[e];exact h5)
   have nf4:∀k,nid f=some k→k≠i3∧k≠i4∧k≠i5∧k≠id1:=fun k e=>⟨(fun e' =>ad3),hz4 k (of.nid e).1,hz5 k (of.nid e).1 (of.nid e).2.1,fun e' =>(hys z1 abp).1 k e aeJ⟩
   have nl4:∀k,nid l=some k→k≠i3∧k≠i4∧k≠i5∧k≠id1:=fun k e=>⟨(fun e' =>ad4),hz4 k (ol.nid e).1,hz5 k (ol.nid e).1 (ol.nid e).2.1,fun e' =>(hys z1 abp).2 k e aeJ⟩
   have hff:=hf.fields _ (abc hj);have hfl:=hf.log _ (abc hj);rw[ej];simp only[go_sem,k5,k3];refine(o1.sub sK).idx (U:=U) (e:=134) i0 rfl hjx mT abk ?_;simp only[go_sem,hidK];have e2:List.take (i0*5+2) (aq (xs.take i0)++(bZ s.cases[i0] f l++(aq (xs.drop (i0+1))++rest)))++ [.s o.to]++List.drop (i0*5+2+1) (aq (xs.take i0)++(bZ s.cases[i0] f l++(aq (xs.drop (i0+1))++rest)))=aq (xs.take i0)++(bZ {s.cases[i0]with state:=o.to} f l++(aq (xs.drop (i0+1))++rest)):=by
    have:=oC (A:=aq (xs.take i0)++ [.s s.cases[i0].id,.s s.cases[i0].owner]) (B:=[.s s.cases[i0].state]) (C:=f::l::(aq (xs.drop (i0+1))++rest)) (X:=[.s o.to]) (k:=i0*5+2) (m:=1) (by rw[lA];simp) rfl rfl
    exact ag1
   rw[e2];obtain⟨K3,eK3⟩:∃K3,upd K id1 (some (.obj (aq (xs.take i0)++(bZ {s.cases[i0]with state:=o.to} f l++(aq (xs.drop (i0+1))++rest))) 134))=K3:=⟨_,rfl⟩
   rw[eK3];refine⟨by simp only[abb,←lA,bZ,List.length_cons,List.length_nil];omega,?_⟩
   have e1' :K3 id1=some (.obj (aq (xs.take i0)++(bZ {s.cases[i0]with state:=o.to} f l++(aq (xs.drop (i0+1))++rest))) 134):=by rw[←eK3,ah]
   have fr3:∀k,K k≠none→k≠id1→nid f≠some k→K3 k=K k:=fun k _ hk _=>by rw[←eK3,ag _ _ hk]
   have ap3:∀k,nid f=some k→K k=none∨nid f=some k:=fun k hk=> .inr hk
   have kk3:∀k,H1 k≠none→k≠id1→nid f≠some k→K3 k=H1 k:=fun k a b c=>(fr3 k (by rw[kK k a];exact a) b c).trans (kK k a)
   have m3:K3 i3=_:=(fr3 i3 (by rw[k3];simp) n13.symm fun e=>(nf4 _ e).1 rfl).trans k3
   have m4:K3 i4=_:=(fr3 i4 (by rw[k4];simp) n14.symm fun e=>(nf4 _ e).2.1 rfl).trans k4
   have m5:K3 i5=_:=(fr3 i5 (by rw[k5];simp) n15.symm fun e=>(nf4 _ e).2.2.1 rfl).trans k5
   obtain⟨f',of',ef'⟩:∃f',OwE 215 H K3 4 f' (s.cases[i0].fields.map bM)∧f=f' :=⟨f,of.keep fun k e=>by rw[←eK3,ag _ _ (nf4 k e).2.2.2,kK k (of.nid e).2.1],rfl⟩
   rw[ef']at e1';replace ap3:∀k,nid f' =some k→K k=none∨nid f=some k:=by rw[←ef'];exact ap3
   have sH3:Ab.Sub H K3:=fun k b hk=>abU
   have ol3:OwE 205 H K3 3 l (s.cases[i0].log.map ig):=ol.keep fun k e=>kk3 k (ol.nid e).2.1 (nl4 k e).2.2.2 (fun e1=>hap k e1 e)
   have hX5:∀y1 y2:AV,Sized 5 (xs.set i0 (.agg (bZ ({s.cases[i0]with state:=o.to}:aK) y1 y2))):=fun y1 y2 z hz=>by
    exact af2
   have mkO:∀ {G:Heap} {y1 y2:AV},G id1=some (.obj (aq (xs.take i0)++(bZ ({s.cases[i0]with state:=o.to}:aK) y1 y2++(aq (xs.drop (i0+1))++rest))) 134)→Ow 134 G 5 id1 z1 (xs.set i0 (.agg (bZ ({s.cases[i0]with state:=o.to}:aK) y1 y2))):=fun {G y1 y2} hG=>⟨cap,rest,adz,by rw[hG,sI hjx];simp[AV.cells],aeo,ads,hX5 _ _⟩
   have hjs:∀x:AV,i0<(xs.set i0 x).length:=fun x=>by rw[List.length_set];exact hjx
   refine .calls (pick K3 [i3,i5]) [0,1,2,3,4,5,6,7,8,9] bw abl rfl ?_;simp only[go_sem,bz (show i5∈ [i3,i5] by simp),m3,m5]
   refine(mkO e1').idx (U:=U) (e:=134) i0 rfl (hjs _) mT abk ?_;simp only[go_sem,bz (show i3∈ [i3,i5] by simp),m3,m5]
   have hha:=rN (h0:=H) (h:=K3) (s:=s) z1 z2 z3 z4 (k:=id1) (c:=({s.cases[i0]with state:=o.to}:aK)) (f:=f') (l:=l) lA e1' abk ol3 sH3 hfl o.subj o.to
   rw[hpp,hcC]at hha;simp only[List.cons_append,List.nil_append]at hha;refine hha.mono fun r K4 ⟨l',ol',e1'',fr4,ap4⟩=>?_
   have m3' :K4 i3=_:=(fr4 i3 (by rw[m3];simp) n13.symm fun e=>(nl4 _ e).1 rfl).trans m3
   have m4' :K4 i4=_:=(fr4 i4 (by rw[m4];simp) n14.symm fun e=>(nl4 _ e).2.1 rfl).trans m4
   have m5' :K4 i5=_:=(fr4 i5 (by rw[m5];simp) n15.symm fun e=>(nl4 _ e).2.2.1 rfl).trans m5
   refine⟨iq fun k hk=>?_,?_⟩
   ·simp only[List.mem_cons,List.not_mem_nil,or_false]at hk
    rcases hk with rfl|rfl
    ·rw[m3',m3]
    ·rw[m5',m5]
   simp only[go_sem];simp only[go_sem,m5',m4'];obtain⟨K5,eK5⟩:∃K5,upd K4 i4 (some (.obj [.v (.int .i64 s.tick),z1,z2,z3,z4,.s pid,.v (.bool pset),.v (.int .i64 palg),aU ptgt,.sl (prules.map aC) .no,.sl (pkids.map aL) .no,aA pobls,.v (.int .i64 s.version)] 67))=K5:=⟨_,rfl⟩;rw[eK5];have o5:∀k,k≠i4→K5 k=K4 k:=fun k a=>by rw[←eK5,ag _ _ a]
   have kk5:∀k,H k=none→H1 k≠none→k≠id1→nid f≠some k→nid l≠some k→K5 k=H1 k:=fun k a b c d e=>by
    exact ag5
   have of5:OwE 215 H K5 4 f' _:=of'.keep fun id e=>by
    exact afI
   have ol5:OwE 205 H K5 3 l' _:=ol'.keep fun id e=>o5 id (hz4 id (ol'.nid e).1)
   have sg4:Ab.Sub g K4:=fun k b hk=>by
    exact agb
   have sg5:Ab.Sub g K5:=by rw[←eK5];exact sg4.put h4' _
   have n1' :nid z1=some id1:=o1.nid;have hdo:doD aP s o= {s with cases:=s.cases.modify i0 fun c=>iU s {c with state:=o.to} o.subj o.to}:=by simp[doD,p4,ej]
   refine .mk _ (.refl _) (.refl _) ⟨sg5,_,?_,fun _=>rfl⟩
   rw[hdo];have thr:∀w∈ [z1,z2,z3,z4],∀k,nid w=some k→H1 k≠none:=fun w hw k e=>by
    exact af8
   refine oJ rfl hpp rfl ?_ ((w2.keep fun id e=>kk5 id (w2.nid e).1 (w2.nid e).2.1 (fun e1=>a12 id1 n1' ad0) (fun e1=>(hys z2 abp).1 id e1 e) (fun e1=>(hys z2 abp).2 id e1 e)).bJ fun _ e=>hH.none e) ((w3.keep fun id e=>kk5 id (w3.nid e).1 (w3.nid e).2.1 (fun e1=>a13 id1 n1' ad0) (fun e1=>(hys z3 abp).1 id e1 e) (fun e1=>(hys z3 abp).2 id e1 e)).bJ fun _ e=>hH.none e) ((w4.keep fun id e=>kk5 id (w4.nid e).1 (w4.nid e).2.1 (fun e1=>a14 id1 n1' ad0) (fun e1=>(hys z4 abp).1 id e1 e) (fun e1=>(hys z4 abp).2 id e1 e)).bJ fun _ e=>hH.none e) ⟨a12,a13,a14,a23,a24,a34⟩
   refine BD (X:=.agg (bZ ({s.cases[i0]with state:=o.to}:aK) f' l')) ((show OwE 134 H K5 5 z1 _ from .inr ⟨id1,hg1,mkO ((o5 id1 n14).trans e1'')⟩).bJ (fun _ e=>hH.none e)) hnx (fun k h1 h2 hk=>hlo k h1 h2 hk) fun hh=>⟨f',l',rfl,of5.bJ (fun _ e=>hH.none e),ol5.bJ (fun _ e=>hH.none e),fun k e1 e2=>?_,fun w hw=>⟨fun k e1 e2=>?_,fun k e1 e2=>?_⟩⟩
   ·rcases ap4 k e2 with h|h
    ·exact(of'.nid e1).2.1 h
    ·rcases ap3 k e1 with h' |h'
     ·exact(ol.nid h).2.1 (sK.none h')
     ·exact hap k h' h
   ·rcases ap3 k e1 with h|h
    ·exact thr w hw k e2 (sK.none h)
    ·exact(hys w hw).1 k h e2
   ·rcases ap4 k e1 with h|h
    ·by_cases h1:k=id1
     ·subst h1;rw[e1']at h;cases h
     ·have:=kk3 k (thr w hw k e2) h1 (fun e=>(hys w hw).1 k e e2)
      rw[h]at this;exact thr w hw k e2 this.symm
    ·exact(hys w hw).2 k h e2
  have k4' :(o.kind==4)=false:=by simp[p4]
  simp only[go_sem,k4'];have kkK:∀k,H k=none→H1 k≠none→K k=H1 k:=fun k _ b=>kK k b
  by_cases p5:o.kind=5
  ·have k5' :(o.kind==5)=true:=by simp[p5]
   simp only[go_sem,k5'];have hrv:0<o.review:=by
    simp only[dj,dI,Bool.and_eq_true]at hform;simpa[okD,p5]using hform.2.1.2
   obtain⟨n,en⟩:∃n:Nat,o.review=((n:Nat):Int)+1:=⟨(o.review - 1).toNat,abh⟩;have w5:IntKind.i64.wrap (o.review - 1)=((n:Nat):Int):=by rw[bh _ (by have:=hr.2;omega)];omega
   have hn5:n<s.reviews.length:=by
    have:fH s o=0:=by simpa[bL,hform,p5]using p0
    unfold fH at this;have e1:vJ s.reviews o.review=s.reviews[n]? :=by unfold vJ;rw[if_pos abh,show(o.review - 1).toNat=n by omega]
    rw[e1]at this
    by_cases hlt:n<s.reviews.length
    ·exact hlt
    ·rw[List.getElem?_eq_none abh]at this;cases this
   have hnm:n<(s.reviews.map iu).length:=by simpa using hn5
   obtain⟨id2,hg2,o2⟩:=w2.ow (by intro e;rw[e]at hnm;cases hnm)
   have o2' :=o2;obtain⟨cap,rest,ey,hid,hrl,hcap,hsz⟩:=o2';have n24:id2≠i4:=hz4 id2 hg2;have n25:id2≠i5:=hz5 id2 hg2 o2.none;have hidK:=sK _ _ hid;simp only[go_sem,k5,k3,w5];refine(o2.sub sK).idx (U:=U) (e:=143) n rfl hnm abq abk ?_;simp only[go_sem,hidK];have e2:List.take (n*7+6) (aq (s.reviews.map iu)++rest)++ [.v (.bool false)]++List.drop (n*7+6+1) (aq (s.reviews.map iu)++rest)=aq ((s.reviews.modify n fun r=> {r with isOpen:=false}).map iu)++rest:=by
    refine(kO hsz n hnm 6 [.v (.bool false)] (aa6 rfl)).trans ?_
    congr 2
    refine List.ext_getElem abp fun j h1 h2=>?_
    by_cases e:j=n
    ·subst e;simp[iu,AV.cells,Ab.over]
    ·rw[List.getElem_set_ne (Ne.symm e)];simp[Ne.symm e]
   rw[e2];refine⟨by rw[abb,aX hsz];omega,?_⟩
   have k5b:∀b,upd K id2 b i5=_:=fun b=>(ag _ _ n25.symm).trans k5
   have k4b:∀b,upd K id2 b i4=_:=fun b=>(ag _ _ n24.symm).trans k4
   simp only[go_sem,k5b,k4b];have hdo:doD aP s o= {s with reviews:=s.reviews.modify n fun r=> {r with isOpen:=false}}:=by simp[doD,p5,en]
   have kz:∀a b k,H k=none→H1 k≠none→nid z2≠some k→upd (upd K id2 a) i4 b k=H1 k:=fun a b k c d e=>by rw[ag _ _ (hz4 k c),ag _ _ (fun e' =>e (by rw[e'];exact o2.nid)),kK k d]
   refine .mk _ (.refl _) (.refl _) ⟨(Sub.put (i:=id2) sg (hH.none hg2) _).put h4' _,_,?_,fun _=>hi0⟩
   rw[hdo];exact oJ rfl hpp rfl ((hC.keepx (z:=z2) abp a12 (kz _ _)).bJ (fun _ e=>hH.none e)) (.inr ⟨id2,hH.none hg2,cap,rest,by rw[ey];simp,by rw[ag _ _ n24,ah],by rw[hrl];simp,by simpa using hcap,br (f:=iu) (n:=7) (fun _=>rfl) _⟩) ((w3.keep fun id e=>kz _ _ id (w3.nid e).1 (w3.nid e).2.1 fun e1=>a23 id e1 e).bJ fun _ e=>hH.none e) ((w4.keep fun id e=>kz _ _ id (w4.nid e).1 (w4.nid e).2.1 fun e1=>a24 id e1 e).bJ fun _ e=>hH.none e) ⟨a12,a13,a14,a23,a24,a34⟩
  have k5' :(o.kind==5)=false:=by simp[p5]
  simp only[go_sem,k5']
  by_cases p6:o.kind=6
  ·have k6' :(o.kind==6)=true:=by simp[p6]
   simp only[go_sem,k6'];simp only[go_sem,k5,k3];have hha6:=ER hSK.rd o.case o.field (Nat.le_trans hf.roles abk);rw[hpp,hcC]at hha6;simp only[List.cons_append,List.nil_append]at hha6;refine hha6.pthen ?_;cases dha:xL s.roles ⟨o.case,o.field⟩
   ·simp only[go_sem]
    simp only[go_sem,k5,k3];have hap1:Rd K 2 (.sl [dZ ⟨o.case,o.field⟩] .full) [dZ ⟨o.case,o.field⟩]:=.sl ab0 .full;have hfr:=hf.roles;refine OwE.app (U:=U) (tb:=149) (w4.sub sK) (s1.trans sK) hap1 abq abk abm abq abp abN fun id4 y' K3 g4' hor hw ho2=>?_
    have hor' :K id4=none∨nid z4=some id4:=by
     exact afW
    have n44:i4≠id4:=fun e=>by rw[←e,g4]at g4';cases g4'
    have n45:i5≠id4:=fun e=>by
     rcases hor' with hor|hor
     ·rw[←e,k5]at hor;cases hor
     ·exact(w4.nid hor).2.1 (by rw[←e];exact h5)
    have m4:K3 i4=_:=(ho2 i4 n44).trans k4;have m5:K3 i5=_:=(ho2 i5 n45).trans k5;simp only[go_sem,m5,hw.rd.fit,hw.rd.cells];simp only[go_sem,aj,n54,m4];have hdo:doD aP s o= {s with roles:=s.roles++ [⟨o.case,o.field⟩]}:=by simp[doD,p6,dha]
    have gid4:g id4=none:=hH.none g4';have kz:∀a b k,H k=none→H1 k≠none→nid z4≠some k→upd (upd K3 i5 a) i4 b k=H1 k:=fun a b k c d e=>by
     have:k≠id4:=fun e' =>by
      rcases hor' with hor|hor
      ·have:=kK k d;rw[e',hor]at this;exact d (by rw[e'];exact this.symm)
      ·exact e (by rw[e'];exact hor)
     rw[ag _ _ (hz4 k c),ag _ _ (hz5 k c d),ho2 k this,kK k d]
    have sg3:Ab.Sub g K3:=fun k b hk=>by rw[ho2 k (fun e=>by rw[e,gid4]at hk;cases hk)];exact sg _ _ hk
    refine .mk _ (.refl _) (.refl _) ⟨(sg3.put g5 _).put h4' _,_,?_,fun _=>hi0⟩
    rw[hdo];have hw' :OwE 149 g K3 2 y' ((s.roles++ [(⟨o.case,o.field⟩:gM)]).map dZ):=by rw[List.map_append];exact .inr ⟨id4,gid4,hw⟩
    have hry:∀k,nid y' =some k→H1 k=none∨nid z4=some k:=fun k e=>by
     have:id4=k:=by have:=hw.nid;rw[e]at this;exact(Option.some.inj this).symm
     subst this;exact hor'.imp (fun h=>sK.none h) id
    have har:∀ {w:AV},apart w z4→(∀k,nid w=some k→H1 k≠none)→apart w y' :=fun ha hh k e1 e2=>(hry k e2).elim (fun h=>hh k e1 h) (fun h=>ha k e1 h)
    refine oJ rfl hpp rfl ((hC.move (z:=z4) abp a14 (kz _ _) fun w hw k e=>?_).bJ (fun _ e=>hH.none e)) ((w2.keep fun id e=>kz _ _ id (w2.nid e).1 (w2.nid e).2.1 fun e1=>a24 id e e1).bJ fun _ e=>hH.none e) ((w3.keep fun id e=>kz _ _ id (w3.nid e).1 (w3.nid e).2.1 fun e1=>a34 id e e1).bJ fun _ e=>hH.none e) (hw'.keep fun id e=>?_) ⟨a12,a13,har a14 fun k e=>(w1.nid e).2.1,a23,har a24 fun k e=>(w2.nid e).2.1,har a34 fun k e=>(w3.nid e).2.1⟩
    ·simp only[List.mem_cons,List.not_mem_nil,or_false]at hw
     rcases hw with rfl|rfl|rfl|rfl
     ·exact .inr ⟨w,abp,e⟩
     ·exact .inr ⟨w,abp,e⟩
     ·exact .inr ⟨w,abp,e⟩
     ·exact(hry k e).imp id fun h=>⟨z4,abp,h⟩
    ·have:id=id4:=by have:=hw.nid;rw[e]at this;exact Option.some.inj this
     rw[this,ag _ _ n44.symm,ag _ _ n45.symm]
   ·simp only[go_sem]
    simp only[go_sem,k5,k4];have hdo:doD aP s o=s:=by simp[doD,p6,dha]
    rw[hdo];refine .mk _ (.refl _) (.refl _) ⟨sg.put h4' _,_,(hS.keepb fun k hk hk1=>?_).bJ fun _ e=>hH.none e,fun _=>hi0⟩
    rw[ag _ _ (hz4 k hk),kK k hk1]
  have k6' :(o.kind==6)=false:=by simp[p6]
  simp only[go_sem,k6']
  by_cases p7:o.kind=7
  ·have k7' :(o.kind==7)=true:=by simp[p7]
   simp only[go_sem,k7'];simp only[go_sem,k3];refine(ym o.text _ (he.sub sg)).pthen ?_;obtain⟨⟨pp,e,a⟩,epp⟩:∃x,aP o.text=x:=⟨_,rfl⟩;obtain⟨qid,qset,qalg,qtgt,qrules,qkids,qobls⟩:=pp;rw[epp];simp only[go_sem,jC,aL,aW];intro i9 h9;have n95:i5≠i9:=fun e=>by rw[←e,k5]at h9;cases h9
   have n94:i4≠i9:=fun e=>by rw[←e,k4]at h9;cases h9
   simp only[go_sem];have g9:g i9=none:=sg.none h9;have sg9:∀b,Ab.Sub g (upd K i9 b):=fun b=>sg.put g9 b
   have hz9:∀k,H1 k≠none→k≠i9:=fun k hk e=>hk (by have:=kK k hk;rw[e,h9]at this;rw[e];exact this.symm)
   by_cases pe:e=0
   ·have de:(e==0)=true:=by simp[pe]
    have wv:IntKind.i64.wrap (s.version+1)=s.version+1:=bh _ abh;simp only[go_sem,de];simp only[go_sem,aj,n95,n94,n54,k5,k4,wv];have hdo:doD aP s o= {s with policy:=.mk qid qset qalg qtgt qrules qkids qobls,version:=s.version+1}:=by simp[doD,p7,epp,pe]
    have kz:∀a b c k,H k=none→H1 k≠none→upd (upd (upd K i9 a) i5 b) i4 c k=H1 k:=fun a b c k d e=>by rw[ag _ _ (hz4 k d),ag _ _ (hz5 k d e),ag _ _ (hz9 k e),kK k e]
    refine .mk _ (.refl _) (.refl _) ⟨((sg9 _).put g5 _).put h4' _,_,?_,fun _=>hi0⟩
    rw[hdo];exact oJ rfl rfl rfl ((hC.keepb (kz _ _ _)).bJ (fun _ e=>hH.none e)) ((w2.keepb (kz _ _ _)).bJ (fun _ e=>hH.none e)) ((w3.keepb (kz _ _ _)).bJ (fun _ e=>hH.none e)) ((w4.keepb (kz _ _ _)).bJ (fun _ e=>hH.none e)) ⟨a12,a13,a14,a23,a24,a34⟩
   ·have de:(e==0)=false:=by simp[pe]
    simp only[go_sem,de];simp only[go_sem,aj,n95,n94,k5,k4];have hdo:doD aP s o=s:=by simp[doD,p7,epp,pe]
    rw[hdo];refine .mk _ (.refl _) (.refl _) ⟨(sg9 _).put h4' _,_,(hS.keepb fun k hk hk1=>?_).bJ fun _ e=>hH.none e,fun _=>hi0⟩
    rw[ag _ _ (hz4 k hk),ag _ _ (hz9 k hk1),kK k hk1]
  have k7' :(o.kind==7)=false:=by simp[p7]
  simp only[go_sem,k7']
  by_cases p8:o.kind=8
  ·have k8' :(o.kind==8)=true:=by simp[p8]
   simp only[go_sem,k8'];have hrv:0<o.review∧o.review≤1099511627776:=by
    simp only[dj,dI,Bool.and_eq_true]at hform;simpa[okD,p8]using hform.2.1.2
   have htk:¬s.tick>1099511627776 - o.review:=by
    intro hgt;simp[bL,hform,p8,hgt]at p0
   have w8:IntKind.i64.wrap (s.tick+o.review)=s.tick+o.review:=bh _ (by have:=ht.1;omega)
   simp only[go_sem,k5,k3,w8];simp only[go_sem,aj,n54,k4];have hdo:doD aP s o= {s with tick:=s.tick+o.review}:=by simp[doD,p8]
   have kz:∀a b k,H k=none→H1 k≠none→upd (upd K i5 a) i4 b k=H1 k:=fun a b k c d=>by rw[ag _ _ (hz4 k c),ag _ _ (hz5 k c d),kK k d]
   refine .mk _ (.refl _) (.refl _) ⟨(sg.put g5 _).put h4' _,_,?_,fun _=>hi0⟩
   rw[hdo];exact oJ rfl hpp rfl ((hC.keepb (kz _ _)).bJ (fun _ e=>hH.none e)) ((w2.keepb (kz _ _)).bJ (fun _ e=>hH.none e)) ((w3.keepb (kz _ _)).bJ (fun _ e=>hH.none e)) ((w4.keepb (kz _ _)).bJ (fun _ e=>hH.none e)) ⟨a12,a13,a14,a23,a24,a34⟩
  have k8' :(o.kind==8)=false:=by simp[p8]
  simp only[go_sem,k8'];simp only[go_sem,k5,k4];have hdo:doD aP s o=s:=by simp[doD,p1,p3,p4,p5,p6,p7,p8]
  rw[hdo];refine .mk _ (.refl _) (.refl _) ⟨sg.put h4' _,_,(hS.keepb fun k hk hk1=>?_).bJ fun _ e=>hH.none e,fun _=>hi0⟩
  rw[ag _ _ (hz4 k hk),kK k hk1]
 ·have d0:(bL s o !=0)=true:=by simp[p0]
  simp only[go_sem,d0];simp only[go_sem,k5,k4];have hdone:dN aP s o=s:=by simp[dN,p0]
  rw[hdone];refine .mk _ (.refl _) (.refl _) ⟨sg.put h4' _,_,(hS.keepb fun k hk hk1=>?_).bJ fun _ e=>hH.none e,fun h=>(p0 h).elim⟩
  rw[ag _ _ (hz4 k hk),kK k hk1]
end Go.Proofs.YtcochaoekecfdaaGreatDoor
namespace Go.Bf
def KB:Txt:=[112,111,108,105,99,121,32,111,112,101,110,32,112,101,114,109,105,116,117,110,108,101,115,115,32,123,32,125]
def kZ:bI:=.mk jj false 6 [] [] [] []
def we:an:=⟨0,[],[],[],[],kZ,0⟩
end Go.Bf
namespace Go.Proofs.YtcochaoekecfdaaGreatDoor
open Go Go.Ab Go.Bf
theorem MN{g K:Heap}{S:an}{y1 y2 y3 y4:AV}{tk ver palg:Int}{pid:Txt}{pset:Bool}{ptgt:fU}{prules:List cM}{pkids:List bI}{pobls:List cC}(h1:S.tick=tk)(h2:S.policy= .mk pid pset palg ptgt prules pkids pobls)(h3:S.version=ver)
  (a:Frz g K y1 (fQ S.cases)) (b:Frz g K y2 (jP S.reviews)) (c:Frz g K y3 (kM S.notices)) (d:Frz g K y4 (dR S.roles)):
  Frz g K (.agg [.i tk,y1,y2,y3,y4,.s pid,.b pset,.i palg,aU ptgt,.sl (prules.map aC) .no,.sl (pkids.map aL) .no,aA pobls,.i ver]) (cJ S):=by
 have:=uh a b c d;rw[h1,h2,h3,show fO (.mk pid pset palg ptgt prules pkids pobls)= [.s pid,.b pset,.i palg,aU ptgt,.sl (prules.map aC) .no,.sl (pkids.map aL) .no,aA pobls] by simp[fO,aW]]at this
 exact abZ
theorem Je{H:Heap}{i j:Nat}{a b:Option Blk}(c:Option Blk)(h:i≠j):upd (upd (upd H i a) j b) i c=upd (upd H i c) j b:=by
 grind [ah,ag]
theorem KC:aP KB=(kZ,0,0):=abx
theorem Qj(h:Heap)(he:lu h):ai Tryz.prog 26 [] h fun r h' =>r=cJ we∧h' =h:=
 ai.freeze fun g hg _=>by
 replace he:=he.sub hg;refine abg Tryz.func26 11 [.cell 0 67] fun hwf=>?_
 simp only[go_sem];intro i1 h1;simp only[go_sem];refine(ym KB _ (he.sub (.ak h1))).pthen ?_;rw[KC];simp only[go_sem,jC,kZ,aL,aU,aA,fu,jj,List.map_nil];intro i2 h2;have n21:=aH h2;have n2:=aB h2;simp only[go_sem,aj,n21.symm];refine .mk _ (.refl _) (.refl _) ⟨?_,cJ we,MN (S:=we) rfl rfl rfl lK lK lK lK,rfl⟩;rw[Je _ n21.symm];exact((Sub.refl g).put h1 _).put n2 _
theorem rA(s:Txt)(h:Heap):ai Tryz.prog 125 [.s s] h fun r h' =>r=aR (idV s)∧h' =h:=by
 refine abg Tryz.func125 5 [.cell 2 30] fun hwf=>?_
 exact agI
theorem dK(cat:Int)(name:Txt)(xs:List AV)(q:Perm)(h:Heap):ai Tryz.prog 126 [.i cat,.s name,.sl xs q] h fun r h' =>r= .agg [.i cat,.s name,.sl xs q]∧h' =h:=by
 refine abg Tryz.func126 11 [.cell 6 196] fun hwf=>?_
 exact agI
theorem Kp{α:Type}(y:AV)(xs:List AV)(ds:List α)(q:α→Bool)(g:FuncId)(cap:List AV)(h:Heap)(hb:Rd h 3 y xs)(hn:xs.length=ds.length)(hl:xs.length≤1000000000)(hx:∀x∈xs,bx x=true)
  (hp:∀i (h1:i<xs.length) (h2:i<ds.length),ai Tryz.prog g (xs[i]::cap) h fun r h' =>r= .b (q ds[i])∧h' =h):
  ai Tryz.prog 252 [y,.fn g cap] h fun r h' =>r= .i (ixD q ds)∧h' =h:=by
 refine abg Tryz.func252 19 [.tmp 4] fun hwf=>?_
 simp only[go_sem,hb.len];refine .intro (fun m ρ h' =>h' =h∧∃i:Nat,i≤xs.length∧m=xs.length - i∧(∀j (hj:j<i) (h2:j<ds.length),q ds[j]=false)∧lk ρ 0=some y∧lk ρ 1=some (.fn g cap)∧lk ρ 7=some (.i xs.length)∧lk ρ 8=some (.i i)) xs.length ?_ ?_
 ·refine⟨rfl,0,abh,rfl,fun j hj=>abh,?_,?_,?_,?_⟩<;>simp only[go_sem]
 ·rintro m ρ h' ⟨rfl,i,hi,rfl,hc,r0,r1,r7,r8⟩
  simp only[go_sem,r7,r8];refine .intro (fun e=>?_) (fun e=>?_)
  ·have hlt:i<xs.length:=abe e
   have hlt2:i<ds.length:=abh;have w1:IntKind.i64.wrap ((i:Int)+1)=((i+1:Nat):Int):=abv;simp only[go_sem,r0,r1,r8];refine hb.idx (e:=205) i rfl hlt abx abk fun p hp1=>?_
   have hld:=hp1.all (U:=U) (ty:=205) abk ab8 ac4;simp only[go_sem,hld];refine(show ai Tryz.prog g (xs[i]::cap) _ _ from hp i hlt hlt2).pthen ?_
   cases d1:q ds[i]
   ·simp only[go_sem,r8,w1]
    refine⟨_,?_,rfl,i+1,abh,rfl,fun j hj h2=>?_,?_,?_,?_,?_⟩
    ·omega
    ·grind
    all_goals simp only[go_sem,r0,r1,r7]
   ·simp only[go_sem]
    exact .same (.refl _) ⟨abW,rfl⟩
  ·have hge:i=xs.length:=by grind
   simp only[go_sem];exact .same (.refl _) ⟨abK,rfl⟩
theorem LL{h:Heap}(x:wO){k:Nat}{subj:Txt}(hk:h k=some (.obj [.s subj] 9)):ai Tryz.prog 216 [ig x,.ptr k 0] h fun r h' =>r= .b (x.actor==subj)∧h' =h:=by
 refine abg Tryz.func216 8 [.tmp 3] fun hwf=>?_
 simp only[go_sem,ig];exact afE
theorem tY{α:Type}(q:α→Bool)(l:List α):decide ((0:Int)≤ixD q l)=l.any q:=by
 unfold ixD
 grind
theorem Ie(y:AV)(ds:List wO)(q:wO→Bool)(g:FuncId)(cap:List AV)(h:Heap)(hb:Rd h 3 y (ds.map ig))(hl:ds.length≤1000000000)
  (hp:∀i (h2:i<ds.length),ai Tryz.prog g (ig ds[i]::cap) h fun r h' =>r= .b (q ds[i])∧h' =h):
  ai Tryz.prog 215 [y,.fn g cap] h fun r h' =>r= .b (ds.any q)∧h' =h:=by
 refine abg Tryz.func215 9 [.tmp 4] fun hwf=>?_
 simp only[go_sem];refine(Kp y _ ds q g cap h hb abp abi (nU (fun _=>rfl) _) fun i a b=>by rw[aa8];exact hp i b).pthen ?_
 simp only[go_sem,tY];exact abu
theorem NL{h:Heap}{x:AV}{c:aK}(hb:RdC h x c)(subj:Txt)(hl:c.log.length≤1000000000):ai Tryz.prog 174 [x,.s subj] h fun r h' =>r=aR (tN c.log subj)∧h' =h:=by
 obtain⟨f,l,rfl,hf,hlg⟩:=hb;refine abg Tryz.func174 13 [.cell 4 30] fun hwf=>?_
 simp only[go_sem];intro i1 h1;simp only[go_sem];intro i2 h2;have n21:=aH h2;have n2:=aB h2;simp only[go_sem];intro i3 h3;have h3' :=aB h3;have n31:=aH h3';have n3:=aB h3';simp only[go_sem];intro i4 h4;have n43:=aH h4;have h4' :=aB h4;have h4'' :=aB h4';have n41:=aH h4'';have n4:=aB h4'';have hs:∀a b d e,Ab.Sub h (upd (upd (upd (upd h i1 a) i2 b) i3 d) i4 e):=fun a b d e=>((((Sub.refl h).put h1 a).put n2 b).put n3 d).put n4 e
 simp only[go_sem,aj,n21.symm,n31.symm,n41.symm];refine(Ie l c.log (fun x=>x.actor==subj) _ [.ptr i2 0] _ (hlg.sub (hs _ _ _ _)) hl fun i b=>LL _ (by grind [aj,fS,not_false_eq_true])).pthen ?_
 cases d1:c.log.any fun x=>x.actor==subj
 ·exact agq
 ·exact agq
def zh(g:bk)(q:Perm):AV:=.agg [.i g.cat,.s g.name,.sl (g.bag.map aR) q]
def GRow(ys:List AV)(gs:List bk):Prop:=ys.length=gs.length∧∀j (h1:j<ys.length) (h2:j<gs.length),∃q,ys[j]=zh gs[j] q
theorem GRow.sized{ys:List AV}{gs:List bk}(h:GRow ys gs):Sized 3 ys:=fun z hz=>by
 obtain⟨i,hi,rfl⟩:=List.mem_iff_getElem.1 hz;obtain⟨q,e⟩:=h.2 i hi (by rw[←h.1];omega)
 rw[e];rfl
theorem GRow.one(g:bk)(q:Perm):GRow [zh g q] [g]:=⟨rfl,fun j h1 h2=>by
 grind⟩
theorem GRow.app{ys zs:List AV}{gs ks:List bk}(h:GRow ys gs)(k:GRow zs ks):GRow (ys++zs) (gs++ks):=⟨by simp[h.1,k.1],fun j h1 h2=>by
 have hl:=h.1
 by_cases e:j<ys.length
 ·rw[List.getElem_append_left e,List.getElem_append_left abh];exact h.2 j e abh
 ·rw[List.getElem_append_right abh,List.getElem_append_right abh]
  simp only[abb]at h1 h2;obtain⟨q,e'⟩:=k.2 (j - ys.length) abh abh;exact⟨q,abi⟩⟩
theorem GRow.weak{ys:List AV}{gs:List bk}(h:GRow ys gs)(q:Perm):Weak (.sl ys q) (bH gs):=by
 refine .deep _ _ q (by simp[h.1]) (fun k h1 h2=>?_) fun k h1 h2 j h3 h4=>?_
 ·obtain⟨q',e'⟩:=h.2 k h1 abi
  rw[e',aa8];rfl
 ·obtain⟨q',e'⟩:=h.2 k h1 abi
  simp only[e',aa8];simp only[e',zh,AV.cells]at h3;rcases j with _|_|_|j
  ·exact acC
  ·exact acC
  ·exact adV
  ·simp at h3;omega
theorem GRow.givs(gs:List bk):GRow (gs.map kG) gs:=⟨abp,fun j h1 h2=>⟨.no,aby⟩⟩
theorem cr:(U 196).sz=3:=abx
theorem fC(g:bk)(q:Perm):Sized 3 [zh g q]:=fun z hz=>aea
def rO(c:aK)(subj:Txt):List bk:=[⟨3,idT,[idV c.id]⟩,⟨3,[111,119,110,101,114],[idV c.owner]⟩,⟨3,[115,116,97,116,101],[idV c.state]⟩,⟨3,[101,118,101,110,116,115],[⟨2,c.log.length,[]⟩]⟩,⟨3,[116,111,111,107],[tN c.log subj]⟩]
def rQ(c:aK):List bk:=match c.log.getLast? with
 |some x=>[⟨3,[108,97,115,116],[idV x.actor]⟩]
 |none=>[]
def fE(l:List cV):List bk:=(l.filter fun f=>decide (f.name.length≤14)).map fun f=>⟨3,[102,95]++f.name,[f.val]⟩
theorem lD(l:List cV)(i:Nat)(h:i<l.length):fE (l.take (i+1))=fE (l.take i)++(if l[i].name.length≤14 then [⟨3,[102,95]++l[i].name,[l[i].val]⟩]else []):=by
 grind [fE,List.take_succ_eq_append_getElem]
theorem pK(c:aK)(subj:Txt):cB c subj=rO c subj++rQ c++fE c.fields:=rfl
theorem Ed{h:Heap}(c:aK)(subj:Txt)(hl:c.log.length≤1000000)(hlf:c.fields.length≤1000000):ai Tryz.prog 127 [cq c,.s subj] h fun r h' =>r=bH (cB c subj)∧h' =h:=by
 refine abg Tryz.func127 77 [.tmp 4] fun hwf=>?_
 simp only[go_sem,cq,mG,fZ,rS];intro i1 h1;simp only[go_sem];refine .quiet abl ?_;simp only[go_sem];refine⟨_,rA _ _,?_⟩;simp only[go_sem,aR,idV];refine⟨_,dK _ _ _ _ _,?_⟩;simp only[go_sem];refine⟨_,rA _ _,?_⟩;simp only[go_sem,aR,idV];refine⟨_,dK _ _ _ _ _,?_⟩;simp only[go_sem];refine⟨_,rA _ _,?_⟩;simp only[go_sem,aR,idV];refine⟨_,dK _ _ _ _ _,?_⟩;simp only[go_sem];refine⟨_,dK _ _ _ _ _,?_⟩;simp only[go_sem];refine⟨_,NL (show RdC _ (.agg [.s c.id,.s c.owner,.s c.state,.sl (c.fields.map bM) .no,.sl (c.log.map ig) .no]) c from rdC _ c) subj abh,?_⟩
 simp only[go_sem,aR];refine⟨_,dK _ _ _ _ _,?_⟩;simp only[go_sem,aa7];have hs1:∀b,Ab.Sub h (upd h i1 b):=fun b=>(Sub.refl h).put h1 b
 have hrow5:GRow [.agg [.i 3,.s [105,100],.sl [.agg [.i 5,.i 0,.s c.id]] .full],.agg [.i 3,.s [111,119,110,101,114],.sl [.agg [.i 5,.i 0,.s c.owner]] .full],.agg [.i 3,.s [115,116,97,116,101],.sl [.agg [.i 5,.i 0,.s c.state]] .full],.agg [.i 3,.s [101,118,101,110,116,115],.sl [.agg [.i 2,.i c.log.length,.s []]] .full],.agg [.i 3,.s [116,111,111,107],.sl [aR (tN c.log subj)] .full]] (rO c subj):=(GRow.one ⟨3,idT,[idV c.id]⟩ .full).app ((GRow.one ⟨3,[111,119,110,101,114],[idV c.owner]⟩ .full).app ((GRow.one ⟨3,[115,116,97,116,101],[idV c.state]⟩ .full).app ((GRow.one ⟨3,[101,118,101,110,116,115],[⟨2,c.log.length,[]⟩]⟩ .full).app (GRow.one ⟨3,[116,111,111,107],[tN c.log subj]⟩ .full))));simp only[aR]at hrow5;cases d1:decide ((0:Int)<(c.log.length:Int))
 ·have hl0:c.log= []:=List.length_eq_zero_iff.1 abi
  simp only[go_sem];simp only[go_sem,aa7];refine .intro (fun m ρ H=>∃(i:Nat) (y:AV) (ys:List AV),Acc U 196 h H y ys∧H i1=some (.obj [.s c.id,.s c.owner,.s c.state,.sl (c.fields.map bM) .no,.sl (c.log.map ig) .no] 134)∧GRow ys (rO c subj++fE (c.fields.take i))∧i≤c.fields.length∧m=c.fields.length - i∧lk ρ 5=some y∧lk ρ 2=some (.ptr i1 0)∧lk ρ 55=some (.sl (c.fields.map bM) .no)∧lk ρ 56=some (.i c.fields.length)∧lk ρ 57=some (.i i)) c.fields.length ?_ ?_
  ·refine⟨0,_,_,.full (hs1 _),ah ..,(by have:=hrow5;simpa[fE]using this),abh,rfl,?_,?_,?_,?_,?_⟩<;>simp only[go_sem]
  ·rintro m ρ H ⟨i,y,ys,hy,g1,hrow,hi,rfl,r5,r2,r55,r56,r57⟩
   simp only[go_sem,r56,r57];refine .intro (fun e=>?_) (fun e=>?_)
   ·have hlt:i<c.fields.length:=abe e
    have w1:IntKind.i64.wrap ((i:Int)+1)=((i+1:Nat):Int):=abv;simp only[go_sem,r55,r57];refine .at i abi aby ?_;simp only[go_sem,aa8,bM];intro i8 h8;have n81:i1≠i8:=fun e=>abi
    simp only[go_sem];cases d2:decide ((c.fields[i].name.length:Int)≤14)
    ·exact afG
    ·simp only[go_sem,r5]
     have h14:c.fields[i].name.length≤14:=abi;refine⟨by grind [Nat,lim],?_⟩
     refine(dK _ _ _ _ _).pthen ?_;simp only[go_sem];refine(hy.sub (.ak h8)).app (zs:=[zh ⟨3,[102,95]++c.fields[i].name,[c.fields[i].val]⟩ .full]) abk abk (fun k hk=>(Rd.sl (fC _ _) .full:Rd _ 3 _ _).src cr hk) (by rw[cr];exact hrow.sized) (by grind [cr,fC]) (by
      have hln:(fE (c.fields.take i)).length≤i:=adn;simp only[go_sem,hrow.1,List.length_cons,List.length_nil,rO];omega) fun y' H' hy' kp=>?_
     exact af1
   ·have hge:i=c.fields.length:=by grind
    subst hge;rw[List.take_length]at hrow;obtain⟨q,rfl⟩:=hy.row;simp only[go_sem,r5];exact .mk (bH (cB c subj)) (show Weak (.sl ys q) _ by rw[pK,rQ,hl0];simpa using hrow.weak q) hy.1 ⟨rfl,rfl⟩
 ·have hl1:0<c.log.length:=by grind
  simp only[go_sem];have w0:IntKind.i64.wrap ((c.log.length:Int) - 1)=((c.log.length - 1:Nat):Int):=abv;simp only[go_sem,w0];refine .at (c.log.length - 1) abi aby ?_;simp only[go_sem,aa8,ig];rw[if_neg (fun hh=>hh.1)]
  refine(rA _ _).pthen ?_;simp only[go_sem,aR,idV];refine(dK _ _ _ _ _).pthen ?_;simp only[go_sem];have hgl:c.log.getLast? =some c.log[c.log.length - 1]:=abi;have hlast:GRow [.agg [.i 3,.s [108,97,115,116],.sl [.agg [.i 5,.i 0,.s c.log[c.log.length - 1].actor]] .full]] (rQ c):=by
   unfold rQ;rw[hgl];exact GRow.one ⟨3,[108,97,115,116],[idV c.log[c.log.length - 1].actor]⟩ .full
  refine .accs (hs1 _) fun y0 H0 hy0 kp0=>?_
  simp only[go_sem,kp0 _ _ _ (ah ..),aa7];refine .intro (fun m ρ H=>∃(i:Nat) (y:AV) (ys:List AV),Acc U 196 h H y ys∧H i1=some (.obj [.s c.id,.s c.owner,.s c.state,.sl (c.fields.map bM) .no,.sl (c.log.map ig) .no] 134)∧GRow ys ((rO c subj++rQ c)++fE (c.fields.take i))∧i≤c.fields.length∧m=c.fields.length - i∧lk ρ 5=some y∧lk ρ 2=some (.ptr i1 0)∧lk ρ 55=some (.sl (c.fields.map bM) .no)∧lk ρ 56=some (.i c.fields.length)∧lk ρ 57=some (.i i)) c.fields.length ?_ ?_
  ·refine⟨0,_,_,hy0,kp0 _ _ _ (ah ..),(by have:=hrow5.app hlast;simpa[fE]using this),abh,rfl,?_,?_,?_,?_,?_⟩<;>simp only[go_sem]
  ·rintro m ρ H ⟨i,y,ys,hy,g1,hrow,hi,rfl,r5,r2,r55,r56,r57⟩
   simp only[go_sem,r56,r57];refine .intro (fun e=>?_) (fun e=>?_)
   ·have hlt:i<c.fields.length:=abe e
    have w1:IntKind.i64.wrap ((i:Int)+1)=((i+1:Nat):Int):=abv;simp only[go_sem,r55,r57];refine .at i abi aby ?_;simp only[go_sem,aa8,bM];intro i8 h8;have n81:i1≠i8:=fun e=>abi
    simp only[go_sem];cases d2:decide ((c.fields[i].name.length:Int)≤14)
    ·exact afG
    ·simp only[go_sem,r5]
     have h14:c.fields[i].name.length≤14:=abi;refine⟨by grind [Nat,lim],?_⟩
     refine(dK _ _ _ _ _).pthen ?_;simp only[go_sem];refine(hy.sub (.ak h8)).app (zs:=[zh ⟨3,[102,95]++c.fields[i].name,[c.fields[i].val]⟩ .full]) abk abk (fun k hk=>(Rd.sl (fC _ _) .full:Rd _ 3 _ _).src cr hk) (by rw[cr];exact hrow.sized) (by grind [cr,fC]) (by
      have hln:(fE (c.fields.take i)).length≤i:=adn;simp only[go_sem,hrow.1,List.length_cons,List.length_nil,rO,rQ,hgl];omega) fun y' H' hy' kp=>?_
     exact af1
   ·have hge:i=c.fields.length:=by grind
    subst hge;rw[List.take_length]at hrow;obtain⟨q,rfl⟩:=hy.row;simp only[go_sem,r5];exact .mk (bH (cB c subj)) (show Weak (.sl ys q) _ by rw[pK];exact hrow.weak q) hy.1 ⟨rfl,rfl⟩
theorem DC{l:List gM}{subj:Txt}{i:Nat}(h:i<l.length)(h1:l[i].subj=subj)(h2:(cU (l.take i) subj).length<16):cU (l.take (i+1)) subj=cU (l.take i) subj++ [idV l[i].role]:=by
 unfold cU at h2⊢;rw[List.take_succ_eq_append_getElem h,List.filter_append,List.map_append]
 grind [List.length_take,idV,List.take_append,List.take_of_length_le]
theorem yG{l:List gM}{subj:Txt}{i:Nat}(h:i<l.length)(h1:l[i].subj≠subj∨¬(cU (l.take i) subj).length<16):cU (l.take (i+1)) subj=cU (l.take i) subj:=by
 grind [cU,List.take_succ_eq_append_getElem,List.take_append,List.length_take]
theorem Fj(l:List gM)(subj:Txt):(cU l subj).length≤16:=by grind [cU,List.length_take]
def cK(s:an)(o:OpD):List bk:=[⟨1,idT,[idV o.subj]⟩,⟨1,[114,111,108,101],cU s.roles o.subj⟩,⟨2,[110,97,109,101],[idV (js o.kind)]⟩]
theorem xA{s:an}(hf:Few s)(id:Txt):(bt s.cases id).log.length≤1000000∧(bt s.cases id).fields.length≤1000000:=by
 cases e:bX s.cases id
 ·rw[Cb e];decide
 ·rw[Ca e];exact⟨hf.log _ abp,hf.fields _ abp⟩
theorem B5(c:aK)(subj:Txt):(cB c subj).length≤6+c.fields.length:=by
 grind [pK,abb,rQ,fE,aa7,List.length_filter_le,rO]
theorem jh{h G:Heap}{i:Nat}(hs:Ab.Sub h G)(hi:G i=none):h i=none:=hs.none hi
theorem BR:(U 30).sz=3:=abx
theorem Pk{h:Heap}{x:AV}{s:an}(hb:RdS h x s)(o:OpD)(hf:Few s)(hk:i64 o.kind):ai Tryz.prog 70 [x,opA o] h fun r h' =>r=bH (fy s o)∧h' =h:=by
 have hca:=fun(G:Heap) (hG:Ab.Sub h G)=>Bc (hb.sub hG) o.case hf
 obtain⟨y1,y2,y3,y4,rfl,⟨xs,hc,hn,hcs⟩,h2,h3,h4⟩:=hb;cases hpp:s.policy with
 |mk pid pset palg ptgt prules pkids pobls=>
 have hcC:fO (.mk pid pset palg ptgt prules pkids pobls)= [.s pid,.b pset,.i palg,aU ptgt,.sl (prules.map aC) .no,.sl (pkids.map aL) .no,aA pobls]:=aej;rw[hpp,hcC]at hca;simp only[List.cons_append,List.nil_append]at hca;have hfr:=hf.roles;refine abg Tryz.func70 99 [.tmp 4] fun hwf=>?_
 simp only[go_sem,hcC,opA,opC,List.cons_append,List.nil_append];intro i1 h1;simp only[go_sem];intro i2 h2';have n21:=aH h2';have n2:=aB h2';simp only[go_sem,aj,n21.symm,h4.len,aa7];obtain⟨H,eH⟩:∃H,upd (upd h i1 (some (.obj [.i s.tick,y1,y2,y3,y4,.s pid,.b pset,.i palg,aU ptgt,.sl (prules.map aC) .no,.sl (pkids.map aL) .no,aA pobls,.i s.version] 67))) i2 (some (.obj (opC o) 32))=H:=⟨_,rfl⟩;have hH:Ab.Sub h H:=acg;have g1:H i1=some (.obj [.i s.tick,y1,y2,y3,y4,.s pid,.b pset,.i palg,aU ptgt,.sl (prules.map aC) .no,.sl (pkids.map aL) .no,aA pobls,.i s.version] 67):=acQ;have g2:H i2=some (.obj (opC o) 32):=acJ;simp only[opC]at eH g2;rw[eH];clear eH;refine .intro (fun m ρ G=>∃(i:Nat) (y:AV),Acc U 30 H G y ((cU (s.roles.take i) o.subj).map aR)∧i≤s.roles.length∧m=s.roles.length - i∧lk ρ 5=some y∧lk ρ 2=some (.ptr i1 0)∧lk ρ 3=some (.ptr i2 0)∧lk ρ 12=some y4∧lk ρ 13=some (.i s.roles.length)∧lk ρ 14=some (.i i)) s.roles.length ?_ ?_
 ·refine⟨0,_,.full (.refl _),abh,rfl,?_,?_,?_,?_,?_,?_⟩<;>simp only[go_sem,cU,List.take_zero,List.filter_nil,List.map_nil]
 ·rintro m ρ G ⟨i,y,hy,hi,rfl,r5,r2,r3,r12,r13,r14⟩
  have k1:=hy.1 _ _ g1;have k2:=hy.1 _ _ g2;simp only[go_sem,r13,r14];refine .intro (fun e=>?_) (fun e=>?_)
  ·have hlt:i<s.roles.length:=abe e
   have w1:=abd i abh;simp only[go_sem,r12,r14];refine(h4.sub (hH.trans hy.1)).idx (e:=149) i rfl abH GX abk fun p hp1=>?_
   have hld:=hp1.all (U:=U) (ty:=149) abq (by rw[GX,aa8];rfl) abT
   simp only[go_sem,hld,aa8,dZ];intro i7 h7;have n71:i1≠i7:=fun e=>by rw[←e,k1]at h7;cases h7
   have n72:i2≠i7:=fun e=>by rw[←e,k2]at h7;cases h7
   simp only[go_sem,aj,n72,k2,r3];have hy7:=hy.sub (.ak h7 (k:=some (.obj [.s s.roles[i].subj,.s s.roles[i].role] 149)));have lr:=Fj (s.roles.take i) o.subj;cases d1:(s.roles[i].subj==o.subj)
   ·have p1:s.roles[i].subj≠o.subj:=by simpa using d1
    simp only[go_sem,r14,w1];refine⟨_,?_,i+1,y,by rw[yG hlt (.inl p1)];exact hy7,abh,rfl,?_,?_,?_,?_,?_,?_⟩
    ·omega
    all_goals simp only[go_sem,r5,r2,r3,r12,r13]
   ·have p1:s.roles[i].subj=o.subj:=by simpa using d1
    simp only[go_sem,r5,hy.len,aa7];cases d2:decide (((cU (s.roles.take i) o.subj).length:Int)<16)
    ·have p2:¬(cU (s.roles.take i) o.subj).length<16:=by have:=aba d2;omega
     simp only[go_sem,r14,w1];refine⟨_,?_,i+1,y,by rw[yG hlt (.inr p2)];exact hy7,abh,rfl,?_,?_,?_,?_,?_,?_⟩
     ·omega
     all_goals simp only[go_sem,r5,r2,r3,r12,r13]
    ·have p2:(cU (s.roles.take i) o.subj).length<16:=by have:=aa9 d2;omega
     simp only[go_sem,r5];refine(rA _ _).pthen ?_;simp only[go_sem,aR,idV];refine hy7.app (zs:=[aR (idV s.roles[i].role)]) (by rw[BR];decide) abm (fun k hk=>(Rd.sl (fun z hz=>aea) .full:Rd _ 3 _ _).src BR hk) (by rw[BR];exact br (f:=aR) (fun _=>rfl) _) (by rw[BR];exact br (f:=aR) (fun _=>rfl) [idV s.roles[i].role]) acw fun y' H' hy' kp=>?_
     simp only[go_sem,r14,w1];refine⟨_,?_,i+1,y',by rw[DC hlt p1 p2,List.map_append];exact hy',abh,rfl,?_,?_,?_,?_,?_,?_⟩
     ·omega
     all_goals simp only[go_sem,r2,r3,r12,r13]
  ·have hge:i=s.roles.length:=by have:=aba e;omega
   subst hge;rw[List.take_length]at hy;simp only[go_sem];obtain⟨q5,rfl⟩:=hy.row;refine .quiet abl ?_;simp only[go_sem,k2,r3];refine⟨_,rA _ _,?_⟩;simp only[go_sem,aR,idV];refine⟨_,dK _ _ _ _ _,?_⟩;simp only[go_sem,r5];refine⟨_,dK _ _ _ _ _,?_⟩;simp only[go_sem,k2,r3];refine⟨_,zJ _ hk _,?_⟩;simp only[go_sem];refine⟨_,rA _ _,?_⟩;simp only[go_sem,aR,idV];refine⟨_,dK _ _ _ _ _,?_⟩;simp only[go_sem,k2,r3];have hak:=fun(G:Heap)=>Ed (h:=G) (bt s.cases o.case) o.subj (xA hf o.case).1 (xA hf o.case).2
   simp only[cq,mG,fZ,rS]at hak;have hakl:=B5 (bt s.cases o.case) o.subj;have hakf:=(xA hf o.case).2;have hr0:GRow [.agg [.i 1,.s [105,100],.sl [.agg [.i 5,.i 0,.s o.subj]] .full],.agg [.i 1,.s [114,111,108,101],.sl ((cU s.roles o.subj).map aR) q5],.agg [.i 2,.s [110,97,109,101],.sl [.agg [.i 5,.i 0,.s (js o.kind)]] .full]] (cK s o):=(GRow.one ⟨1,idT,[idV o.subj]⟩ .full).app ((GRow.one ⟨1,[114,111,108,101],cU s.roles o.subj⟩ q5).app (GRow.one ⟨2,[110,97,109,101],[idV (js o.kind)]⟩ .full))
   by_cases pf:o.field= []
   ·have df:(o.field==([]:Txt))=true:=by simp[pf]
    simp only[go_sem,k2,r3,df]
    by_cases pt:o.to= []
    ·have dt:(o.to==([]:Txt))=true:=by simp[pt]
     simp only[go_sem,k1,r2,dt];refine(dK _ _ _ _ _).pthen ?_;simp only[go_sem];refine .accs hy.1 fun y1 G1 hy1 kp1=>?_
     have k1_1:=kp1 _ _ _ k1;have k2_1:=kp1 _ _ _ k2;have hr1:=hr0.app (GRow.one (⟨4,[110,111,119],[⟨4,s.tick,[]⟩]⟩:bk) .full);simp only[go_sem,k1_1,k2_1,r2,r3];refine(hca _ (hH.trans hy1.1)).pthen ?_;simp only[go_sem,cq,mG,fZ,rS];intro i20 h20;have n21:i1≠i20:=fun e=>by rw[←e,k1_1]at h20;cases h20
     have n22:i2≠i20:=fun e=>by rw[←e,k2_1]at h20;cases h20
     simp only[go_sem];obtain⟨q2,eq2⟩:=hy1.row;cases dth:bX s.cases o.case
     ·simp only[go_sem]
      exact .mk (bH (fy s o)) (show Weak y1 _ by rw[eq2,show fy s o=(cK s o++ [(⟨4,[110,111,119],[⟨4,s.tick,[]⟩]⟩:bk)]) by simp[fy,cK,dth,pf,pt]];exact hr1.weak q2) ((hH.trans hy1.1).put (jh (hH.trans hy1.1) h20) _) ⟨rfl,rfl⟩
     ·simp only[go_sem,aj,n22,k2_1,r3]
      by_cases p6:o.kind=6
      ·have d6:(o.kind !=6)=false:=by simp[p6]
       simp only[go_sem,d6];exact .mk (bH (fy s o)) (show Weak y1 _ by rw[eq2,show fy s o=(cK s o++ [(⟨4,[110,111,119],[⟨4,s.tick,[]⟩]⟩:bk)]) by simp[fy,cK,dth,p6,pf,pt]];exact hr1.weak q2) ((hH.trans hy1.1).put (jh (hH.trans hy1.1) h20) _) ⟨rfl,rfl⟩
      ·have d6:(o.kind !=6)=true:=by simp[p6]
       simp only[go_sem,aj,n22,k2_1,r3,d6];refine(hak _).pthen ?_;simp only[go_sem,bH];refine(hy1.sub (.ak h20)).app (zs:=(cB (bt s.cases o.case) o.subj).map kG) adA abm (fun k hk=>(eJ kG 3 (fun _=>rfl) _ _).src cr hk) (by rw[cr];exact hr1.sized) acT ab7 fun yz Gz hyz kpz=>?_
       simp only[go_sem];obtain⟨qz,eqz⟩:=hyz.row;exact .mk (bH (fy s o)) (show Weak yz _ by rw[eqz,show fy s o=(cK s o++ [(⟨4,[110,111,119],[⟨4,s.tick,[]⟩]⟩:bk)])++cB (bt s.cases o.case) o.subj by simp[fy,cK,dth,p6,pf,pt]];exact(hr1.app (GRow.givs _)).weak qz) (hH.trans hyz.1) ⟨rfl,rfl⟩
    ·have dt:(o.to==([]:Txt))=false:=by simp[pt]
     simp only[go_sem,k2,r3,dt];refine(rA _ _).pthen ?_;simp only[go_sem,aR,idV];refine(dK _ _ _ _ _).pthen ?_;simp only[go_sem];refine .accs hy.1 fun y3 G3 hy3 kp3=>?_
     have k1_3:=kp3 _ _ _ k1;have k2_3:=kp3 _ _ _ k2;have hr3:=hr0.app (GRow.one (⟨2,[116,111],[idV o.to]⟩:bk) .full);simp only[go_sem,k1_3,r2];refine(dK _ _ _ _ _).pthen ?_;simp only[go_sem];refine hy3.app (zs:=[zh (⟨4,[110,111,119],[⟨4,s.tick,[]⟩]⟩) .full]) adA abm (fun k hk=>(Rd.sl (fC _ _) .full:Rd _ 3 _ _).src cr hk) (by rw[cr];exact hr3.sized) aeI aci fun y4 G4 hy4 kp4=>?_
     have k1_4:=kp4 _ _ _ k1_3;have k2_4:=kp4 _ _ _ k2_3;have hr4:=hr3.app (GRow.one (⟨4,[110,111,119],[⟨4,s.tick,[]⟩]⟩:bk) .full);simp only[go_sem,k1_4,k2_4,r2,r3];refine(hca _ (hH.trans hy4.1)).pthen ?_;simp only[go_sem,cq,mG,fZ,rS];intro i50 h50;have n51:i1≠i50:=fun e=>by rw[←e,k1_4]at h50;cases h50
     have n52:i2≠i50:=fun e=>by rw[←e,k2_4]at h50;cases h50
     simp only[go_sem];obtain⟨q5,eq5⟩:=hy4.row;cases dth:bX s.cases o.case
     ·simp only[go_sem]
      exact .mk (bH (fy s o)) (show Weak y4 _ by rw[eq5,show fy s o=((cK s o++ [(⟨2,[116,111],[idV o.to]⟩:bk)])++ [(⟨4,[110,111,119],[⟨4,s.tick,[]⟩]⟩:bk)]) by simp[fy,cK,dth,pf,pt]];exact hr4.weak q5) ((hH.trans hy4.1).put (jh (hH.trans hy4.1) h50) _) ⟨rfl,rfl⟩
     ·simp only[go_sem,aj,n52,k2_4,r3]
      by_cases p6:o.kind=6
      ·have d6:(o.kind !=6)=false:=by simp[p6]
       simp only[go_sem,d6];exact .mk (bH (fy s o)) (show Weak y4 _ by rw[eq5,show fy s o=((cK s o++ [(⟨2,[116,111],[idV o.to]⟩:bk)])++ [(⟨4,[110,111,119],[⟨4,s.tick,[]⟩]⟩:bk)]) by simp[fy,cK,dth,p6,pf,pt]];exact hr4.weak q5) ((hH.trans hy4.1).put (jh (hH.trans hy4.1) h50) _) ⟨rfl,rfl⟩
      ·have d6:(o.kind !=6)=true:=by simp[p6]
       simp only[go_sem,aj,n52,k2_4,r3,d6];refine(hak _).pthen ?_;simp only[go_sem,bH];refine(hy4.sub (.ak h50)).app (zs:=(cB (bt s.cases o.case) o.subj).map kG) adA abm (fun k hk=>(eJ kG 3 (fun _=>rfl) _ _).src cr hk) (by rw[cr];exact hr4.sized) acT ab7 fun yz Gz hyz kpz=>?_
       simp only[go_sem];obtain⟨qz,eqz⟩:=hyz.row;exact .mk (bH (fy s o)) (show Weak yz _ by rw[eqz,show fy s o=((cK s o++ [(⟨2,[116,111],[idV o.to]⟩:bk)])++ [(⟨4,[110,111,119],[⟨4,s.tick,[]⟩]⟩:bk)])++cB (bt s.cases o.case) o.subj by simp[fy,cK,dth,p6,pf,pt]];exact(hr4.app (GRow.givs _)).weak qz) (hH.trans hyz.1) ⟨rfl,rfl⟩
   ·have df:(o.field==([]:Txt))=false:=by simp[pf]
    simp only[go_sem,k2,r3,df];refine(rA _ _).pthen ?_;simp only[go_sem,aR,idV];refine(dK _ _ _ _ _).pthen ?_;simp only[go_sem];refine .accs hy.1 fun y6 G6 hy6 kp6=>?_
    have k1_6:=kp6 _ _ _ k1;have k2_6:=kp6 _ _ _ k2;have hr6:=hr0.app (GRow.one (⟨2,[102,105,101,108,100],[idV o.field]⟩:bk) .full);simp only[go_sem,k2_6,r3]
    by_cases pt:o.to= []
    ·have dt:(o.to==([]:Txt))=true:=by simp[pt]
     simp only[go_sem,k1_6,r2,dt];refine(dK _ _ _ _ _).pthen ?_;simp only[go_sem];refine hy6.app (zs:=[zh (⟨4,[110,111,119],[⟨4,s.tick,[]⟩]⟩) .full]) adA abm (fun k hk=>(Rd.sl (fC _ _) .full:Rd _ 3 _ _).src cr hk) (by rw[cr];exact hr6.sized) aeI aci fun y7 G7 hy7 kp7=>?_
     have k1_7:=kp7 _ _ _ k1_6;have k2_7:=kp7 _ _ _ k2_6;have hr7:=hr6.app (GRow.one (⟨4,[110,111,119],[⟨4,s.tick,[]⟩]⟩:bk) .full);simp only[go_sem,k1_7,k2_7,r2,r3];refine(hca _ (hH.trans hy7.1)).pthen ?_;simp only[go_sem,cq,mG,fZ,rS];intro i80 h80;have n81:i1≠i80:=fun e=>by rw[←e,k1_7]at h80;cases h80
     have n82:i2≠i80:=fun e=>by rw[←e,k2_7]at h80;cases h80
     simp only[go_sem];obtain⟨q8,eq8⟩:=hy7.row;cases dth:bX s.cases o.case
     ·simp only[go_sem]
      exact .mk (bH (fy s o)) (show Weak y7 _ by rw[eq8,show fy s o=((cK s o++ [(⟨2,[102,105,101,108,100],[idV o.field]⟩:bk)])++ [(⟨4,[110,111,119],[⟨4,s.tick,[]⟩]⟩:bk)]) by simp[fy,cK,dth,pf,pt]];exact hr7.weak q8) ((hH.trans hy7.1).put (jh (hH.trans hy7.1) h80) _) ⟨rfl,rfl⟩
     ·simp only[go_sem,aj,n82,k2_7,r3]
      by_cases p6:o.kind=6
      ·have d6:(o.kind !=6)=false:=by simp[p6]
       simp only[go_sem,d6];exact .mk (bH (fy s o)) (show Weak y7 _ by rw[eq8,show fy s o=((cK s o++ [(⟨2,[102,105,101,108,100],[idV o.field]⟩:bk)])++ [(⟨4,[110,111,119],[⟨4,s.tick,[]⟩]⟩:bk)]) by simp[fy,cK,dth,p6,pf,pt]];exact hr7.weak q8) ((hH.trans hy7.1).put (jh (hH.trans hy7.1) h80) _) ⟨rfl,rfl⟩
      ·have d6:(o.kind !=6)=true:=by simp[p6]
       simp only[go_sem,aj,n82,k2_7,r3,d6];refine(hak _).pthen ?_;simp only[go_sem,bH];refine(hy7.sub (.ak h80)).app (zs:=(cB (bt s.cases o.case) o.subj).map kG) adA abm (fun k hk=>(eJ kG 3 (fun _=>rfl) _ _).src cr hk) (by rw[cr];exact hr7.sized) acT ab7 fun yz Gz hyz kpz=>?_
       simp only[go_sem];obtain⟨qz,eqz⟩:=hyz.row;exact .mk (bH (fy s o)) (show Weak yz _ by rw[eqz,show fy s o=((cK s o++ [(⟨2,[102,105,101,108,100],[idV o.field]⟩:bk)])++ [(⟨4,[110,111,119],[⟨4,s.tick,[]⟩]⟩:bk)])++cB (bt s.cases o.case) o.subj by simp[fy,cK,dth,p6,pf,pt]];exact(hr7.app (GRow.givs _)).weak qz) (hH.trans hyz.1) ⟨rfl,rfl⟩
    ·have dt:(o.to==([]:Txt))=false:=by simp[pt]
     simp only[go_sem,k2_6,r3,dt];refine(rA _ _).pthen ?_;simp only[go_sem,aR,idV];refine(dK _ _ _ _ _).pthen ?_;simp only[go_sem];refine hy6.app (zs:=[zh (⟨2,[116,111],[idV o.to]⟩) .full]) adA abm (fun k hk=>(Rd.sl (fC _ _) .full:Rd _ 3 _ _).src cr hk) (by rw[cr];exact hr6.sized) aeI aci fun y9 G9 hy9 kp9=>?_
     have k1_9:=kp9 _ _ _ k1_6;have k2_9:=kp9 _ _ _ k2_6;have hr9:=hr6.app (GRow.one (⟨2,[116,111],[idV o.to]⟩:bk) .full);simp only[go_sem,k1_9,r2];refine(dK _ _ _ _ _).pthen ?_;simp only[go_sem];refine hy9.app (zs:=[zh (⟨4,[110,111,119],[⟨4,s.tick,[]⟩]⟩) .full]) adA abm (fun k hk=>(Rd.sl (fC _ _) .full:Rd _ 3 _ _).src cr hk) (by rw[cr];exact hr9.sized) aeI aci fun y10 G10 hy10 kp10=>?_
     have k1_10:=kp10 _ _ _ k1_9;have k2_10:=kp10 _ _ _ k2_9;have hr10:=hr9.app (GRow.one (⟨4,[110,111,119],[⟨4,s.tick,[]⟩]⟩:bk) .full);simp only[go_sem,k1_10,k2_10,r2,r3];refine(hca _ (hH.trans hy10.1)).pthen ?_;simp only[go_sem,cq,mG,fZ,rS];intro i110 h110;have n111:i1≠i110:=fun e=>by rw[←e,k1_10]at h110;cases h110
     have n112:i2≠i110:=fun e=>by rw[←e,k2_10]at h110;cases h110
     simp only[go_sem];obtain⟨q11,eq11⟩:=hy10.row;cases dth:bX s.cases o.case
     ·simp only[go_sem]
      exact .mk (bH (fy s o)) (show Weak y10 _ by rw[eq11,show fy s o=(((cK s o++ [(⟨2,[102,105,101,108,100],[idV o.field]⟩:bk)])++ [(⟨2,[116,111],[idV o.to]⟩:bk)])++ [(⟨4,[110,111,119],[⟨4,s.tick,[]⟩]⟩:bk)]) by simp[fy,cK,dth,pf,pt]];exact hr10.weak q11) ((hH.trans hy10.1).put (jh (hH.trans hy10.1) h110) _) ⟨rfl,rfl⟩
     ·simp only[go_sem,aj,n112,k2_10,r3]
      by_cases p6:o.kind=6
      ·have d6:(o.kind !=6)=false:=by simp[p6]
       simp only[go_sem,d6];exact .mk (bH (fy s o)) (show Weak y10 _ by rw[eq11,show fy s o=(((cK s o++ [(⟨2,[102,105,101,108,100],[idV o.field]⟩:bk)])++ [(⟨2,[116,111],[idV o.to]⟩:bk)])++ [(⟨4,[110,111,119],[⟨4,s.tick,[]⟩]⟩:bk)]) by simp[fy,cK,dth,p6,pf,pt]];exact hr10.weak q11) ((hH.trans hy10.1).put (jh (hH.trans hy10.1) h110) _) ⟨rfl,rfl⟩
      ·have d6:(o.kind !=6)=true:=by simp[p6]
       simp only[go_sem,aj,n112,k2_10,r3,d6];refine(hak _).pthen ?_;simp only[go_sem,bH];refine(hy10.sub (.ak h110)).app (zs:=(cB (bt s.cases o.case) o.subj).map kG) adA abm (fun k hk=>(eJ kG 3 (fun _=>rfl) _ _).src cr hk) (by rw[cr];exact hr10.sized) acT ab7 fun yz Gz hyz kpz=>?_
       simp only[go_sem];obtain⟨qz,eqz⟩:=hyz.row;exact .mk (bH (fy s o)) (show Weak yz _ by rw[eqz,show fy s o=(((cK s o++ [(⟨2,[102,105,101,108,100],[idV o.field]⟩:bk)])++ [(⟨2,[116,111],[idV o.to]⟩:bk)])++ [(⟨4,[110,111,119],[⟨4,s.tick,[]⟩]⟩:bk)])++cB (bt s.cases o.case) o.subj by simp[fy,cK,dth,p6,pf,pt]];exact(hr10.app (GRow.givs _)).weak qz) (hH.trans hyz.1) ⟨rfl,rfl⟩
end Go.Proofs.YtcochaoekecfdaaGreatDoor
namespace Go.Bf
open Go Go.Ab
def eqL{α:Type}(f:α→α→Bool):List α→List α→Bool
 | [],[]=>true
 |x::a,y::b=>f x y && eqL f a b
 |_,_=>false
theorem any_succ{α:Type}{q:α→Bool}{l:List α}{i:Nat}(h:i<l.length):(l.take (i+1)).any q=((l.take i).any q||q l[i]):=by
 grind [List.take_succ_eq_append_getElem]
end Go.Bf
namespace Go.Bf
def St:Txt:=[97,110,110]
end Go.Bf
namespace Go.Proofs.YtcochaoekecfdaaGreatDoor
open Go Go.Ab Go.Bf
def BE:List Value:=Lib.pow10Tab.map fun z=>Value.int .u64 z
def QD(ev:Value):Heap:=wq [(3,BE),(2,[ev])]
theorem I1{ev:Value}(hev:ev= .nilIface∨∃te pe,ev= .iface te pe):lu (QD ev):=⟨ev,hev,1,rfl⟩
end Go.Proofs.YtcochaoekecfdaaGreatDoor
