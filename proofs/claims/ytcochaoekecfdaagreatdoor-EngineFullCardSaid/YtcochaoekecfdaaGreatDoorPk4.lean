/- The law EngineFull: pack 4 of its texts. -/
import Derived.Lib.AtoiAll
import Derived.Shelf.Small.Strs
import Derived.Shelf.Small.Wraps
import Derived.Shelf.Strconv.AtoiAll
import Derived.Shelf.Strconv.ErrVarAll
import Derived.Shelf.Strings.Search1
import Derived.Test.YtcochaoekecfdaaGreatDoorProg
import Derived.KernelRfl
import Derived.WalkKit
import Derived.BigCall
import Derived.Test.YtcochaoekecfdaaGreatDoorPk1
import Derived.Test.YtcochaoekecfdaaGreatDoorPk2
import Derived.Test.YtcochaoekecfdaaGreatDoorPk3
set_option linter.unusedSimpArgs false
set_option linter.unusedVariables false
set_option maxRecDepth 100000
namespace Go.Bf
open Go Go.Ab
structure rJ where
 kind:Int
 pos:Int
 n:Int
 s:Txt
def fD(t:rJ):AV:=.agg [.i t.kind,.i t.pos,.i t.n,.s t.s]
def wrd(c:UInt8):Bool:=ltr c||dgt c||(c.toNat:Int)==95
def pS(l:Txt):Nat:=l.foldl (fun n c=>n*10+(c.toNat - 48)) 0
def eP(neg:Bool)(s:Txt):Int×Nat:=
 let d:=s.takeWhile dgt
 if d= []∨(1<d.length∧s.head? =some 48)then(0,0)else
 let v:Int:=if neg then -(pS d:Int)else(pS d:Int)
 if -9223372036854775808≤v∧v≤9223372036854775807 then(v,d.length)else(0,0)
def jA(s:Txt):Txt:=if bt (s.takeWhile wrd)then s.takeWhile wrd else []
def jB(c:UInt8):Int:=if dgt c then(c.toNat:Int) - 48 else if 97≤(c.toNat:Int)∧(c.toNat:Int)≤102 then(c.toNat:Int) - 87 else -1
def tO:Txt→Option UInt8
 |b::x::y::_=>if b=92∧0≤jB x∧0≤jB y∧FU (UInt8.ofNat (16*jB x+jB y).toNat)=true then some (UInt8.ofNat (16*jB x+jB y).toNat)else none
 |_=>none
def uk:Nat→Txt→Nat→Txt→Txt×Nat
 |0,_,_,_=>([],0)
 |_+1,[],_,_=>([],0)
 |f+1,c::r,at_,out=>
  if c=34 then(if 64<out.length then([],0)else(out,at_+1))
  else if FU c=false then uk f r (at_+1) (out++ [c])
  else match tO (c::r)with
   |some b=>uk f (r.drop 2) (at_+3) (out++ [b])
   |none=>([],0)
def zq(s:Txt):Txt×Nat:=uk s.length (s.drop 1) 1 []
def DD(c:UInt8):Bool:=c∈([123,125,40,41,46,44,59,61,60,62,33]:Txt)
def bS(s:Txt):rJ×Nat:=
 let c:=s.headD 0
 if ltr c then(⟨1,0,0,jA s⟩,(jA s).length)
 else if dgt c then(⟨2,0,(eP false s).1,[]⟩,(eP false s).2)
 else if c=45 then(⟨2,0,(eP true (s.drop 1)).1,[]⟩,if(eP true (s.drop 1)).1=0 then 0 else(eP true (s.drop 1)).2+1)
 else if c=64 then(⟨3,0,(eP false (s.drop 1)).1,[]⟩,if(eP false (s.drop 1)).2=0∨(eP false (s.drop 1)).1>1099511627776 then 0 else(eP false (s.drop 1)).2+1)
 else if c=35 then(⟨4,0,0,jA (s.drop 1)⟩,if jA (s.drop 1)= []then 0 else(jA (s.drop 1)).length+1)
 else if c=34 then(⟨5,0,0,(zq s).1⟩,(zq s).2)
 else if DD c then(⟨6,0,0,[c]⟩,1)
 else(⟨0,0,0,[]⟩,0)
inductive Lexed where
 |bad (e:Int) (at_:Int)
 |ok (l:List rJ)
def qg(c:UInt8):Bool:=(c.toNat:Int)==32||(c.toNat:Int)==10
def tM:Nat→Txt→Nat→List rJ→Lexed
 |0,_,at_,_=> .bad 5 at_
 |_+1,[],at_,out=> .ok (out++ [⟨7,at_,0,[]⟩])
 |f+1,c::r,at_,out=>
  if qg c then tM f r (at_+1) out
  else if(bS (c::r)).2=0 then .bad 5 at_
  else tM f ((c::r).drop (bS (c::r)).2) (at_+(bS (c::r)).2) (out++ [{(bS (c::r)).1 with pos:=at_}])
def sA(s:Txt):Lexed:=if s.length>4096 then .bad 6 4096 else tM (s.length+1) s 0 []
theorem jU(p:UInt8→Bool)(s:Txt):(s.takeWhile p).length≤s.length:=(List.takeWhile_prefix p).length_le
theorem qZ(p:UInt8→Bool)(s:Txt):s.take (s.takeWhile p).length=s.takeWhile p:=by
 obtain⟨t,ht⟩:=List.takeWhile_prefix (l:=s) p
 grind
theorem oU(neg:Bool)(s:Txt):(eP neg s).2≤s.length:=by
 have:=jU dgt s;unfold eP;simp only;split
 ·exact afu
 ·generalize (if neg=true then -(pS (s.takeWhile dgt):Int)else(pS (s.takeWhile dgt):Int))=v
  split
  ·exact ac8
  ·exact afu
theorem uw(s:Txt):(jA s).length≤s.length:=by
 grind [jU,wrd,jA]
theorem DK{s:Txt}{b:UInt8}(h:tO s=some b):3≤s.length:=by
 match s,h with
 |_::_::_::_,_=>simp
theorem zu:∀(f:Nat) (r:Txt) (at_:Nat) (out:Txt),(uk f r at_ out).2≤at_+r.length
 |0,_,_,_=>by simp[uk]
 |_+1,[],_,_=>by simp[uk]
 |f+1,c::r,at_,out=>by
  simp only[uk];split
  ·grind
  ·split
   ·have:=zu f r (at_+1) (out++ [c]);simp only[List.length_cons];omega
   ·split
    ·rename_i b hb
     have h3:=DK hb;have:=zu f (r.drop 2) (at_+3) (out++ [b]);simp only[List.length_cons,List.length_drop]at this h3⊢;omega
    ·simp
theorem rZ(s:Txt)(hs:s≠ []):(bS s).2≤s.length:=by
 have h1:1≤s.length:=acp;have hd:(s.drop 1).length=s.length - 1:=acw;have k1:=uw s;have k2:=uw (s.drop 1);have k3:=oU false s;have k4:=oU false (s.drop 1);have k5:=oU true (s.drop 1);have k6:=zu s.length (s.drop 1) 1 [];unfold bS;simp only;split
 ·exact k1
 split
 ·exact k3
 split
 ·simp only;split<;>omega
 split
 ·simp only;split<;>omega
 split
 ·simp only;split<;>omega
 split
 ·simp only[zq];omega
 split
 ·simp only;omega
 ·simp
structure PS where
 ts:List rJ
 pos:Nat
 rules:Nat
 bad:Int
 place:Int
def aL(st:PS):rJ:=st.ts.getD st.pos ⟨7,0,0,[]⟩
def bI(st:PS)(e p:Int):PS:=if st.bad=0 then {st with bad:=e,place:=p} else st
def bn(st:PS):PS:=bI st 5 (aL st).pos
def bF(st:PS)(more:Bool):PS:=if more then bI st 6 (aL st).pos else st
def isD(st:PS)(s:Txt):Bool:=st.bad==0 && ((aL st).s==s && ((aL st).kind==1||(aL st).kind==6))
def bh(st:PS):PS:={st with pos:=st.pos+1}
def cu(st:PS)(s:Txt):Bool×PS:=if isD st s=true then(true,bh st)else(false,st)
def dQ(st:PS)(s:Txt):PS:=if isD st s=true then bh st else bn st
def ct(st:PS):Txt×PS:=
 if(aL st).kind=1∧st.bad=0 then((aL st).s,bh st)else([],if(aL st).kind=1 then st else bn st)
def uT(s:Txt):List Txt→Option Nat
 | []=>none
 |w::r=>if w=s then some 0 else(uT s r).map (· +1)
def aZ(st:PS)(ws:List Txt):Int×PS:=match uT (aL st).s ws with
 |some i=>if(aL st).kind=1∧st.bad=0 then((i:Int)+1,bh st)else(0,bn st)
 |none=>(0,bn st)
def WfP(st:PS):Prop:=st.pos<st.ts.length∧(∀i (h:i<st.ts.length),st.ts[i].kind≠7→i+1<st.ts.length)∧st.ts.length≤5000
theorem Dm{st:PS}(h:st.pos<st.ts.length):aL st=st.ts[st.pos]:=by
 grind [aL,List.getElem?_eq_getElem]
theorem JX{st:PS}(e p:Int)(h:WfP st):WfP (bI st e p):=by
 unfold bI;split<;>exact h
theorem MJ{st:PS}(h:WfP st)(hk:(aL st).kind≠7):WfP (bh st):=by
 rw[Dm h.1]at hk;exact⟨h.2.1 _ h.1 hk,h.2⟩
theorem dH{st:PS}{s:Txt}(h:isD st s=true):(aL st).kind≠7:=by
 simp only[isD,Bool.and_eq_true,Bool.or_eq_true,beq_iff_eq]at h;omega
def Ah(st st' :PS):Prop:=WfP st'∧st'.ts=st.ts∧st.pos≤st'.pos
theorem Ah.refl{st:PS}(h:WfP st):Ah st st:=⟨h,rfl,Nat.le_refl _⟩
theorem Ah.trans{a b c:PS}(x:Ah a b)(y:Ah b c):Ah a c:=⟨y.1,y.2.1.trans x.2.1,Nat.le_trans x.2.2 y.2.2⟩
theorem xz{st:PS}(e p:Int)(h:WfP st):Ah st (bI st e p):=⟨JX e p h,by grind [bI],by unfold bI;grind⟩
theorem eO{st:PS}(h:WfP st)(hk:(aL st).kind≠7):Ah st (bh st):=⟨MJ h hk,rfl,Nat.le_succ _⟩
theorem nO{st:PS}(h:WfP st):Ah st (bn st):=xz _ _ h
theorem kU{st:PS}(b:Bool)(h:WfP st):Ah st (bF st b):=by
 unfold bF;split
 ·grind [xz]
 ·exact aeK
theorem Na{st:PS}(s:Txt)(h:WfP st):Ah st (cu st s).2:=by
 unfold cu;split
 ·grind [eO,dH]
 ·exact aeK
theorem jb{st:PS}(s:Txt)(h:WfP st):Ah st (dQ st s):=by
 grind [dQ,eO,dH,nO]
theorem mO{st:PS}(h:WfP st):Ah st (ct st).2:=by
 unfold ct;split
 ·grind [eO]
 ·simp only;split
  ·exact aeK
  grind [nO]
theorem gA{st:PS}(ws:List Txt)(h:WfP st):Ah st (aZ st ws).2:=by
 grind [aZ,eO,nO]
def vK:List Txt:=[[115,117,98,106,101,99,116],[97,99,116,105,111,110],[99,97,115,101],[101,110,118]]
def fT(st:PS):pW×PS:=
 (⟨(aZ st vK).1,(ct (dQ (aZ st vK).2 [46])).1,(cu (ct (dQ (aZ st vK).2 [46])).2 [33]).1⟩,(cu (ct (dQ (aZ st vK).2 [46])).2 [33]).2)
theorem BD{st:PS}(h:WfP st):Ah st (fT st).2:=by
 have h1:=gA vK h;have h2:=jb [46] h1.1;have h3:=mO h2.1;exact((h1.trans h2).trans h3).trans (Na [33] h3.1)
def wH:Txt:=[116,114,117,101]
def qw:Txt:=[102,97,108,115,101]
def fS(st:PS):bD×PS:=
 if(aL st).kind=2 then(⟨2,(aL st).n,(aL st).s⟩,st)
 else if(aL st).kind=3 then(⟨4,(aL st).n,(aL st).s⟩,st)
 else if(aL st).kind=4 then(⟨5,(aL st).n,(aL st).s⟩,st)
 else if(aL st).kind=5 then(⟨3,(aL st).n,(aL st).s⟩,st)
 else if isD st wH then(⟨1,1,[]⟩,st)
 else if isD st qw then(⟨1,0,[]⟩,st)
 else(⟨0,(aL st).n,(aL st).s⟩,bn st)
def aD(st:PS):bD×PS:=if(fS st).2.bad=0 then((fS st).1,bh (fS st).2)else(⟨0,0,[]⟩,(fS st).2)
theorem rG(st:PS):(bn st).bad≠0:=by
 grind [bn,bI,Int]
theorem ur(st:PS):(fS st).2=st∧(aL st).kind≠7∨(fS st).2=bn st:=by
 unfold fS;split
 ·grind
 split
 ·grind
 split
 ·grind
 split
 ·grind
 split
 ·rename_i h;exact .inl ⟨rfl,dH h⟩
 split
 ·rename_i h;exact .inl ⟨rfl,dH h⟩
 simp
theorem Cz{st:PS}(h:WfP st):Ah st (aD st).2:=by
 unfold aD;rcases ur st with⟨e,hk⟩|e
 ·rw[e];split
  ·grind [eO]
  ·exact aeK
 simp_all [if_neg,rG,nO]
def opP(st:PS):Int×PS:=
 if isD st [61]then(1,bh st)else if isD st [60]then(2,bh st)else if isD st [62]then(3,bh st)else(0,bn st)
theorem Th{st:PS}(h:WfP st):Ah st (opP st).2:=by
 grind [opP,eO,dH,nO]
def gw(st:PS):bM×PS:=(⟨(fT st).1,(opP (fT st).2).1,(aD (opP (fT st).2).2).1⟩,(aD (opP (fT st).2).2).2)
theorem pY{st:PS}(h:WfP st):Ah st (gw st).2:=by
 have h1:=BD h;have h2:=Th h1.1;exact(h1.trans h2).trans (Cz h2.1)
def fL{α:Type}(one:PS→α×PS)(w:Txt)(most:Nat):Nat→PS→List α→List α×PS
 |0,st,l=>(l,st)
 |f+1,st,l=>if isD st w=true then fL one w most f (bF (one (bh st)).2 (decide (most<l.length+1))) (l++ [(one (bh st)).1])else(l,st)
theorem sW{α:Type}{one:PS→α×PS}(ho:∀st,WfP st→Ah st (one st).2)(w:Txt)(most:Nat):∀(f:Nat) (st:PS) (l:List α),WfP st→Ah st (fL one w most f st l).2
 |0,st,l,h=> .refl h
 |f+1,st,l,h=>by
  unfold fL;split
  ·rename_i hi
   have h1:=eO h (dH hi);have h2:=ho _ h1.1;have h3:=kU (decide (most<l.length+1)) h2.1;exact((h1.trans h2).trans h3).trans (sW ho w most f _ _ h3.1)
  ·exact aeK
def orT:Txt:=[111,114]
def CB:Txt:=[97,110,100]
def EE:Txt:=[119,104,101,110]
def pR(st:PS):List bM×PS:=fL gw [44] 8 st.ts.length (gw st).2 [(gw st).1]
theorem BB{st:PS}(h:WfP st):Ah st (pR st).2:=(pY h).trans (sW (fun _ h=>pY h) _ _ _ _ _ (pY h).1)
def rK(st:PS):List (List bM)×PS:=
 let a:=pR (dQ st [40])
 let m:=fL pR orT 8 st.ts.length a.2 [a.1]
 (m.1,dQ m.2 [41])
theorem BC{st:PS}(h:WfP st):Ah st (rK st).2:=by
 have h0:=jb [40] h;have h1:=BB h0.1;have h2:=sW (fun _ h=>BB h) orT 8 st.ts.length _ [(pR (dQ st [40])).1] h1.1
 exact((h0.trans h1).trans h2).trans (jb [41] h2.1)
def gM(st:PS):fO×PS:=if isD st EE=true then fL rK CB 8 st.ts.length (rK (bh st)).2 [(rK (bh st)).1]else([],st)
theorem BH{st:PS}(h:WfP st):Ah st (gM st).2:=by
 unfold gM;split
 ·rename_i hi
  have h0:=eO h (dH hi);have h1:=BC h0.1;exact(h0.trans h1).trans (sW (by grind [BC]) _ _ _ _ _ h1.1)
 ·exact aeK
def lH:List Txt:=[[111,110,101],[115,105,122,101],[104,97,115],[101,113],[108,101,115,115],[97,100,100],[115,117,98],[109,117,108],[110,111,116],[97,110,100],[111,114]]
def opers(op:Int):List Bool:=if op=3∨op=4 then [true]else if op=5 then [true,false]else if op=11 then [false]else [false,false]
abbrev ExF:=PS→List aM→(List aM×Bool)×PS
def ie(ex:ExF)(st:PS)(l:List aM)(must:Bool):List aM×PS:=
 ((ex st l).1.1,if(ex st l).1.2=must then(ex st l).2 else bI (ex st l).2 5 (aL st).pos)
def jl(ex:ExF):List Bool→PS→List aM→List aM×PS
 | [],st,l=>(l,st)
 |b::bs,st,l=>if st.bad=0 then jl ex bs (ie ex st l b).2 (ie ex st l b).1 else(l,st)
def qA(ex:ExF)(st:PS)(l:List aM):(List aM×aM)×PS:=
 (((jl ex (opers (2+(aZ st lH).1)) (aZ st lH).2 l).1,⟨2+(aZ st lH).1,⟨0,0,[]⟩,⟨0,[],false⟩⟩),dQ (jl ex (opers (2+(aZ st lH).1)) (aZ st lH).2 l).2 [41])
def iW(ex:ExF)(st:PS)(l:List aM):(List aM×aM)×PS:=
 if isD st [40]=true then qA ex (bh st) l
 else if(aL st).kind=1∧(aL st).s≠wH∧(aL st).s≠qw then((l,⟨2,⟨0,0,[]⟩,(fT st).1⟩),(fT st).2)
 else((l,⟨1,(aD st).1,⟨0,[],false⟩⟩),(aD st).2)
def dY:Nat→ExF
 |0,st,l=>((l,false),st)
 |f+1,st,l=>(((iW (dY f) st l).1.1++ [(iW (dY f) st l).1.2],(iW (dY f) st l).1.2.op==2),bF (iW (dY f) st l).2 (decide (32<(iW (dY f) st l).1.1.length+1)))
def EK(ex:ExF):Prop:=∀st l,WfP st→Ah st (ex st l).2∧(ex st l).1.1.length+2*st.pos≤l.length+2*(ex st l).2.pos+1
theorem yK{ex:ExF}(he:EK ex)(st:PS)(l:List aM)(b:Bool)(h:WfP st):Ah st (ie ex st l b).2∧(ie ex st l b).1.length+2*st.pos≤l.length+2*(ie ex st l b).2.pos+1:=by
 obtain⟨h1,h2⟩:=he st l h;unfold ie;split
 ·grind
 ·refine⟨h1.trans (xz _ _ h1.1),?_⟩
  grind [bI,aL]
theorem AX{ex:ExF}(he:EK ex):∀(bs:List Bool) (st:PS) (l:List aM),WfP st→Ah st (jl ex bs st l).2∧(jl ex bs st l).1.length+2*st.pos≤l.length+2*(jl ex bs st l).2.pos+bs.length
 | [],st,l,h=>⟨.refl h,by simp[jl]⟩
 |b::bs,st,l,h=>by
  unfold jl;split
  ·obtain⟨h1,h2⟩:=yK he st l b h
   obtain⟨h3,h4⟩:=AX he bs (ie ex st l b).2 (ie ex st l b).1 h1.1;exact⟨h1.trans h3,acp⟩
  ·exact⟨.refl h,acw⟩
theorem DO(op:Int):(opers op).length≤2:=by
 grind [opers]
theorem K6{ex:ExF}(he:EK ex)(st:PS)(l:List aM)(h:WfP st):Ah st (qA ex st l).2∧(qA ex st l).1.1.length+2*st.pos≤l.length+2*(qA ex st l).2.pos+2:=by
 have h1:=gA lH h;obtain⟨h2,h3⟩:=AX he (opers (2+(aZ st lH).1)) _ l h1.1;have h4:=jb [41] h2.1;have:=DO (2+(aZ st lH).1);have p1:=h1.2.2;have p4:=h4.2.2;unfold qA;exact⟨(h1.trans h2).trans h4,acp⟩
theorem Dl{ex:ExF}(he:EK ex)(st:PS)(l:List aM)(h:WfP st):Ah st (iW ex st l).2∧(iW ex st l).1.1.length+2*st.pos≤l.length+2*(iW ex st l).2.pos:=by
 unfold iW;split
 ·rename_i hi
  have h1:=eO h (dH hi);obtain⟨h2,h3⟩:=K6 he _ l h1.1;have:(bh st).pos=st.pos+1:=rfl;exact⟨h1.trans h2,aco⟩
 ·split
  ·have h1:=BD h
   have:=h1.2.2;exact⟨h1,acp⟩
  ·have h1:=Cz h
   have:=h1.2.2;exact⟨h1,acp⟩
theorem qv:∀f,EK (dY f)
 |0=>fun st l h=>⟨.refl h,by simp[dY]⟩
 |f+1=>fun st l h=>by
  obtain⟨h1,h2⟩:=Dl (qv f) st l h;have h3:=kU (decide (32<(iW (dY f) st l).1.1.length+1)) h1.1;have:=h3.2.2;refine⟨h1.trans h3,?_⟩
  grind [dY,ach,List.length_singleton]
def vf:List Txt:=[[112,101,114,109,105,116],[100,101,110,121]]
def mu:List Txt:=[[108,111,103],[114,101,100,97,99,116],[114,101,118,105,101,119],[110,111,116,105,102,121]]
def wj:Txt:=[111,110]
def zT(st:PS):cD×PS:=
 (⟨(aZ st vf).1,(aZ (aZ st vf).2 mu).1,(ct (aZ (aZ st vf).2 mu).2).1⟩,(ct (aZ (aZ st vf).2 mu).2).2)
theorem Kf{st:PS}(h:WfP st):Ah st (zT st).2:=by
 have h1:=gA vf h;have h2:=gA mu h1.1;exact(h1.trans h2).trans (mO h2.1)
def gm(st:PS):List cD×PS:=fL zT wj 8 st.ts.length st []
theorem BF{st:PS}(h:WfP st):Ah st (gm st).2:=sW (fun _ h=>Kf h) _ _ _ _ _ h
inductive Rch (a:PS):PS→Prop where
 |refl:Rch a a
 |wrong {b:PS} (e p:Int):Rch a b→(e=5∨e=6)→(∃i,i≤b.pos∧p=(b.ts.getD i ⟨7,0,0,[]⟩).pos)→Rch a (bI b e p)
 |next {b:PS}:Rch a b→b.bad=0→(aL b).kind≠7→Rch a (bh b)
theorem Rch.trans{a b c:PS}(x:Rch a b)(y:Rch b c):Rch a c:=by
 induction y with
 |refl=>exact x
 |wrong e p _ h1 h2 ih=>grind [wrong]
 |next _ h1 h2 ih=>grind [next]
theorem kr(st:PS):Rch st (bn st):=.wrong _ _ .refl (.inl rfl) ⟨st.pos,Nat.le_refl _,rfl⟩
theorem rC(st:PS)(b:Bool):Rch st (bF st b):=by
 unfold bF;split
 ·exact .wrong _ _ .refl (.inr rfl) ⟨st.pos,Nat.le_refl _,rfl⟩
 ·exact aeP
theorem Hf{st:PS}{s:Txt}(h:isD st s=true):st.bad=0:=by
 simp_all [isD,Bool.and_eq_true,beq_iff_eq]
theorem sJ{st:PS}{s:Txt}(h:isD st s=true):Rch st (bh st):=.next .refl (Hf h) (dH h)
theorem L8(st:PS)(s:Txt):Rch st (cu st s).2:=by
 unfold cu;split
 ·grind [sJ]
 ·exact aeP
theorem mI(st:PS)(s:Txt):Rch st (dQ st s):=by
 grind [dQ,sJ,kr]
theorem uf(st:PS):Rch st (ct st).2:=by
 unfold ct;split
 ·rename_i h;exact .next .refl h.2 aco
 ·simp only;split
  ·exact aeP
  grind [kr]
theorem mo(st:PS)(ws:List Txt):Rch st (aZ st ws).2:=by
 unfold aZ;split
 ·split
  ·rename_i h;exact .next .refl h.2 aco
  grind [kr]
 grind [kr]
theorem D5(st:PS):Rch st (fT st).2:=(((mo st vK).trans (mI _ [46])).trans (uf _)).trans (L8 _ [33])
theorem A8(st:PS):Rch st (aD st).2:=by
 unfold aD;rcases ur st with⟨e,hk⟩|e
 ·rw[e];split
  ·rename_i h;exact .next .refl h hk
  ·exact aeP
 simp_all [if_neg,rG,kr]
theorem Rp(st:PS):Rch st (opP st).2:=by
 grind [opP,sJ,kr]
theorem A6(st:PS):Rch st (gw st).2:=((D5 st).trans (Rp _)).trans (A8 _)
theorem qR{α:Type}{one:PS→α×PS}(ho:∀st,Rch st (one st).2)(w:Txt)(most:Nat):∀(f:Nat) (st:PS) (l:List α),Rch st (fL one w most f st l).2
 |0,st,l=> .refl
 |f+1,st,l=>by
  unfold fL;split
  ·rename_i h
   exact(((sJ h).trans (ho _)).trans (rC _ _)).trans (qR ho w most f _ _)
  ·exact aeP
theorem HF(st:PS):Rch st (pR st).2:=(A6 st).trans (qR A6 _ _ _ _ _)
theorem HG(st:PS):Rch st (rK st).2:=(((mI st [40]).trans (HF _)).trans (qR HF orT 8 st.ts.length _ [(pR (dQ st [40])).1])).trans (mI _ [41])
theorem HH(st:PS):Rch st (gM st).2:=by
 unfold gM;split
 ·rename_i h;exact((sJ h).trans (HG _)).trans (qR HG _ _ _ _ _)
 ·exact aeP
theorem Of(st:PS):Rch st (zT st).2:=((mo st vf).trans (mo _ mu)).trans (uf _)
theorem D9(st:PS):Rch st (gm st).2:=qR Of _ _ _ _ _
theorem rD{a b:PS}(h:Rch a b):b.ts=a.ts∧a.pos≤b.pos∧b.rules=a.rules:=by
 induction h with
 |refl=>simp
 |wrong e p _ _ _ ih=>
  grind [bI]
 |next _ _ _ ih=>exact⟨ih.1,Nat.le_succ_of_le ih.2.1,ih.2.2⟩
theorem Ea{ex:ExF}(he:∀st l,Rch st (ex st l).2)(st:PS)(l:List aM)(b:Bool):Rch st (ie ex st l b).2:=by
 unfold ie;simp only;split
 ·grind
 ·have:=rD (he st l)
  exact .wrong _ _ (he st l) (.inl rfl) ⟨st.pos,this.2.1,by rw[this.1];rfl⟩
theorem A7{ex:ExF}(he:∀st l,Rch st (ex st l).2):∀(bs:List Bool) (st:PS) (l:List aM),Rch st (jl ex bs st l).2
 | [],st,l=> .refl
 |b::bs,st,l=>by
  unfold jl;split
  ·exact(Ea he st l b).trans (A7 he bs _ _)
  ·exact aeP
theorem D6:∀(f:Nat) (st:PS) (l:List aM),Rch st (dY f st l).2
 |0,st,l=> .refl
 |f+1,st,l=>by
  refine Rch.trans ?_ (rC _ _);unfold iW;split
  ·rename_i h
   exact(sJ h).trans (((mo _ lH).trans (A7 (D6 f) _ _ _)).trans (mI _ [41]))
  grind [D5,A8]
def ifT:Txt:=[105,102]
def oZ:Txt:=[112,101,114,109,105,116]
def iS:Txt:=[100,101,110,121]
def o6:Txt:=[112,111,108,105,99,121]
def F6:Txt:=[115,101,116]
def mF:List Txt:=[o6,F6]
def xA:List Txt:=[[100,101,110,121,111,118,101,114],[112,101,114,109,105,116,111,118,101,114],[102,105,114,115,116],[111,110,108,121],[100,101,110,121,117,110,108,101,115,115],[112,101,114,109,105,116,117,110,108,101,115,115]]
def qq(st:PS):List aM×PS:=if isD st ifT=true then ie (dY st.ts.length) (bh st) [] false else([],st)
theorem L7(st:PS):Rch st (qq st).2:=by
 unfold qq;split
 ·rename_i h;exact(sJ h).trans (Ea (D6 _) _ _ _)
 ·exact aeP
theorem Gy{st:PS}(h:WfP st):Ah st (qq st).2:=by
 unfold qq;split
 ·rename_i hi
  have h1:=eO h (dH hi);exact h1.trans (yK (qv _) _ _ _ h1.1).1
 ·exact aeK
def pO(deny:Bool)(st:PS):cN×PS:=
 (⟨(ct st).1,deny,(gM (ct st).2).1,(qq (gM (ct st).2).2).1,(gm (qq (gM (ct st).2).2).2).1⟩,dQ (gm (qq (gM (ct st).2).2).2).2 [59])
theorem yY(deny:Bool)(st:PS):Rch st (pO deny st).2:=((((uf st).trans (HH _)).trans (L7 _)).trans (D9 _)).trans (mI _ [59])
theorem BG(deny:Bool){st:PS}(h:WfP st):Ah st (pO deny st).2:=by
 have h1:=mO h;have h2:=BH h1.1;have h3:=Gy h2.1;have h4:=BF h3.1;exact(((h1.trans h2).trans h3).trans h4).trans (jb [59] h4.1)
inductive nD (a:PS):PS→Prop where
 |refl:nD a a
 |small {b c:PS}:nD a b→Rch b c→nD a c
 |rule {b:PS}:nD a b→b.bad=0→b.rules≠64→(aL b).kind≠7→nD a {bh b with rules:=b.rules+1}
theorem nD.trans{a b c:PS}(x:nD a b)(y:nD b c):nD a c:=by
 induction y with
 |refl=>exact x
 |small _ h1 ih=>grind [small]
 |rule _ h1 h2 h3 ih=>grind [rule]
theorem Rch.big{a b:PS}(h:Rch a b):nD a b:=.small .refl h
def jS:Nat→PS→List cN→List cN×PS
 |0,st,l=>(l,st)
 |f+1,st,l=>if isD st oZ=true∨isD st iS=true then
   if l.length=16∨st.rules=64 then(l,bF st true)
   else jS f (pO (isD st iS) {bh st with rules:=st.rules+1}).2 (l++ [(pO (isD st iS) {bh st with rules:=st.rules+1}).1])
  else(l,st)
abbrev PoF:=PS→bB×PS
def jL(pol:PoF)(deep:Bool):Nat→PS→List bB→List bB×PS
 |0,st,l=>(l,st)
 |f+1,st,l=>if isD st o6=true∨isD st F6=true then
   if l.length=16∨deep=true then(l,bF st true)
   else jL pol deep f (pol st).2 (l++ [(pol st).1])
  else(l,st)
def cW(st:PS):(Bool×Txt×Int×fO)×PS:=
 (((aZ st mF).1==2,(ct (aZ st mF).2).1,(aZ (ct (aZ st mF).2).2 xA).1,(gM (aZ (ct (aZ st mF).2).2 xA).2).1),dQ (gM (aZ (ct (aZ st mF).2).2 xA).2).2 [123])
theorem D7(st:PS):Rch st (cW st).2:=((((mo st mF).trans (uf _)).trans (mo _ xA)).trans (HH _)).trans (mI _ [123])
theorem M8{st:PS}(h:WfP st):Ah st (cW st).2:=by
 have h1:=gA mF h;have h2:=mO h1.1;have h3:=gA xA h2.1;have h4:=BH h3.1;exact(((h1.trans h2).trans h3).trans h4).trans (jb [123] h4.1)
def pH(pol:PoF)(deep:Bool)(set:Bool)(st:PS):(List cN×List bB)×PS:=
 if set=true then(([],(jL pol deep 17 st []).1),(jL pol deep 17 st []).2)else(((jS 17 st []).1,[]),(jS 17 st []).2)
def gD:Nat→PoF
 |0,st=>(.mk [] false 0 [] [] [] [],st)
 |r+1,st=>(.mk (cW st).1.2.1 (cW st).1.1 (cW st).1.2.2.1 (cW st).1.2.2.2 (pH (gD r) (r==0) (cW st).1.1 (cW st).2).1.1 (pH (gD r) (r==0) (cW st).1.1 (cW st).2).1.2
   (gm (dQ (pH (gD r) (r==0) (cW st).1.1 (cW st).2).2 [125])).1,(gm (dQ (pH (gD r) (r==0) (cW st).1.1 (cW st).2).2 [125])).2)
theorem mD{st:PS}{a b:Txt}(h:isD st a=true∨isD st b=true):st.bad=0∧(aL st).kind≠7:=by
 grind [Hf,dH]
theorem xy{st:PS}(h:WfP st)(hk:(aL st).kind≠7):Ah st {bh st with rules:=st.rules+1}:=eO h hk
theorem GC:∀(f:Nat) (st:PS) (l:List cN),WfP st→Ah st (jS f st l).2
 |0,st,l,h=> .refl h
 |f+1,st,l,h=>by
  unfold jS;split
  ·rename_i hi
   split
   ·exact kU true h
   ·have h1:=xy h (mD hi).2
    have h2:=BG (isD st iS) h1.1;exact(h1.trans h2).trans (GC f _ _ h2.1)
  ·exact aeK
theorem Eb:∀(f:Nat) (st:PS) (l:List cN),nD st (jS f st l).2
 |0,st,l=> .refl
 |f+1,st,l=>by
  unfold jS;split
  ·rename_i hi
   split
   ·exact(rC st true).big
   ·rename_i hn
    have h1:nD st {bh st with rules:=st.rules+1}:=.rule .refl (mD hi).1 aco (mD hi).2
    exact(h1.trans (yY (isD st iS) _).big).trans (Eb f _ _)
  ·exact aeP
theorem GA{pol:PoF}(hp:∀st,WfP st→Ah st (pol st).2)(deep:Bool):∀(f:Nat) (st:PS) (l:List bB),WfP st→Ah st (jL pol deep f st l).2
 |0,st,l,h=> .refl h
 |f+1,st,l,h=>by
  unfold jL;split
  ·split
   ·exact kU true h
   ·have h1:=hp st h
    exact h1.trans (GA hp deep f _ _ h1.1)
  ·exact aeK
theorem D8{pol:PoF}(hp:∀st,nD st (pol st).2)(deep:Bool):∀(f:Nat) (st:PS) (l:List bB),nD st (jL pol deep f st l).2
 |0,st,l=> .refl
 |f+1,st,l=>by
  unfold jL;split
  ·split
   ·exact(rC st true).big
   ·exact(hp st).trans (D8 hp deep f _ _)
  ·exact aeP
theorem BE{pol:PoF}(hp:∀st,WfP st→Ah st (pol st).2)(deep set:Bool){st:PS}(h:WfP st):Ah st (pH pol deep set st).2:=by
 grind [pH,GA,GC]
theorem L6{pol:PoF}(hp:∀st,nD st (pol st).2)(deep set:Bool)(st:PS):nD st (pH pol deep set st).2:=by
 grind [pH,D8,Eb]
theorem xx:∀(r:Nat) (st:PS),WfP st→Ah st (gD r st).2
 |0,st,h=> .refl h
 |r+1,st,h=>by
  have h1:=M8 h;have h2:=BE (xx r) (r==0) (cW st).1.1 h1.1;have h3:=jb [125] h2.1;exact((h1.trans h2).trans h3).trans (BF h3.1)
theorem Ce:∀(r:Nat) (st:PS),nD st (gD r st).2
 |0,st=> .refl
 |r+1,st=>(((D7 st).big.trans (L6 (Ce r) _ _ _)).trans (mI _ [125]).big).trans (D9 _).big
theorem vo{a b:PS}(h:nD a b)(h0:a.rules≤64):b.rules≤64:=by
 induction h with
 |refl=>omega
 |small _ h1 ih=>rw[(rD h1).2.2];omega
 |rule _ _ h2 _ ih=>grind
theorem uY:∀(f:Nat) (s:Txt) (a:Nat) (out l:List rJ),tM f s a out= .ok l→∃pre,l=out++pre++ [⟨7,(a+s.length:Nat),0,[]⟩]∧pre.length≤s.length∧∀t∈pre,(a:Int)≤t.pos∧t.pos<((a+s.length:Nat):Int)
 |0,_,_,_,_,h=>by grind [tM]
 |f+1,[],a,out,l,h=>by
  grind [tM,Lexed.ok.injEq]
 |f+1,c::r,a,out,l,h=>by
  simp only[tM]at h;split at h
  ·obtain⟨pre,e1,e2,e3⟩:=uY f r (a+1) out l h
   grind
  ·split at h
   ·cases h
   ·rename_i hn
    have hle:=rZ (c::r) acw;obtain⟨pre,e1,e2,e3⟩:=uY f _ _ _ l h;have ee:((a+(bS (c::r)).2+((c::r).drop (bS (c::r)).2).length:Nat):Int)=((a+(c::r).length:Nat):Int):=acp;refine⟨{(bS (c::r)).1 with pos:=a}::pre,acp,acp,fun t ht=>?_⟩
    grind
theorem AQ{s:Txt}{ts:List rJ}(h:sA s= .ok ts):∃pre,ts=pre++ [⟨7,s.length,0,[]⟩]∧pre.length≤s.length∧(∀t∈pre,0≤t.pos∧t.pos<(s.length:Int))∧s.length≤4096:=by
 grind [sA,uY]
theorem JW{s:Txt}{ts:List rJ}(h:sA s= .ok ts)(x:Nat)(e p:Int):WfP ⟨ts,0,x,e,p⟩:=by
 obtain⟨pre,rfl,h2,_,h3⟩:=AQ h;refine⟨acw,fun i hi hk=>?_,acp⟩
 grind
theorem yA:∀(f:Nat) (s:Txt) (a:Nat) (out:List rJ) (e p:Int),tM f s a out= .bad e p→e=5∧0≤p∧(s.length<f→p≤((a+s.length:Nat):Int))
 |0,s,a,out,e,p,h=>by
  simp only[tM,Lexed.bad.injEq]at h;omega
 |f+1,[],a,out,e,p,h=>by grind [tM]
 |f+1,c::r,a,out,e,p,h=>by
  simp only[tM]at h;split at h
  ·obtain⟨h1,h2,h3⟩:=yA f r (a+1) out e p h
   grind
  ·split at h
   ·grind
   ·obtain⟨h1,h2,h3⟩:=yA f _ _ _ e p h
    grind [rZ,List.length_drop]
theorem yy{s:Txt}{e a:Int}(h:sA s= .bad e a):(e=5∨e=6)∧0≤a∧a≤s.length:=by
 unfold sA at h;split at h
 ·grind
 ·obtain⟨h1,h2,h3⟩:=yA _ _ _ _ _ _ h
  omega
def om:bB:=.mk [] false 0 [] [] [] []
def pT(s:Txt)(x:bB×PS):PS:=
 if(if(aL x.2).kind=7 then x.2 else bn x.2).bad=0∧gy x.1≠0 then bI (if(aL x.2).kind=7 then x.2 else bn x.2) 5 s.length else(if(aL x.2).kind=7 then x.2 else bn x.2)
def yM(s:Txt)(ts:List rJ):bB×Int×Int:=
 if(pT s (gD 4 ⟨ts,0,0,0,0⟩)).bad=0 then((gD 4 ⟨ts,0,0,0,0⟩).1,0,0)else(om,(pT s (gD 4 ⟨ts,0,0,0,0⟩)).bad,(pT s (gD 4 ⟨ts,0,0,0,0⟩)).place)
def aR(s:Txt):bB×Int×Int:=match sA s with
 |.bad e a=>(om,e,a)
 |.ok ts=>yM s ts
end Go.Bf
namespace Go.Proofs.YtcochaoekecfdaaGreatDoor
open Go Go.Ab Go.Bf
def Byt(g:FuncId)(p:UInt8→Bool):Prop:=∀(c:UInt8) (h:Heap),ai Tryz.prog g [.v (.int .u8 c.toNat)] h fun r h' =>r= .b (p c)∧h' =h
theorem mE:Byt 197 dgt:=fun c h=>by
 refine acn Tryz.func197 9 [.tmp 2] fun hwf=>?_
 cases d1:decide (48≤(c.toNat:Int))<;>cases d2:decide ((c.toNat:Int)≤57)
 all_goals
  simp only[go_sem,d1,d2];exact .same (.refl _) ⟨by simp only[dgt,d1,d2];rfl,rfl⟩
theorem I5:Byt 234 wrd:=fun c h=>by
 refine acn Tryz.func234 17 [.tmp 2] fun hwf=>?_
 cases d1:decide (97≤(c.toNat:Int))<;>cases d2:decide ((c.toNat:Int)≤122)<;>cases d3:dgt c<;>cases d4:((c.toNat:Int)==95)
 all_goals
  simp only[go_sem,d1,d2]
  first
   |exact .same (.refl _) ⟨by simp only[wrd,ltr,d1,d2,d3,d4];rfl,rfl⟩
   |(refine(mE c _).pthen ?_;simp only[go_sem,d3,d4];exact .same (.refl _) ⟨by simp only[wrd,ltr,d1,d2,d3,d4];rfl,rfl⟩)
theorem DW:Byt 235 (fun c=> !FU c):=fun c h=>by
 refine acn Tryz.func235 17 [.tmp 2] fun hwf=>?_
 cases d1:decide (32≤(c.toNat:Int))<;>cases d2:decide ((c.toNat:Int)≤126)<;>cases d3:((c.toNat:Int)==34)<;>cases d4:((c.toNat:Int)==92)
 all_goals
  simp only[go_sem,d1,d2,d3,d4,bne];refine .same (.refl _) ⟨?_,rfl⟩;have e1:decide ((c.toNat:Int)<32)= !decide (32≤(c.toNat:Int)):=by
   grind
  have e2:decide (126<(c.toNat:Int))= !decide ((c.toNat:Int)≤126):=by
   grind
  simp only[FU,e1,e2,d1,d2,d3,d4];rfl
theorem OB(p:UInt8→Bool)(s:Txt)(i:Nat)(hi:i<s.length)(h:i≤(s.takeWhile p).length)(hp:p s[i]=true):i+1≤(s.takeWhile p).length:=by
 exact ahg
theorem UC(p:UInt8→Bool)(s:Txt)(i:Nat)(hi:i<s.length)(h:i≤(s.takeWhile p).length)(hp:p s[i]=false):(s.takeWhile p).length=i:=by
 exact ahg
theorem Mk(g:FuncId)(p:UInt8→Bool)(hg:Byt g p)(s:Txt)(h:Heap):ai Tryz.prog 233 [.s s,.fn g []] h fun r h' =>r= .v (.int .i64 (s.takeWhile p).length)∧h' =h:=by
 refine acn Tryz.func233 20 [.tmp 4] fun hwf=>?_
 have hlen:=hwf (.s s) acw;simp only[wfA,wf1,lim]at hlen;simp only[go_sem];refine .intro (fun m ρ h' =>h' =h∧∃i:Nat,i≤s.length∧m=s.length - i∧i≤(s.takeWhile p).length∧lk ρ 0=some (.s s)∧lk ρ 1=some (.fn g [])∧lk ρ 5=some (.i i)) s.length ?_ ?_
 ·refine⟨rfl,0,aco,rfl,aco,?_,?_,?_⟩<;>simp only[go_sem]
 ·rintro m ρ h' ⟨rfl,i,hi,rfl,hc,r0,r1,r5⟩
  cases d1:decide ((i:Int)<(s.length:Int))
  ·have hge:i=s.length:=by grind
   have:=jU p s;simp only[go_sem,r0,r5,d1];exact .same (.refl _) ⟨by grind [au],rfl⟩
  ·have hlt:i<s.length:=by grind
   have w1:IntKind.i64.wrap ((i:Int)+1)=((i+1:Nat):Int):=acE;simp only[go_sem,r0,r1,r5,d1];refine .at i hlt ?_;simp only[go_sem,aN];refine(hg s[i] _).pthen ?_;cases d2:p s[i]
   ·have:=UC p s i hlt hc d2
    simp only[go_sem,r5];exact .same (.refl _) ⟨by rw[this];rfl,rfl⟩
   ·simp only[go_sem,r5,w1]
    refine⟨_,?_,rfl,i+1,aco,rfl,OB p s i hlt hc d2,?_,?_,?_⟩
    ·omega
    all_goals simp only[go_sem,r0,r1]
theorem yI(s:Txt)(h:Heap):ai Tryz.prog 196 [.s s] h fun r h' =>r= .s (jA s)∧h' =h:=by
 refine acn Tryz.func196 12 [.tmp 2] fun hwf=>?_
 simp only[go_sem];refine(Mk _ _ I5 s _).pthen ?_;simp only[go_sem];refine⟨aco,aco,?_⟩;simp only[go_sem,Option.isSome_none,Option.isSome_some,tc,Int.toNat_natCast,qZ];refine⟨by grind [jU,wrd],?_⟩
 refine(oS _ _).pthen ?_;cases d1:bt (s.takeWhile wrd)
 ·exact aih
 ·exact aih
theorem wr8{x:Int}(h:0≤x∧x<256):IntKind.u8.wrap x=x:=by
 grind [IntKind.wrap,IntKind.signed,IntKind.bits]
theorem tf(c:UInt8)(h:Heap):ai Tryz.prog 267 [.v (.int .u8 c.toNat)] h fun r h' =>r= .i (jB c)∧h' =h:=by
 refine acn Tryz.func267 20 [.tmp 2] fun hwf=>?_
 have hc:=c.toNat_lt;simp only[go_sem];refine(mE c _).pthen ?_;cases d1:dgt c
 case true=>
  have e1:48≤(c.toNat:Int)∧(c.toNat:Int)≤57:=by grind [dgt]
  have w1:IntKind.u8.wrap ((c.toNat:Int) - 48)=(c.toNat:Int) - 48:=wr8 aco;have w2:IntKind.i64.wrap ((c.toNat:Int) - 48)=(c.toNat:Int) - 48:=aY _ aco;simp only[go_sem,w1,w2];exact .same (.refl _) ⟨by grind [jB,au],rfl⟩
 cases d2:decide (97≤(c.toNat:Int))<;>cases d3:decide ((c.toNat:Int)≤102)
 case true.true=>
  have e2:=acf d2;have e3:=acf d3;have w1:IntKind.u8.wrap ((c.toNat:Int) - 97)=(c.toNat:Int) - 97:=wr8 aco;have w2:IntKind.i64.wrap ((c.toNat:Int) - 97)=(c.toNat:Int) - 97:=aY _ aco;have w3:IntKind.i64.wrap ((c.toNat:Int) - 97+10)=(c.toNat:Int) - 87:=acE;simp only[go_sem,d2,d3,w1,w2,w3];exact .same (.refl _) ⟨by grind [jB,au],rfl⟩
 all_goals
  simp only[go_sem,d2,d3];simp only[decide_eq_true_eq,decide_eq_false_iff_not]at d2 d3;refine .same (.refl _) ⟨?_,rfl⟩
  grind [Int,jB,au]
theorem GZ(c:UInt8): -1≤jB c∧jB c≤15:=by
 grind [jB,dgt]
theorem MB(n:Nat)(h:n<256):((UInt8.ofNat n).toNat:Int)=n:=by
 simp;omega
theorem Re(s:Txt)(h:Heap):ai Tryz.prog 236 [.s s] h fun r h' =>(∃x:Int,r= .tup [.v (.int .u8 x),.v (.bool (tO s).isSome)]∧∀c,tO s=some c→x=c.toNat)∧h' =h:=by
 refine acn Tryz.func236 38 [.tmp 2,.tmp 3] fun hwf=>?_
 have hlen:=hwf (.s s) acw;simp only[wfA,wf1,lim]at hlen;cases d0:decide ((s.length:Int)<3)
 case true=>
  have e0:s.length<3:=acp;have:tO s=none:=by
   match s,e0 with
   | [],_=>rfl
   | [_],_=>rfl
   | [_,_],_=>rfl
  simp only[go_sem,d0];exact .same (.refl _) ⟨⟨0,by rw[this];rfl,fun c hc=>acp⟩,rfl⟩
 have e0:3≤s.length:=acp;obtain⟨b,x,y,t,rfl⟩:∃b x y t,s=b::x::y::t:=by
  match s,e0 with
  |b::x::y::t,_=>exact⟨b,x,y,t,rfl⟩
 simp only[List.length_cons]at d0;have bad:tO (b::x::y::t)=none→∃z:Int,AV.tup [.v (.int .u8 0),.b false]= .tup [.v (.int .u8 z),.v (.bool (tO (b::x::y::t)).isSome)]∧∀c,tO (b::x::y::t)=some c→z=c.toNat:=
  fun e=>⟨0,acp,fun c hc=>acp⟩
 cases d1:((b.toNat:Int) !=92)
 case true=>
  have e1:b≠92:=by rintro rfl;grind
  simp only[go_sem,d0];refine .at 0 acw ?_;simp only[go_sem,aN,List.getElem_cons_zero,d1];exact ahY
 have e1:b=92:=by
  have:(b.toNat:Int)=92:=acp;exact UInt8.toNat_inj.1 acp
 simp only[go_sem,d0];refine .at 0 acw ?_;simp only[go_sem,aN,List.getElem_cons_zero,d1];refine .at 1 acw ?_;simp only[go_sem,aN,List.getElem_cons_zero,List.getElem_cons_succ];refine(tf x _).pthen ?_;cases d2:decide (jB x<0)
 case true=>
  have e2:=acf d2;simp only[go_sem,d2];exact ahY
 have e2:0≤jB x:=acp;simp only[go_sem,d2];refine .at 2 acw ?_;simp only[go_sem,aN,List.getElem_cons_zero,List.getElem_cons_succ];refine(tf y _).pthen ?_;cases d3:decide (jB y<0)
 case true=>
  have e3:=acf d3;simp only[go_sem,d3];exact ahY
 have e3:0≤jB y:=acp;have hx:=GZ x;have hy:=GZ y;have w1:IntKind.i64.wrap (16*jB x)=16*jB x:=aY _ aco;have w2:IntKind.i64.wrap (16*jB x+jB y)=16*jB x+jB y:=aY _ aco;have w3:IntKind.u8.wrap (16*jB x+jB y)=((UInt8.ofNat (16*jB x+jB y).toNat).toNat:Int):=by
  grind [wr8,MB]
 simp only[go_sem,d3];refine .quiet acs ?_;simp only[go_sem];refine .at 1 acw ?_;simp only[go_sem,aN,List.getElem_cons_zero,List.getElem_cons_succ];refine⟨_,tf x _,?_⟩;simp only[go_sem];refine .at 2 acw ?_;simp only[go_sem,aN,List.getElem_cons_zero,List.getElem_cons_succ];refine⟨_,tf y _,?_⟩;simp only[go_sem,w1,w2,w3];refine(DW _ _).pthen ?_;simp only[go_sem];refine .same (.refl _) ⟨⟨((UInt8.ofNat (16*jB x+jB y).toNat).toNat:Int),?_,fun c hc=>?_⟩,rfl⟩
 ·grind [FU,UInt8.ofNat,jB,tO,au]
 grind [tO]
theorem u5z:(U 5).sz=1:=acF
theorem u5b:(U 5).bytes=1:=acF
theorem mS(l:List UInt8):Sized 1 (l.map aN):=fun z hz=>by
 obtain⟨c,_,rfl⟩:=List.mem_map.1 hz;rfl
theorem HR(s:Txt)(hs:s.length≤10000)(h:Heap):ai Tryz.prog 199 [.s s] h fun r h' =>r= .tup [.s (zq s).1,.v (.int .i64 (zq s).2)]∧h' =h:=by
 refine acn Tryz.func199 50 [.tmp 2,.tmp 3] fun hwf=>?_
 simp only[go_sem];refine .intro (fun m ρ h' =>∃(i f:Nat) (y:AV) (out:Txt),Acc U 5 h h' y (out.map aN)∧out.length≤i∧m=s.length+1 - i∧i≤s.length+3∧s.length≤f+i∧uk f (s.drop i) i out=zq s∧lk ρ 0=some (.s s)∧lk ρ 4=some y∧lk ρ 5=some (.i i)) s.length ?_ ?_
 ·refine⟨1,s.length,.sl [] .full,[],.full (.refl _),acw,aco,aco,aco,rfl,?_,?_,?_⟩<;>simp only[go_sem]
 ·rintro m ρ h' ⟨i,f,y,out,hy,hoi,rfl,hi,hf,he,r0,r4,r5⟩
  cases d1:decide ((i:Int)<(s.length:Int))
  ·have hge:s.length≤i:=by grind
   have hd:s.drop i= []:=List.drop_of_length_le hge;have:zq s=([],0):=by
    rw[←he,hd];cases f<;>rfl
   simp only[go_sem,r0,r5,d1];exact .mk _ (.refl _) hy.1 ⟨by rw[this];rfl,rfl⟩
  have hlt:i<s.length:=acp;obtain⟨f,rfl⟩:∃g,f=g+1:=⟨f - 1,aco⟩;have hdr:s.drop i=s[i]::s.drop (i+1):=List.drop_eq_getElem_cons hlt;rw[hdr]at he;simp only[uk]at he;have w1:IntKind.i64.wrap ((i:Int)+1)=((i+1:Nat):Int):=acE;have w3:IntKind.i64.wrap ((i:Int)+3)=((i+3:Nat):Int):=acE;simp only[go_sem,r0,r5,d1];refine .at i hlt ?_;cases d2:((s[i].toNat:Int)==34)
  case true=>
   have e2:s[i]=34:=by
    have:(s[i].toNat:Int)=34:=acp;exact UInt8.toNat_inj.1 acp
   rw[if_pos e2]at he;cases d3:decide (64<(out.length:Int))
   case true=>
    have e3:64<out.length:=acp;rw[if_pos e3]at he;simp only[go_sem,r4,aN,d2,hy.len,acd,d3];exact ahR
   have e3:¬64<out.length:=acp;rw[if_neg e3]at he;simp only[go_sem,r4,aN,d2,hy.len,acd,d3];obtain⟨q,rfl⟩:=hy.row;simp only[go_sem,r5,w1];exact ahR
  have e2:s[i]≠34:=by intro e;simp_all
  rw[if_neg e2]at he;simp only[go_sem,r0,r5,aN,d2];refine .at i hlt ?_;simp only[go_sem,aN];refine(DW _ _).pthen ?_;cases d4:FU s[i]
  ·rw[if_pos d4]at he
   simp only[go_sem,r0,r4,r5,d4];refine .at i hlt ?_;simp only[go_sem,aN];refine hy.app (zs:=[aN s[i]]) acr acr (fun k hk=>hk) (by grind [u5z,mS]) (by rw[u5z];exact mS [s[i]]) (by grind [u5b]) fun y' h2 hy' hk2=>?_
   simp only[go_sem,r5,w1];refine⟨_,?_,i+1,f,y',out++ [s[i]],acp,acp,rfl,aco,aco,he,?_,?_,?_⟩
   ·omega
   all_goals simp only[go_sem,r0]
  ·rw[if_neg acp]at he
   simp only[go_sem,r0,r5,d4];refine⟨aco,?_⟩;simp only[go_sem,Option.isSome_none,Option.isSome_some,lR,Int.toNat_natCast];refine⟨aco,aco,?_⟩;refine(Re _ _).mono fun x h2 hx=>?_
   obtain⟨⟨v,rfl,hv⟩,rfl⟩:=hx;rw[←hdr]at he;cases e5:tO (s.drop i)with
   |none=>
    rw[e5]at he;simp only[go_sem,Option.isSome_none];exact ahR
   |some b=>
    rw[e5]at he;have hvb:=hv b e5;subst hvb;have h3:=DK e5;simp only[List.length_drop]at h3;simp only[go_sem,r4,Option.isSome_some];refine hy.app (zs:=[aN b]) acr acr (fun k hk=>hk) (by grind [u5z,mS]) (by rw[u5z];exact mS [b]) (by grind [u5b]) fun y' h2 hy' hk2=>?_
    simp only[go_sem,r5,w3];refine⟨_,?_,i+3,f,y',out++ [b],acp,acp,rfl,aco,aco,?_,?_,?_,?_⟩
    ·omega
    ·simp_all
    all_goals simp only[go_sem,r0]
end Go.Proofs.YtcochaoekecfdaaGreatDoor
namespace Go.Bf
open Go Go.Ab
theorem GK(c:UInt8):dgt c=true↔48≤c.toNat∧c.toNat≤57:=by
 simp only[dgt,Bool.and_eq_true,decide_eq_true_eq];omega
def Ip(acc:Nat)(l:Txt):Nat:=l.foldl (fun n c=>n*10+(c.toNat - 48)) acc
theorem Ax(acc:Nat)(c:UInt8)(r:Txt):Ip acc (c::r)=Ip (acc*10+(c.toNat - 48)) r:=List.foldl_cons ..
theorem CU:∀(l:Txt) (acc:Nat),acc≤Ip acc l
 | [],acc=>Nat.le_refl _
 |c::r,acc=>by rw[Ax];exact Nat.le_trans aco (CU r (acc*10+(c.toNat - 48)))
theorem tV:∀(l:Txt) (acc:Nat),(∀c∈l,dgt c=true)→acc<18446744073709551616→
  Lib.parseUint10 acc l=if Ip acc l<18446744073709551616 then .ok (Ip acc l)else .range
 | [],acc,_,ha=>by
  have:Ip acc []=acc:=rfl;rw[this,if_pos ha];rfl
 |c::r,acc,hd,ha=>by
  have hc:=(GK c).1 (hd c acw);have hm:=CU r (acc*10+(c.toNat - 48));rw[Ax];unfold Lib.parseUint10;rw[if_pos hc];split
  ·rw[if_neg aco]
  ·split
   ·rw[if_neg aco]
   ·exact tV r _ acp aco
def pP(neg:Bool):Txt:=if neg then [45]else []
theorem vI(neg:Bool)(d:Txt)(h0:d≠ [])(hd:∀c∈d,dgt c=true):
  Lib.atoiAll (pP neg++d)=if -9223372036854775808≤(if neg then -(pS d:Int)else(pS d:Int))∧(if neg then -(pS d:Int)else(pS d:Int))≤9223372036854775807 then .ok (if neg then -(pS d:Int)else(pS d:Int))else .range:=by
 have hp:Lib.parseMag d=if pS d<18446744073709551616 then .ok (pS d)else .range:=by
  unfold Lib.parseMag;rw[if_neg h0];exact tV d 0 hd acr
 cases neg
 ·obtain⟨c,r,rfl⟩:=List.exists_cons_of_ne_nil h0
  have hc:=(GK c).1 (hd c acw);simp only[pP,Bool.false_eq_true,if_false,List.nil_append,Lib.atoiAll];rw[if_neg aco,hp];have e45:(c.toNat=45)=False:=acp;simp only[e45,not_false_eq_true,true_and,false_and,if_false];split
  ·rename_i h;split at h
   ·cases h
   ·cases h
  ·rename_i h;split at h
   ·cases h
   ·rw[if_neg aco]
  ·rename_i u h;split at h
   ·cases h
    split
    ·rw[if_neg aco]
    ·rw[if_pos aco]
   ·cases h
 ·simp only[pP,if_true,List.cons_append,List.nil_append,Lib.atoiAll]
  rw[if_pos (.inr acr),hp];simp only[show((45:UInt8).toNat=45)=True by simp,not_true_eq_false,false_and,if_false,true_and,if_true]
  split
  ·rename_i h;split at h
   ·cases h
   ·cases h
  ·rename_i h;split at h
   ·cases h
   ·rw[if_neg aco]
  ·rename_i u h;split at h
   ·cases h
    split
    ·rw[if_neg aco]
    ·rw[if_pos aco]
   ·cases h
theorem Ac(s:Txt):∀c∈s.takeWhile dgt,dgt c=true:=fun c hc=>by
 induction s with
 |nil=>cases hc
 |cons x r ih=>
  simp only[List.takeWhile_cons]at hc
  grind
end Go.Bf
namespace Go.Proofs
open Go.Shelf
def Tryz.Dw:Go.Shelf.Ren:=⟨fun|137=>200|217=>237|266=>268|n=>n,fun|9=>9|5=>5|3=>3|n=>n,fun|n=>n⟩
theorem Tryz.NT:Go.Proofs.Lays.n137 Tryz.prog Tryz.Dw:={
 mixed:=acF
 f137:=Tryz.func200.trans acF
 f217:=Tryz.func237.trans acF
 f266:=Tryz.func268.trans acF
 t3:=Tryz.underlying3
 a3:=Tryz.isAgg3
 z3:=Tryz.sizeOf3
 v3:=Tryz.zeroValue3
 t5:=Tryz.underlying5
 a5:=Tryz.isAgg5
 z5:=Tryz.sizeOf5
 v5:=Tryz.zeroValue5
 t9:=Tryz.underlying9
 a9:=Tryz.isAgg9
 z9:=Tryz.sizeOf9
 v9:=Tryz.zeroValue9}
open Go.RowKit in
theorem Tryz.strings_IndexByte(s:ByteArray)(c:Int)(w:World):
  Calls Tryz.prog 200 #[.string s,.int .u8 c] w fun e w' =>e= .returned (.int .i64 (Lib.indexByte s.data.toList c.toNat.toUInt8))∧w' =w:=Any.strings_IndexByte Tryz.NT s c w
def Tryz.B2:Go.Shelf.Ren:=⟨fun|172=>154|244=>189|245=>190|247=>227|279=>228|280=>229|281=>230|282=>231|287=>263|316=>264|171=>151|205=>265|321=>292|322=>293|243=>187|246=>225|283=>256|284=>257|285=>258|286=>259|129=>287|317=>286|318=>288|319=>289|320=>290|337=>312|338=>313|n=>n,fun|9=>9|3=>3|75=>234|76=>235|4=>4|5=>5|167=>308|37=>41|0=>0|85=>309|2=>2|168=>311|53=>43|175=>344|46=>103|210=>347|127=>314|145=>382|143=>380|21=>21|171=>338|173=>341|212=>374|51=>153|20=>20|213=>375|232=>409|233=>410|80=>246|n=>n,fun|15=>1|16=>2|17=>3|18=>4|19=>5|n=>n⟩
theorem Tryz.Dx:Go.Proofs.LaysC.n172 Tryz.prog Tryz.B2:={
 mixed:=acF
 f129:=Tryz.func287.trans acF
 f171:=Tryz.func151.trans acF
 f172:=Tryz.func154.trans acF
 f205:=Tryz.func265.trans acF
 f243:=Tryz.func187.trans acF
 f244:=Tryz.func189.trans acF
 f245:=Tryz.func190.trans acF
 f246:=Tryz.func225.trans acF
 f247:=Tryz.func227.trans acF
 f279:=Tryz.func228.trans acF
 f280:=Tryz.func229.trans acF
 f281:=Tryz.func230.trans acF
 f282:=Tryz.func231.trans acF
 f283:=Tryz.func256.trans acF
 f284:=Tryz.func257.trans acF
 f285:=Tryz.func258.trans acF
 f286:=Tryz.func259.trans acF
 f287:=Tryz.func263.trans acF
 f316:=Tryz.func264.trans acF
 f317:=Tryz.func286.trans acF
 f318:=Tryz.func288.trans acF
 f319:=Tryz.func289.trans acF
 f320:=Tryz.func290.trans acF
 f321:=Tryz.func292.trans acF
 f322:=Tryz.func293.trans acF
 f337:=Tryz.func312.trans acF
 f338:=Tryz.func313.trans acF
 t0:=Tryz.underlying0
 a0:=Tryz.isAgg0
 z0:=Tryz.sizeOf0
 v0:=Tryz.zeroValue0
 t2:=Tryz.underlying2
 a2:=Tryz.isAgg2
 z2:=Tryz.sizeOf2
 v2:=Tryz.zeroValue2
 t3:=Tryz.underlying3
 a3:=Tryz.isAgg3
 z3:=Tryz.sizeOf3
 v3:=Tryz.zeroValue3
 t4:=Tryz.underlying4
 a4:=Tryz.isAgg4
 z4:=Tryz.sizeOf4
 v4:=Tryz.zeroValue4
 t5:=Tryz.underlying5
 a5:=Tryz.isAgg5
 z5:=Tryz.sizeOf5
 v5:=Tryz.zeroValue5
 t9:=Tryz.underlying9
 a9:=Tryz.isAgg9
 z9:=Tryz.sizeOf9
 v9:=Tryz.zeroValue9
 t20:=Tryz.underlying20
 a20:=Tryz.isAgg20
 z20:=Tryz.sizeOf20
 v20:=Tryz.zeroValue20
 t21:=Tryz.underlying21
 a21:=Tryz.isAgg21
 z21:=Tryz.sizeOf21
 v21:=Tryz.zeroValue21
 t37:=Tryz.underlying41
 a37:=Tryz.isAgg41
 z37:=Tryz.sizeOf41
 v37:=Tryz.zeroValue41
 t46:=Tryz.underlying103
 a46:=Tryz.isAgg103
 z46:=Tryz.sizeOf103
 v46:=Tryz.zeroValue103
 t51:=Tryz.underlying153
 a51:=Tryz.isAgg153
 z51:=Tryz.sizeOf153
 v51:=Tryz.zeroValue153
 t53:=Tryz.underlying43
 a53:=Tryz.isAgg43
 z53:=Tryz.sizeOf43
 v53:=Tryz.zeroValue43
 t75:=Tryz.underlying234
 a75:=Tryz.isAgg234
 z75:=Tryz.sizeOf234
 v75:=Tryz.zeroValue234
 t76:=Tryz.underlying235
 a76:=Tryz.isAgg235
 z76:=Tryz.sizeOf235
 v76:=Tryz.zeroValue235
 t85:=Tryz.underlying309
 a85:=Tryz.isAgg309
 z85:=Tryz.sizeOf309
 v85:=Tryz.zeroValue309
 t127:=Tryz.underlying314
 a127:=Tryz.isAgg314
 z127:=Tryz.sizeOf314
 v127:=Tryz.zeroValue314
 t143:=Tryz.underlying380
 a143:=Tryz.isAgg380
 z143:=Tryz.sizeOf380
 v143:=Tryz.zeroValue380
 t145:=Tryz.underlying382
 a145:=Tryz.isAgg382
 z145:=Tryz.sizeOf382
 v145:=Tryz.zeroValue382
 t167:=Tryz.underlying308
 a167:=Tryz.isAgg308
 z167:=Tryz.sizeOf308
 v167:=Tryz.zeroValue308
 t168:=Tryz.underlying311
 a168:=Tryz.isAgg311
 z168:=Tryz.sizeOf311
 v168:=Tryz.zeroValue311
 t171:=Tryz.underlying338
 a171:=Tryz.isAgg338
 z171:=Tryz.sizeOf338
 v171:=Tryz.zeroValue338
 t173:=Tryz.underlying341
 a173:=Tryz.isAgg341
 z173:=Tryz.sizeOf341
 v173:=Tryz.zeroValue341
 t175:=Tryz.underlying344
 a175:=Tryz.isAgg344
 z175:=Tryz.sizeOf344
 v175:=Tryz.zeroValue344
 t210:=Tryz.underlying347
 a210:=Tryz.isAgg347
 z210:=Tryz.sizeOf347
 v210:=Tryz.zeroValue347
 t212:=Tryz.underlying374
 a212:=Tryz.isAgg374
 z212:=Tryz.sizeOf374
 v212:=Tryz.zeroValue374
 t213:=Tryz.underlying375
 a213:=Tryz.isAgg375
 z213:=Tryz.sizeOf375
 t232:=Tryz.underlying409
 a232:=Tryz.isAgg409
 z232:=Tryz.sizeOf409
 v232:=Tryz.zeroValue409
 t233:=Tryz.underlying410
 a233:=Tryz.isAgg410
 z233:=Tryz.sizeOf410
 v233:=Tryz.zeroValue410
 g15:=acs
 g16:=acs
 g17:=acs
 g18:=acs
 g19:=acs
 t80:=Tryz.underlying246
 a80:=Tryz.isAgg246
 z80:=Tryz.sizeOf246
 v80:=Tryz.zeroValue246
 i0:=acs
 i2:=acs
 i3:=acs
 i4:=acs
 i5:=acs
 i9:=acs
 i20:=acs
 i21:=acs
 i37:=acs
 i46:=acs
 i51:=acs
 i53:=acs
 i75:=acs
 i76:=acs
 i80:=acs
 i85:=acs
 i127:=acs
 i143:=acs
 i145:=acs
 i167:=acs
 i168:=acs
 i171:=acs
 i173:=acs
 i175:=acs
 i210:=acs
 i212:=acs
 i232:=acs
 i233:=acs
 m15:=acF
 m16:=acF
 m17:=acF
 m18:=acF
 m19:=acF
 c0:=acs
 c2:=acs
 c3:=acs
 c4:=acs
 c5:=acs
 c9:=acs
 c20:=acs
 c21:=acs
 c37:=acs
 c46:=acs
 c51:=acs
 c53:=acs
 c75:=acs
 c76:=acs
 c80:=acs
 c85:=acs
 c127:=acs
 c143:=acs
 c145:=acs
 c167:=acs
 c168:=acs
 c171:=acs
 c173:=acs
 c175:=acs
 c210:=acs
 c212:=acs
 c213:=acs
 c232:=acs
 c233:=acs}
open Go.RowKit in
theorem Tryz.strconv_Atoi_ok(s:ByteArray)(hmax:s.size≤9223372036854775806)(v:Int)(h:Lib.atoiAll s.data.toList= .ok v)(w:World):
  Calls Tryz.prog 154 #[.string s] w fun e w' =>e= .returned (.tuple #[.int .i64 v,.nilIface])∧(w' =w∨∃t,w' =Lib.bytesWorld w 5 t):=Any.strconv_Atoi_ok Tryz.Dx s hmax v h w
open Go.RowKit in
theorem Tryz.strconv_Atoi_range(s:ByteArray)(hlim:s.size≤281474976710656)(h:Lib.atoiAll s.data.toList= .range)(ev:Value)(w:World)(hv:w.cell? ⟨2,0,none⟩=some ev)(hev:ev= .nilIface∨∃te pe,ev= .iface te pe):
  Calls Tryz.prog 154 #[.string s] w fun e w' =>∃N,e= .returned (.tuple #[.int .i64 (Lib.atoiSat s.data.toList),.iface 311 (.pointer (some ⟨N,0,none⟩))])∧w.heap.size≤N∧w'.heap[N]? =some (.cells #[.string ⟨#[65,116,111,105]⟩,.string s,ev] 347 (0,0))∧Below w.heap.size w w' :=Any.strconv_Atoi_range Tryz.Dx s hlim h ev w hv hev
end Go.Proofs
namespace Go.Proofs.YtcochaoekecfdaaGreatDoor
open Go Go.Ab Go.Bf Go.RowKit
theorem Jy(s:Txt)(hs:s.length≤100000)(w:World):Calls Tryz.prog 233 #[.string ⟨s.toArray⟩,.func (.func 197) #[] #[]] w fun e w' =>e= .returned (.int .i64 (s.takeWhile dgt).length)∧Below w.heap.size w w' :=by
 refine Go.Ab.ai.calls (args:=[.s s,.fn 197 []]) ⟨_,Tryz.func233,acF,rfl⟩ ((Mk _ _ mE s cQ).mono fun _ _ h=>h.1) rfl (fun i hi=>?_)
 rcases i with _|_|i
 ·exact .s s (by grind [lim,Nat])
 ·exact .fn _ [] #[] rfl (fun i hi=>by cases hi)
 ·simp at hi;omega
def Ae(neg:Bool)(d:Txt):Int:=if neg then -(pS d:Int)else(pS d:Int)
def inI(neg:Bool)(d:Txt):Prop:= -9223372036854775808≤(if neg then -(pS d:Int)else(pS d:Int))∧(if neg then -(pS d:Int)else(pS d:Int))≤9223372036854775807
instance (neg:Bool) (d:Txt):Decidable (inI neg d):=inferInstanceAs (Decidable (_∧_))
theorem zj(neg:Bool):(pP neg).length≤1:=by cases neg<;>decide
theorem GF(neg:Bool)(d:Txt)(h0:d≠ [])(hd:∀c∈d,dgt c=true)(hlen:d.length≤10000)(S:ByteArray)(hS:S=⟨(pP neg++d).toArray⟩)(hr:inI neg d)(W:World):
  Calls Tryz.prog 154 #[.string S] W fun e w' =>e= .returned (.tuple #[.int .i64 (Ae neg d),.nilIface])∧Below W.heap.size W w' :=by
 have hl:=zj neg;have hsz:S.size≤10001:=by grind [ByteArray.size]
 have ha:Lib.atoiAll S.data.toList= .ok (Ae neg d):=by
  rw[hS];rw[vI neg d h0 hd];exact if_pos hr
 refine(Tryz.strconv_Atoi_ok S aco _ ha W).mono ?_
 rintro e w' ⟨rfl,rfl|⟨t,rfl⟩⟩
 ·exact⟨rfl,.refl _ _⟩
 ·exact⟨rfl,Lib.bytesWorld_below W _ t⟩
theorem CE(neg:Bool)(d:Txt)(h0:d≠ [])(hd:∀c∈d,dgt c=true)(hlen:d.length≤10000)(S:ByteArray)(hS:S=⟨(pP neg++d).toArray⟩)(hr:¬inI neg d)(W:World)(ev:Value)(hv:W.cell? ⟨2,0,none⟩=some ev)(hev:ev= .nilIface∨∃te pe,ev= .iface te pe):
  Calls Tryz.prog 154 #[.string S] W fun e w' =>(∃(x:Int) (N:Nat),e= .returned (.tuple #[.int .i64 x,.iface 311 (.pointer (some ⟨N,0,none⟩))]))∧Below W.heap.size W w' :=by
 have hl:=zj neg;have hsz:S.size≤10001:=by grind [ByteArray.size]
 have ha:Lib.atoiAll S.data.toList= .range:=by
  rw[hS];rw[vI neg d h0 hd];exact if_neg hr
 refine(Tryz.strconv_Atoi_range S aco ha ev W hv hev).mono ?_
 grind
set_option maxHeartbeats 1000000 in
theorem DJ(neg:Bool)(s:Txt)(hs:s.length≤10000)(w:World)(ev:Value)(hv:w.cell? ⟨2,0,none⟩=some ev)(hev:ev= .nilIface∨∃te pe,ev= .iface te pe)(hg:2<w.heap.size):
  Calls Tryz.prog 198 #[.string ⟨(pP neg).toArray⟩,.string ⟨s.toArray⟩] w fun e w' =>e= .returned (.tuple #[.int .i64 (eP neg s).1,.int .i64 ((eP neg s).2:Nat)])∧Below w.heap.size w w' :=by
 have hle:=jU dgt s;obtain⟨d,ed⟩:∃d,s.takeWhile dgt=d:=⟨_,rfl⟩;have htk:s.take d.length=d:=by grind [qZ]
 have hrun:=Jy s aco w;have hall:=Ac s;rw[ed]at hrun hle hall
 go_enter Tryz.func198,Tryz.ntmps198
 by_cases h0:d.length=0
 ·have e0:d= []:=by grind
  have en:eP neg s=(0,0):=by simp_all [eP,if_pos]
  go_wp2_with (go_at_call 233;refine hrun.mono ?_)
  rintro e W0 ⟨rfl,b0⟩
  rw[h0]
  go_wp2
  go_ret2
  simp_all
 ·have e0:d≠ []:=by grind
  go_wp2_with (go_at_call 233;refine hrun.mono ?_)
  rintro e W0 ⟨rfl,b0⟩
  have hpos:0<d.length:=aco;have hs0:0<s.length:=aco;have hsz:0<(⟨s.toArray⟩:ByteArray).size:=by grind [ByteArray.size]
  have hg0:(⟨s.toArray⟩:ByteArray)[0]=s[0]:=rfl;have hgn:∀x:UInt8,(s.head? =some x)↔s[0]=x:=fun x=>by
   rw[List.head?_eq_getElem?,List.getElem?_eq_getElem hs0];simp
  cases d0:((d.length:Int)==0)
  case true=>exact absurd acp h0
  have hS:(⟨(pP neg).toArray⟩:ByteArray)++(⟨s.toArray⟩:ByteArray).extract 0 d.length=⟨(pP neg++d).toArray⟩:=by
   apply ByteArray.ext
   simp_all
  have hcat:¬9223372036854775807<List.length (pP neg)+d.length:=by grind [zj]
  cases d1:decide (1<(d.length:Int))
  ·have f1:¬1<d.length:=by grind
   have en:eP neg s=if inI neg d then(Ae neg d,d.length)else(0,0):=by
    unfold eP;rw[ed,if_neg acp];rfl
   have hv0:W0.cell? ⟨2,0,none⟩=some ev:=by rw[b0.cell hg];omega
   by_cases hr:inI neg d
   ·rw[if_pos hr]at en
    go_wp2_with (go_at_call 154;refine(GF neg d e0 hall aco _ acF hr _).mono ?_)
    rintro e W1 ⟨rfl,b1⟩
    go_wp2
    go_ret2
    rw[en];exact ad8
   ·rw[if_neg hr]at en
    go_wp2_with (go_at_call 154;refine(CE neg d e0 hall aco _ acF hr _ ev hv0 hev).mono ?_)
    rintro e W1 ⟨⟨x,N,rfl⟩,b1⟩
    go_wp2
    go_ret2
    rw[en];exact ad8
  ·have f1:1<d.length:=by grind
   cases d2:((s[0].toNat:Int)==48)
   ·have f2:s.head?≠some 48:=by
     rw[ne_eq,hgn];intro e;simp_all
    have en:eP neg s=if inI neg d then(Ae neg d,d.length)else(0,0):=by
     unfold eP;rw[ed,if_neg acp];rfl
    have hv0:W0.cell? ⟨2,0,none⟩=some ev:=by rw[b0.cell hg];omega
    by_cases hr:inI neg d
    ·rw[if_pos hr]at en
     go_wp2_with (go_at_call 154;refine(GF neg d e0 hall aco _ acF hr _).mono ?_)
     rintro e W1 ⟨rfl,b1⟩
     go_wp2
     go_ret2
     rw[en];exact ad8
    ·rw[if_neg hr]at en
     go_wp2_with (go_at_call 154;refine(CE neg d e0 hall aco _ acF hr _ ev hv0 hev).mono ?_)
     rintro e W1 ⟨⟨x,N,rfl⟩,b1⟩
     go_wp2
     go_ret2
     rw[en];exact ad8
   ·have f2:s.head? =some 48:=by
     rw[hgn];have:(s[0].toNat:Int)=48:=acp;exact UInt8.toNat_inj.1 acp
    have en:eP neg s=(0,0):=by simp_all [eP,if_pos]
    go_wp2
    go_ret2
    simp_all
def kR(h:Heap):Prop:=∃ev:Value,(ev= .nilIface∨∃te pe,ev= .iface te pe)∧Tab h 2 [ev]
theorem kR.sub{h h' :Heap}(he:kR h)(hs:Ab.Sub h h'):kR h' :=by
 obtain⟨ev,h1,h2⟩:=he;exact⟨ev,h1,h2.sub hs⟩
theorem me(neg:Bool)(s:Txt)(hs:s.length≤10000)(h:Heap)(he:kR h):ai Tryz.prog 198 [.s (pP neg),.s s] h fun r h' =>r= .tup [.v (.int .i64 (eP neg s).1),.i ((eP neg s).2:Nat)]∧h' =h:=by
 obtain⟨ev,hev,id,hi⟩:=he;refine .lib ⟨_,Tryz.func198,acF,rfl⟩ fun c vs hs' g h1 h2=>?_
 obtain⟨u,v,rfl⟩:∃u v,vs= #[u,v]:=by
  match vs,h1 with
  |⟨[u,v]⟩,_=>exact⟨u,v,rfl⟩
 have e1:u= .string ⟨(pP neg).toArray⟩:=((h2 0 acw).nj).1;have e2:v= .string ⟨s.toArray⟩:=((h2 1 acw).nj).1;subst e1;subst e2
 obtain⟨_,t,fr,hh⟩:=g.ro id _ _ (hs' _ _ hi);have hc:c.w.cell? ⟨2,0,none⟩=some ev:=by grind [World.cell?]
 refine(DJ neg s hs c.w ev hc hev (cX hh)).mono ?_
 rintro e w' ⟨rfl,hb⟩
 refine⟨⟨_,rfl,fun c' _=>?_⟩,hb⟩
 refine .tup _ _ rfl fun i hi=>?_
 rcases i with _|_|i
 ·exact aeD
 ·exact aeD
 ·simp at hi;omega
end Go.Proofs.YtcochaoekecfdaaGreatDoor
namespace Go.Bf
open Go Go.Ab
def marks:Txt:=[123,125,40,41,46,44,59,61,60,62,33]
theorem zO:∀n:Fin 256,decide (0≤Lib.indexByte marks (UInt8.ofNat n.val))=DD (UInt8.ofNat n.val):=acr
theorem rz(c:UInt8):decide (0≤Lib.indexByte marks c)=DD c:=by
 have:=zO ⟨c.toNat,c.toNat_lt⟩;simpa using this
end Go.Bf
namespace Go.Proofs.YtcochaoekecfdaaGreatDoor
open Go Go.Ab Go.Bf
theorem Dp(l:Txt)(c:UInt8)(h:Heap):ai Tryz.prog 200 [.s l,.v (.int .u8 c.toNat)] h fun r h' =>r= .i (Lib.indexByte l c)∧h' =h:=by
 refine .lib ⟨_,Tryz.func200,acF,rfl⟩ fun cx vs hs' g h1 h2=>?_
 obtain⟨u,v,rfl⟩:∃u v,vs= #[u,v]:=by
  match vs,h1 with
  |⟨[u,v]⟩,_=>exact⟨u,v,rfl⟩
 have e1:u= .string ⟨l.toArray⟩:=((h2 0 acw).nj).1;have e2:v= .int .u8 c.toNat:=(h2 1 acw).bT;subst e1;subst e2
 refine(Tryz.strings_IndexByte ⟨l.toArray⟩ c.toNat cx.w).mono ?_
 rintro e w' ⟨rfl,rfl⟩
 refine⟨⟨_,rfl,fun c' _=>?_⟩,.refl _ _⟩
 have:((c.toNat:Int).toNat).toUInt8=c:=acw;rw[this];exact aeD
theorem Ic(s:Txt)(h0:s≠ [])(hs:s.length≤4096)(h:Heap)(he:kR h):ai Tryz.prog 159 [.s s] h fun r h' =>r= .tup [fD (bS s).1,.i ((bS s).2:Nat)]∧h' =h:=by
 refine acn Tryz.func159 106 [.cell 2 186,.tmp 3] fun hwf=>?_
 obtain⟨c,r,rfl⟩:=List.exists_cons_of_ne_nil h0;have hsl:r.length≤4095:=by simpa using hs
 simp only[go_sem];intro i2 hi2;simp only[go_sem];intro i4 hi4;have n24:=aH hi4;have g2:∀(f:Heap) (x:Option Blk),upd f i4 x i2=f i2:=fun f x=>ag f x n24.symm
 have g4:∀(f:Heap) (x:Option Blk),upd f i2 x i4=f i4:=fun f x=>ag f x n24
 have hsub:Ab.Sub h (upd (upd h i2 (some (.obj [.i 0,.i 0,.i 0,.s []] 186))) i4 (some (.obj [.i 0,.i 0,.i 0,.s []] 186))):=(Sub.ak hi2).trans (.ak hi4);have he2:=he.sub hsub;have hi4h:h i4=none:=by rw[ag _ _ n24]at hi4;exact hi4
 simp only[go_sem];refine .at 0 acw ?_;cases la:decide (97≤(c.toNat:Int))
 ·have hl:ltr c=false:=by simp only[ltr,la,Bool.false_and]
  simp only[go_sem,aN,List.getElem_cons_zero,la];exact agy
 ·cases lb:decide ((c.toNat:Int)≤122)
  ·have hl:ltr c=false:=by simp only[ltr,lb,Bool.and_false]
   simp only[go_sem,aN,List.getElem_cons_zero,la,lb];exact agy
  ·have hl:ltr c=true:=by simp only[ltr,la,lb];rfl
   simp only[go_sem,aN,List.getElem_cons_zero,la,lb];refine(yI _ _).pthen ?_;simp only[go_sem,g2,ah];exact .mk _ (.refl _) acq ⟨by simp[bS,hl,fD,au],rfl⟩
theorem OE:(U 186).sz=4:=acF
theorem UI:(U 186).bytes=40:=acF
theorem pF(l:List rJ):Sized 4 (l.map fD):=fun z hz=>by
 obtain⟨c,_,rfl⟩:=List.mem_map.1 hz;rfl
def NY:Lexed→AV
 |.bad e a=> .tup [.sl [] .no,.i e,.i a]
 |.ok l=> .tup [.sl (l.map fD) .no,.i 0,.i 0]
def J4(s:Txt)(h:Heap)(m:Nat)(ρ:Env)(h' :Heap):Prop:=
 ∃(i f:Nat) (y:AV) (out:List rJ) (id:Nat),Acc U 186 h h' y (out.map fD)∧out.length≤i∧i≤s.length∧m=s.length - i∧s.length<f+i∧s.length≤4096∧h id=none∧(∃c0 c1 c2 c3,h' id=some (.obj [c0,c1,c2,c3] 186))∧tM f (s.drop i) i out=sA s∧lk ρ 0=some (.s s)∧lk ρ 5=some y∧lk ρ 6=some (.ptr id 0)∧lk ρ 7=some (.i i)
theorem EP(s:Txt)(h:Heap)(he:kR h):ai Tryz.prog 113 [.s s] h fun r h' =>r=NY (sA s)∧h' =h:=by
 refine ai.of_wp hU Tryz.func113 rfl acF 52 rfl [.tmp 2,.tmp 3,.tmp 4] rfl (ab9 rfl) ?_;refine .one hU hm ?_;simp only[go_sem];refine WP.Ml hU hm 0 (J4 s h) rfl ?_ ?_
 ·rintro m ρ h' ⟨i,f,y,out,id,hy,hoi,hi,rfl,hf,hs,hid,⟨c0,c1,c2,c3,hob⟩,hl,r0,r5,r6,r7⟩
  refine .vc hU hm ?_;cases d1:((i:Int)==(s.length:Int))
  case true=>
   have e1:i=s.length:=acp;subst e1;obtain⟨f,rfl⟩:∃g,f=g+1:=⟨f - 1,aco⟩;rw[List.drop_length]at hl;simp only[tM]at hl;simp only[go_sem,r0,r5,r7,d1];refine hy.app (zs:=[fD ⟨7,s.length,0,[]⟩]) acr acr (fun k hk=>hk) (by grind [OE,pF]) (by rw[OE];exact pF [⟨7,s.length,0,[]⟩]) (by grind [UI]) fun y' h2 hy' hk2=>?_
   simp only[go_sem];obtain⟨q,rfl⟩:=hy'.row;refine .mk _ (Bs _ _ _ _) hy'.1 ⟨?_,rfl⟩
   grind [NY]
  have e1:i≠s.length:=acp;have hlt:i<s.length:=aco;obtain⟨f,rfl⟩:∃g,f=g+1:=⟨f - 1,aco⟩;have hdr:s.drop i=s[i]::s.drop (i+1):=acw;have w1:IntKind.i64.wrap ((i:Int)+1)=((i+1:Nat):Int):=acE;have hl2:=hl;rw[hdr]at hl2;simp only[tM]at hl2;rw[←hdr]at hl2;have blank:qg s[i]=true→∃m',m' <s.length - i∧True:=fun _=>⟨s.length - (i+1),aco,trivial⟩
  cases d2:((s[i].toNat:Int)==32)
  case true=>
   have hb:qg s[i]=true:=by simp only[qg,d2,Bool.true_or]
   rw[if_pos hb]at hl2;simp only[go_sem,r0,r7,d1];refine .at i hlt ?_;simp only[go_sem,r7,aN,d2,w1];exact aht
  cases d3:((s[i].toNat:Int)==10)
  case true=>
   have hb:qg s[i]=true:=by simp only[qg,d3,Bool.or_true]
   rw[if_pos hb]at hl2;simp only[go_sem,r0,r7,d1];refine .at i hlt ?_;simp only[go_sem,r0,r7,aN,d2];refine .at i hlt ?_;simp only[go_sem,r7,aN,d3,w1];exact aht
  have hb:¬qg s[i]=true:=by grind [qg]
  rw[if_neg hb]at hl2;have hne:s.drop i≠ []:=fun e=>by have:=congrArg List.length e;simp at this;omega
  have hle:=rZ (s.drop i) hne;have hdl:(s.drop i).length=s.length - i:=acw;have hbo:=fun hh eh=>Ic (s.drop i) hne aco hh eh
  obtain⟨t,n,etn⟩:∃t n,bS (s.drop i)=(t,n):=⟨_,_,rfl⟩;rw[etn]at hbo hl2 hle;simp only[fD]at hbo hl2 hle;simp only[go_sem,r0,r7,d1];refine .at i hlt ?_;simp only[go_sem,r0,r7,aN,d2];refine .at i hlt ?_;simp only[go_sem,r0,r7,aN,d3,lR,Option.isSome_none,Option.isSome_some,Int.toNat_natCast];refine⟨aco,aco,aco,?_⟩;refine(hbo _ (he.sub hy.1)).pthen ?_;cases d4:((n:Int)==0)
  case true=>
   have e4:n=0:=acp;rw[if_pos e4]at hl2;simp only[go_sem,r6,r7,hob,d4];refine .mk _ (Bs _ _ _ _) (hy.1.put hid _) ⟨?_,rfl⟩;rw[←hl2];rfl
  have e4:n≠0:=acp;rw[if_neg e4]at hl2;have w2:IntKind.i64.wrap ((i:Int)+(n:Int))=((i+n:Nat):Int):=acE;simp only[go_sem,r5,r6,r7,hob,d4];refine(hy.put hid hob _).app (zs:=[fD {t with pos:=i}]) acr acr (fun k hk=>hk) (by grind [OE,pF]) (by rw[OE];exact pF [{t with pos:=i}]) (by grind [UI]) fun y' h2 hy' hk2=>?_
  simp only[go_sem,r7,w2];refine⟨s.length - (i+n),aco,i+n,f,y',out++ [{t with pos:=i}],id,acp,acp,aco,rfl,aco,hs,hid,⟨_,_,_,_,hk2 _ _ _ (ah ..)⟩,?_,?_,?_,?_,?_⟩
  ·grind [List.drop_drop]
  all_goals simp only[go_sem,r0,r6]
 ·intro nx
  cases d0:decide (4096<(s.length:Int))
  case true=>
   have e0:s.length>4096:=acp;refine .one hU hm ?_;simp only[go_sem,d0];exact .mk (.tup [.sl [] .no,.i 6,.i 4096]) (fo (.tup [.sl [] .full,.i 6,.i 4096])) (.refl _) ⟨by rw[sA,if_pos e0];rfl,rfl⟩
  have e0:¬s.length>4096:=acp;refine .one hU hm ?_;simp only[go_sem,d0];refine .one hU hm ?_;simp only[go_sem];refine .one hU hm ?_;simp only[go_sem];intro id hid;simp only[go_sem];refine .one hU hm ?_;simp only[go_sem];refine .one hU hm ?_;simp only[go_sem];refine nx (s.length - 0) _ _ ⟨0,s.length+1,_,[],id,.full (.ak hid),acw,aco,rfl,aco,aco,hid,⟨_,_,_,_,ah ..⟩,by simp_all [sA,if_neg],?_,?_,?_,?_⟩<;>simp only[go_sem]
def PO(st:PS):Blk:=.obj [.sl (st.ts.map fD) .no,.i st.pos,.i st.rules,.i st.bad,.i st.place] 183
def PC(f:FuncId)(args:List AV)(st:PS)(R:AV)(st' :PS):Prop:=∀(h:Heap) (id:Nat),h id=some (PO st)→ai Tryz.prog f (.ptr id 0::args) h fun r h' =>r=R∧h' =upd h id (some (PO st'))
theorem PC.go{f:FuncId}{args:List AV}{st st' :PS}{R:AV}(hc:PC f args st R st'){h:Heap}{id:Nat}{Q:AV→Heap→Prop}(hid:h id=some (PO st))(k:Q R (upd h id (some (PO st')))):ai Tryz.prog f (.ptr id 0::args) h Q:=
 (hc h id hid).mono fun r h' ⟨e1,e2⟩=>aeZ
theorem bG{h:Heap}{id:Nat}{b:Option Blk}(e:h id=b):upd h id b=h:=by
 grind [ah,ag]
theorem rm(st:PS)(e p:Int):PC 118 [.i e,.i p] st (.tup []) (bI st e p):=fun h id hid=>by
 refine acn Tryz.func118 19 [] fun hwf=>?_
 have g:=hid;unfold PO at g;cases d1:(st.bad==0)
 ·have e1:st.bad≠0:=by grind
  simp only[go_sem,g,d1];exact .mk _ (.refl _) (.refl _) ⟨rfl,by rw[bI,if_neg e1,bG hid]⟩
 ·have e1:st.bad=0:=by grind
  simp only[go_sem,g,d1];exact .mk _ (.refl _) (.refl _) ⟨rfl,by rw[bI,if_pos e1];rfl⟩
theorem lU(st:PS)(hw:WfP st):PC 115 [] st (fD (aL st)) st:=fun h id hid=>by
 refine acn Tryz.func115 13 [.cell 2 186] fun hwf=>?_
 have g:=hid;unfold PO at g;simp only[go_sem];intro i2 hi2;have n2:id≠i2:=fun e=>acp
 simp only[go_sem,g,aj,n2];refine⟨.of acs,?_⟩;refine .at st.pos (by simpa using hw.1) acz ?_
 simp only[go_sem,ace,fD];refine .mk _ (.refl _) (.ak hi2) ⟨by rw[Dm hw.1];rfl,(bG hid).symm⟩
theorem lu(st:PS)(hw:WfP st):PC 116 [] st (.tup []) (bn st):=fun h id hid=>by
 refine acn Tryz.func116 7 [] fun hwf=>?_
 simp only[go_sem];refine(lU st hw).go hid ?_;rw[bG hid];simp only[go_sem,fD];refine(rm st 5 _).go hid ?_;exact aha
theorem cO(st:PS)(b:Bool)(hw:WfP st):PC 204 [.b b] st (.tup []) (bF st b):=fun h id hid=>by
 refine acn Tryz.func204 10 [] fun hwf=>?_
 cases b
 ·simp only[go_sem]
  exact ae5
 simp only[go_sem];refine(lU st hw).go hid ?_;rw[bG hid];simp only[go_sem,fD];refine(rm st 6 _).go hid ?_;exact aha
theorem tK(st:PS)(s:Txt)(hw:WfP st):PC 205 [.s s] st (.b (isD st s)) st:=fun h id hid=>by
 refine acn Tryz.func205 29 [.tmp 4] fun hwf=>?_
 have g:=hid;unfold PO at g;simp only[go_sem];refine(lU st hw).go hid ?_;rw[bG hid];simp only[go_sem,fD];intro i2 hi2;have n2:id≠i2:=fun e=>acp
 cases d1:(st.bad==0)<;>cases d2:((aL st).s==s)<;>cases d3:((aL st).kind==1)<;>cases d4:((aL st).kind==6)
 all_goals
  simp only[go_sem,g,aj,n2,d1,d2,d3,d4];exact .mk _ (.refl _) (.ak hi2) ⟨by simp only[isD,d1,d2,d3,d4];rfl,rfl⟩
theorem jV(st:PS)(s:Txt)(hw:WfP st):PC 202 [.s s] st (.v (.bool (cu st s).1)) (cu st s).2:=fun h id hid=>by
 refine acn Tryz.func202 18 [.tmp 4] fun hwf=>?_
 have g:=hid;unfold PO at g;simp only[go_sem];refine(tK st s hw).go hid ?_;rw[bG hid];cases d1:isD st s
 ·have e:cu st s=(false,st):=by grind [cu]
  simp only[go_sem];exact .mk _ (.refl _) (.refl _) ⟨agc,by grind [bG]⟩
 ·have e:cu st s=(true,bh st):=by grind [cu]
  have w1:IntKind.i64.wrap ((st.pos:Int)+1)=((st.pos+1:Nat):Int):=ad2;simp only[go_sem,g,w1];exact .mk _ (.refl _) (.refl _) ⟨agc,agc⟩
theorem kJ(st:PS)(s:Txt)(hw:WfP st):PC 163 [.s s] st (.tup []) (dQ st s):=fun h id hid=>by
 refine acn Tryz.func163 10 [] fun hwf=>?_
 simp only[go_sem];refine(jV st s hw).go hid ?_;cases d1:isD st s
 ·have e:cu st s=(false,st):=by grind [cu]
  rw[e,bG hid];simp only[go_sem];refine(lu st hw).go hid ?_;exact ah5
 ·have e:cu st s=(true,bh st):=by grind [cu]
  rw[e];exact ah5
theorem tZ(st:PS)(hw:WfP st):PC 161 [] st (.s (ct st).1) (ct st).2:=fun h id hid=>by
 refine acn Tryz.func161 25 [.tmp 2] fun hwf=>?_
 have g:=hid;unfold PO at g;have w1:IntKind.i64.wrap ((st.pos:Int)+1)=((st.pos+1:Nat):Int):=ad2;simp only[go_sem];refine(lU st hw).go hid ?_;rw[bG hid];simp only[go_sem,fD];intro i2 hi2;have n2:id≠i2:=fun e=>acp
 cases d1:((aL st).kind !=1)
 case true=>
  have e1:(aL st).kind≠1:=acp;have en:ct st=([],bn st):=by grind [ct]
  simp only[go_sem,d1];have hid2:upd h i2 (some (.obj [.v (.int .i64 (aL st).kind),.v (.int .i64 (aL st).pos),.v (.int .i64 (aL st).n),.s (aL st).s] 186)) id=some (PO st):=acZ;refine(lu st hw).go hid2 ?_;have hb:(bn st).bad≠0:=by
   grind [bn,bI,Int]
  have d2:((bn st).bad !=0)=true:=acp;simp only[go_sem,PO,d2];exact .mk _ (.refl _) (Sub.both (.ak hi2) _ _) ⟨adg,acp⟩
 have e1:(aL st).kind=1:=acp;cases d2:(st.bad !=0)
 case true=>
  have e2:st.bad≠0:=acp;have en:ct st=([],st):=by grind [ct]
  simp only[go_sem,g,aj,n2,d1,d2];exact .mk _ (.refl _) (.ak hi2) ⟨adg,by grind [bG]⟩
 have e2:st.bad=0:=acp;have en:ct st=((aL st).s,bh st):=by grind [ct]
 simp only[go_sem,g,aj,n2,n2.symm,d1,d2,w1];exact .mk _ (.refl _) (Sub.both (.ak hi2) _ _) ⟨adg,by rw[en];try rfl⟩
theorem PC.run{f:FuncId}{args:List AV}{st st' :PS}{R:AV}(hc:PC f args st R st'){G:Heap}{id:Nat}{Q:AV→Heap→Prop}(k:Q R (upd G id (some (PO st')))):ai Tryz.prog f (.ptr id 0::args) (upd G id (some (PO st))) Q:=
 hc.go (ah ..) (by rw[nu];exact k)
theorem PC.of{f:FuncId}{args:List AV}{st st' :PS}{R:AV}(hk:∀(G:Heap) (id:Nat),ai Tryz.prog f (.ptr id 0::args) (upd G id (some (PO st))) fun r h' =>r=R∧h' =upd G id (some (PO st'))):PC f args st R st' :=fun h id hid=>by
 have:=hk h id;rw[bG hid]at this;exact ac8
theorem cB{α:Type}(f:Nat→α){i j:Nat}(x y:α)(h:i≠j):upd (upd f i x) j y=upd (upd f j y) i x:=by
 grind [ag,ah]
theorem BZ{s:Txt}:∀ {ws:List Txt} {i:Nat},uT s ws=some i→i<ws.length
 |w::r,i,h=>by
  simp only[uT]at h;split at h
  ·grind
  ·cases hr:uT s r with
   |none=>grind
   |some j=>rw[hr]at h;cases h;have:=BZ hr;simp;omega
theorem G0{s:Txt}:∀ {ws:List Txt} (i:Nat) (hi:i<ws.length),(∀j (hj:j<ws.length),j<i→ws[j]≠s)→ws[i]=s→uT s ws=some i
 |w::r,0,_,_,h=>by grind [uT]
 |w::r,i+1,hi,hb,h=>by
  have h0:=hb 0 acw aco;simp only[List.getElem_cons_zero]at h0;simp only[uT,if_neg h0];rw[G0 i acp acp acp];rfl
theorem AM{s:Txt}:∀ {ws:List Txt},(∀j (hj:j<ws.length),ws[j]≠s)→uT s ws=none
 | [],_=>rfl
 |w::r,hb=>by
  have h0:=hb 0 acw;simp only[List.getElem_cons_zero]at h0;simp only[uT,if_neg h0];rw[AM (fun j hj=>by have:=hb (j+1) acp;simpa using this)]
  rfl
def QN(o:Option Nat):Int:=match o with
 |some i=>i
 |none=> -1
theorem I4(ws:List Txt)(q:Perm)(s:Txt)(hl:ws.length≤1000)(h:Heap):ai Tryz.prog 201 [.sl (ws.map AV.s) q,.s s] h fun r h' =>r= .i (QN (uT s ws))∧h' =h:=by
 refine acn Tryz.func201 19 [.tmp 4] fun hwf=>?_
 simp only[go_sem,acd];refine .intro (fun m ρ h' =>h' =h∧∃i:Nat,i≤ws.length∧m=ws.length - i∧(∀j (hj:j<ws.length),j<i→ws[j]≠s)∧lk ρ 0=some (.sl (ws.map AV.s) q)∧lk ρ 1=some (.s s)∧lk ρ 7=some (.i ws.length)∧lk ρ 8=some (.i i)) ws.length ?_ ?_
 ·refine⟨rfl,0,aco,rfl,fun j _ hj=>aco,?_,?_,?_,?_⟩<;>simp only[go_sem]
 ·rintro m ρ h' ⟨rfl,i,hi,rfl,hc,r0,r1,r7,r8⟩
  simp only[go_sem,r7,r8];refine .intro (fun e=>?_) (fun e=>?_)
  ·have hlt:i<ws.length:=ack e
   have w1:IntKind.i64.wrap ((i:Int)+1)=((i+1:Nat):Int):=acE;simp only[go_sem,r0,r1,r8];refine .at i acp acz ?_;cases d1:(s==ws[i])
   ·have e1:ws[i]≠s:=by grind
    simp only[go_sem,r8,ace,d1,w1];refine⟨_,?_,rfl,i+1,aco,rfl,fun j hj hji=>?_,?_,?_,?_,?_⟩
    ·omega
    ·grind
    all_goals simp only[go_sem,r0,r1,r7]
   ·have e1:ws[i]=s:=by grind
    simp only[go_sem,ace,d1];exact .same (.refl _) ⟨by rw[G0 i hlt hc e1];rfl,rfl⟩
  ·have hge:i=ws.length:=by grind
   subst hge;simp only[go_sem];exact .same (.refl _) ⟨by rw[AM fun j hj=>hc j hj hj];rfl,rfl⟩
theorem nP(st:PS)(ws:List Txt)(q:Perm)(hl:ws.length≤1000)(hw:WfP st):PC 160 [.sl (ws.map AV.s) q] st (.v (.int .i64 (aZ st ws).1)) (aZ st ws).2:=.of fun G id=>by
 refine acn Tryz.func160 28 [.tmp 4] fun hwf=>?_
 simp only[go_sem];refine(lU st hw).run ?_;simp only[go_sem,fD];intro i2 hi2;have n2:=aH hi2;have hG2:G i2=none:=acZ;have c2:∀(f:Heap) (x y:Option Blk),upd (upd f id x) i2 y=upd (upd f i2 y) id x:=fun f x y=>cB f x y n2.symm
 cases d1:((aL st).kind==1)
 ·have e1:(aL st).kind≠1:=by grind
  have en:aZ st ws=(0,bn st):=by grind [aZ]
  simp only[go_sem,c2,aj,n2,d1];exact ag7
 have e1:(aL st).kind=1:=acp;simp only[go_sem,c2,aj,n2,d1];refine(I4 ws q _ hl _).pthen ?_;cases ei:uT (aL st).s ws with
 |none=>
  have en:aZ st ws=(0,bn st):=by grind [aZ]
  have dm:decide ((0:Int)≤ -1)=false:=acr;simp only[go_sem,QN,dm];exact ag7
 |some i=>
  have hil:=BZ ei;have d2:decide (0≤(i:Int))=true:=acw;have w1:IntKind.i64.wrap ((i:Int)+1)=((i:Int)+1):=acE;simp only[go_sem,QN,d2,aj,n2];refine(jV st _ hw).run ?_;cases d3:(st.bad==0)
  ·have e3:st.bad≠0:=by grind
   have et:cu st (aL st).s=(false,st):=by grind [cu,isD]
   have en:aZ st ws=(0,bn st):=by grind [aZ]
   rw[et];simp only[go_sem];exact ag7
  ·have e3:st.bad=0:=by grind
   have et:cu st (aL st).s=(true,bh st):=by grind [cu,isD]
   have en:aZ st ws=((i:Int)+1,bh st):=by grind [aZ]
   rw[et];simp only[go_sem,w1];exact .mk _ (.refl _) (Sub.both (.ak hG2) _ _) ⟨adg,by rw[en]⟩
theorem Km(st:PS)(hw:WfP st):PC 294 [] st (CF (fT st).1) (fT st).2:=.of fun G id=>by
 have h1:=gA vK hw;have h2:=jb [46] h1.1;have h3:=mO h2.1;refine acn Tryz.func294 17 [.cell 2 227] fun hwf=>?_
 simp only[go_sem];intro i2 hi2;have n2:=aH hi2;have hG2:G i2=none:=acZ;have c2:∀(f:Heap) (x y:Option Blk),upd (upd f id x) i2 y=upd (upd f i2 y) id x:=fun f x y=>cB f x y n2.symm
 simp only[go_sem,c2];intro i3 hi3;have n3:=aH hi3;have hi3' :=hi3;rw[ag _ _ n3]at hi3';have n32:=aH hi3';have hG3:G i3=none:=acZ;have c3:∀(f:Heap) (x y:Option Blk),upd (upd f id x) i3 y=upd (upd f i3 y) id x:=fun f x y=>cB f x y n3.symm
 have c23:∀(f:Heap) (x y:Option Blk),upd (upd f i3 x) i2 y=upd (upd f i2 y) i3 x:=fun f x y=>cB f x y n32
 have m32:¬i3=i2:=n32;have m23:¬i2=i3:=n32.symm;simp only[go_sem,c3];refine(nP st vK .full acr hw).run ?_;simp only[go_sem,c3,aj,n3];refine(kJ _ [46] h1.1).run ?_;simp only[go_sem];refine(tZ _ h2.1).run ?_;simp only[go_sem,c3,aj,n3];refine(jV _ [33] h3.1).run ?_;simp only[go_sem,c2,c3,c23,aj,n2,n3,m23];exact .mk _ (.refl _) (Sub.both acS _ _) ⟨rfl,rfl⟩
theorem uu(st:PS)(hw:WfP st):PC 295 [] st (aU (aD st).1) (aD st).2:=.of fun G id=>by
 refine acn Tryz.func295 56 [.cell 2 30] fun hwf=>?_
 have w1:IntKind.i64.wrap ((st.pos:Int)+1)=((st.pos+1:Nat):Int):=ad2;simp only[go_sem];intro i2 hi2;have n2:=aH hi2;have hG2:G i2=none:=by rw[ag _ _ n2]at hi2;exact hi2
 have c2:∀(f:Heap) (x y:Option Blk),upd (upd f id x) i2 y=upd (upd f i2 y) id x:=fun f x y=>cB f x y n2.symm
 simp only[go_sem,c2];refine(lU st hw).run ?_;simp only[go_sem,fD];intro i3 hi3;have n3:=aH hi3;have hi3' :=hi3;rw[ag _ _ n3]at hi3';have n32:=aH hi3';have hG3:G i3=none:=by rw[ag _ _ n32]at hi3';exact hi3'
 have c3:∀(f:Heap) (x y:Option Blk),upd (upd f id x) i3 y=upd (upd f i3 y) id x:=fun f x y=>cB f x y n3.symm
 have c23:∀(f:Heap) (x y:Option Blk),upd (upd f i3 x) i2 y=upd (upd f i2 y) i3 x:=fun f x y=>cB f x y n32
 have m32:¬i3=i2:=n32;have m23:¬i2=i3:=n32.symm;simp only[go_sem,c3,aj,n3];intro i4 hi4;have n4:=aH hi4;have hi4' :=hi4;rw[ag _ _ n4]at hi4';have n43:=aH hi4';have hi4'' :=hi4';rw[ag _ _ n43]at hi4'';have n42:=aH hi4'';have hG4:G i4=none:=by rw[ag _ _ n42]at hi4'';exact hi4''
 have c4:∀(f:Heap) (x y:Option Blk),upd (upd f id x) i4 y=upd (upd f i4 y) id x:=fun f x y=>cB f x y n4.symm
 have c24:∀(f:Heap) (x y:Option Blk),upd (upd f i4 x) i2 y=upd (upd f i2 y) i4 x:=fun f x y=>cB f x y n42
 have c34:∀(f:Heap) (x y:Option Blk),upd (upd f i4 x) i3 y=upd (upd f i3 y) i4 x:=fun f x y=>cB f x y n43
 have m42:¬i4=i2:=n42;have m24:¬i2=i4:=n42.symm;have m43:¬i4=i3:=n43;have m34:¬i3=i4:=n43.symm;cases k2:((aL st).kind==2)
 case true=>
  have e2:(aL st).kind=2:=by simpa using k2
  have ev:fS st=(⟨2,(aL st).n,(aL st).s⟩,st):=by simp[fS,e2]
  cases kb:(st.bad !=0)
  ·have eb:st.bad=0:=by simpa using kb
   have en:aD st=(⟨2,(aL st).n,(aL st).s⟩,bh st):=adN;simp only[go_sem,c2,c4,c23,c24,aj,n2,n3,n4,m23,m24,m34,k2,PO,kb,w1];exact agF
  ·have eb:st.bad≠0:=by simpa using kb
   have en:aD st=(⟨0,0,[]⟩,st):=adN;simp only[go_sem,c2,c4,c23,c24,aj,n2,n3,n4,m23,m24,m34,k2,PO,kb];exact agF
 have e2:(aL st).kind≠2:=by simpa using k2
 cases k3:((aL st).kind==3)
 case true=>
  have e3:(aL st).kind=3:=by simpa using k3
  have ev:fS st=(⟨4,(aL st).n,(aL st).s⟩,st):=by simp[fS,e3]
  cases kb:(st.bad !=0)
  ·have eb:st.bad=0:=by simpa using kb
   have en:aD st=(⟨4,(aL st).n,(aL st).s⟩,bh st):=adN;simp only[go_sem,c2,c4,c23,c24,aj,n2,n3,n4,m23,m24,m34,k2,k3,PO,kb,w1];exact agF
  ·have eb:st.bad≠0:=by simpa using kb
   have en:aD st=(⟨0,0,[]⟩,st):=adN;simp only[go_sem,c2,c4,c23,c24,aj,n2,n3,n4,m23,m24,m34,k2,k3,PO,kb];exact agF
 have e3:(aL st).kind≠3:=by simpa using k3
 cases k4:((aL st).kind==4)
 case true=>
  have e4:(aL st).kind=4:=by simpa using k4
  have ev:fS st=(⟨5,(aL st).n,(aL st).s⟩,st):=by simp[fS,e4]
  cases kb:(st.bad !=0)
  ·have eb:st.bad=0:=by simpa using kb
   have en:aD st=(⟨5,(aL st).n,(aL st).s⟩,bh st):=adN;simp only[go_sem,c2,c4,c23,c24,aj,n2,n3,n4,m23,m24,m34,k2,k3,k4,PO,kb,w1];exact agF
  ·have eb:st.bad≠0:=by simpa using kb
   have en:aD st=(⟨0,0,[]⟩,st):=adN;simp only[go_sem,c2,c4,c23,c24,aj,n2,n3,n4,m23,m24,m34,k2,k3,k4,PO,kb];exact agF
 have e4:(aL st).kind≠4:=by simpa using k4
 cases k5:((aL st).kind==5)
 case true=>
  have e5:(aL st).kind=5:=by simpa using k5
  have ev:fS st=(⟨3,(aL st).n,(aL st).s⟩,st):=by simp[fS,e5]
  cases kb:(st.bad !=0)
  ·have eb:st.bad=0:=by simpa using kb
   have en:aD st=(⟨3,(aL st).n,(aL st).s⟩,bh st):=adN;simp only[go_sem,c2,c4,c23,c24,aj,n2,n3,n4,m23,m24,m34,k2,k3,k4,k5,PO,kb,w1];exact agF
  ·have eb:st.bad≠0:=by simpa using kb
   have en:aD st=(⟨0,0,[]⟩,st):=adN;simp only[go_sem,c2,c4,c23,c24,aj,n2,n3,n4,m23,m24,m34,k2,k3,k4,k5,PO,kb];exact agF
 have e5:(aL st).kind≠5:=by simpa using k5
 simp only[go_sem,c4,aj,n3,n4,m34,k2,k3,k4,k5];refine(tK st wH hw).run ?_;cases kt:isD st wH
 case true=>
  have ev:fS st=(⟨1,1,[]⟩,st):=by simp[fS,e2,e3,e4,e5,kt]
  cases kb:(st.bad !=0)
  ·have eb:st.bad=0:=by simpa using kb
   have en:aD st=(⟨1,1,[]⟩,bh st):=adN;simp only[go_sem,c2,c4,c23,c24,aj,n2,n4,m23,m24,PO,kb,w1];exact agF
  ·have eb:st.bad≠0:=by simpa using kb
   have en:aD st=(⟨0,0,[]⟩,st):=adN;simp only[go_sem,c2,c4,c23,c24,aj,n2,n4,m23,m24,PO,kb];exact agF
 simp only[go_sem];refine(tK st qw hw).run ?_;cases kf:isD st qw
 case true=>
  have ev:fS st=(⟨1,0,[]⟩,st):=by simp[fS,e2,e3,e4,e5,kt,kf]
  cases kb:(st.bad !=0)
  ·have eb:st.bad=0:=by simpa using kb
   have en:aD st=(⟨1,0,[]⟩,bh st):=adN;simp only[go_sem,c2,c4,c23,c24,aj,n2,n4,m23,m24,PO,kb,w1];exact agF
  ·have eb:st.bad≠0:=by simpa using kb
   have en:aD st=(⟨0,0,[]⟩,st):=adN;simp only[go_sem,c2,c4,c23,c24,aj,n2,n4,m23,m24,PO,kb];exact agF
 have ev:fS st=(⟨0,(aL st).n,(aL st).s⟩,bn st):=by simp[fS,e2,e3,e4,e5,kt,kf]
 have en:aD st=(⟨0,0,[]⟩,bn st):=by simp[aD,ev,rG]
 have kb:((bn st).bad !=0)=true:=by simpa using rG st
 simp only[go_sem];refine(lu st hw).run ?_;simp only[go_sem,c2,c23,c24,aj,n2,m23,m24,PO,kb];exact agF
def tQ:List Txt:=[[61],[60],[62]]
theorem Rf{st:PS}(i:Nat)(hi:i<tQ.length)(hb:∀j (hj:j<tQ.length),j<i→isD st tQ[j]=false)(h:isD st tQ[i]=true):opP st=((i:Int)+1,bh st):=by
 have h3:i<3:=hi;rcases(by omega:i=0∨i=1∨i=2)with rfl|rfl|rfl
 ·simp only[opP,show isD st [61]=true from h,if_true];rfl
 ·simp only[opP,show isD st [61]=false from hb 0 acr acr,show isD st [60]=true from h,if_true];rfl
 ·simp only[opP,show isD st [61]=false from hb 0 acr acr,show isD st [60]=false from hb 1 acr acr,show isD st [62]=true from h,if_true];rfl
theorem LP{st:PS}(hb:∀j (hj:j<tQ.length),isD st tQ[j]=false):opP st=(0,bn st):=by
 simp only[opP,show isD st [61]=false from hb 0 acr,show isD st [60]=false from hb 1 acr,show isD st [62]=false from hb 2 acr];rfl
theorem Hl(st:PS)(hw:WfP st):PC 269 [] st (cP (gw st).1) (gw st).2:=.of fun G id=>by
 have h1:=BD hw;obtain⟨a,st1,e1⟩:∃a st1,fT st=(a,st1):=⟨_,_,rfl⟩;have hat:=Km st hw;rw[e1]at h1 hat;simp only at h1 hat;refine acn Tryz.func269 32 [.cell 2 273] fun hwf=>?_
 simp only[go_sem];intro i2 hi2;have n2:=aH hi2;have hG2:G i2=none:=acZ;have c2:∀(f:Heap) (x y:Option Blk),upd (upd f id x) i2 y=upd (upd f i2 y) id x:=fun f x y=>cB f x y n2.symm
 simp only[go_sem,c2];refine hat.run ?_;simp only[go_sem,CF];intro i3 hi3;have n3:=aH hi3;have hi3' :=hi3;rw[ag _ _ n3]at hi3';have n32:=aH hi3';have hG3:G i3=none:=acZ;have c3:∀(f:Heap) (x y:Option Blk),upd (upd f id x) i3 y=upd (upd f i3 y) id x:=fun f x y=>cB f x y n3.symm
 have c23:∀(f:Heap) (x y:Option Blk),upd (upd f i3 x) i2 y=upd (upd f i2 y) i3 x:=fun f x y=>cB f x y n32
 have m32:¬i3=i2:=n32;have m23:¬i2=i3:=n32.symm;simp only[go_sem,c3,aj,n3];refine .intro (fun m ρ H=>H=upd (upd (upd G i2 (some (.obj [.i 0,.s [],.b false,.i 0,.i 0,.i 0,.s []] 273))) i3 (some (.obj [.i a.cat,.s a.name,.b a.must,.i 0,.i 0,.i 0,.s []] 273))) id (some (PO st1))∧
  ∃i:Nat,i≤3∧m=3 - i∧(∀j (hj:j<tQ.length),j<i→isD st1 tQ[j]=false)∧lk ρ 0=some (.ptr id 0)∧lk ρ 2=some (.ptr i2 0)∧lk ρ 3=some (.ptr i3 0)∧lk ρ 9=some (.sl (tQ.map AV.s) .full)∧lk ρ 10=some (.i 3)∧lk ρ 11=some (.i i)) 3 ?_ ?_
 ·refine⟨rfl,0,aco,rfl,fun j _ hj=>aco,?_,?_,?_,?_,?_,?_⟩<;>simp only[go_sem]<;>rfl
 ·rintro m ρ H ⟨rfl,i,hi,rfl,hb,r0,r2,r3,r9,r10,r11⟩
  simp only[go_sem,r10,r11];refine .intro (fun e=>?_) (fun e=>?_)
  ·have hlt:i<3:=by grind
   have hlo:i<tQ.length:=hlt;have w1:IntKind.i64.wrap ((i:Int)+1)=((i+1:Nat):Int):=acE;have w2:IntKind.i64.wrap (1+(i:Int))=((i:Int)+1):=acp;simp only[go_sem,r9,r11];refine .at i acp acz ?_;simp only[go_sem,r0,ace];refine(jV st1 tQ[i] h1.1).run ?_;cases d1:isD st1 tQ[i]
   ·have et:cu st1 tQ[i]=(false,st1):=by grind [cu]
    rw[et];simp only[go_sem,r11,w1];refine⟨_,?_,rfl,i+1,aco,rfl,fun j hj hji=>?_,?_,?_,?_,?_,?_,?_⟩
    ·omega
    ·grind
    all_goals simp only[go_sem,r0,r2,r3,r9,r10]
   ·have et:cu st1 tQ[i]=(true,bh st1):=by grind [cu]
    have eo:=Rf i hlo hb d1;have h2:Ah st1 (bh st1):=eO h1.1 (dH d1);have en:gw st=(⟨a,(i:Int)+1,(aD (bh st1)).1⟩,(aD (bh st1)).2):=by grind [gw]
    have d2:(((i:Int)+1)==0)=false:=acF;rw[et];simp only[go_sem,c3,aj,n3,r0,r3,w2,d2];refine(uu (bh st1) h2.1).run ?_;exact ahx
  ·have hge:i=3:=by grind
   subst hge;have eo:=LP fun j hj=>hb j hj hj
   have h2:Ah st1 (bn st1):=nO h1.1;have en:gw st=(⟨a,0,(aD (bn st1)).1⟩,(aD (bn st1)).2):=by grind [gw]
   simp only[go_sem,r0,r3,aj,n3];refine(lu st1 h1.1).run ?_;simp only[go_sem,r0];refine(uu (bn st1) h2.1).run ?_;exact ahx
theorem RJ:(U 273).sz=7:=acF
theorem UQ:(U 273).bytes=72:=acF
theorem HM(l:List bM):Sized 7 (l.map cP):=fun z hz=>by
 obtain⟨c,_,rfl⟩:=List.mem_map.1 hz;rfl
theorem RI:(U 274).sz=1:=acF
theorem UO:(U 274).bytes=24:=acF
theorem HL(l:List (List bM)):Sized 1 (l.map fP):=fun z hz=>by
 obtain⟨c,_,rfl⟩:=List.mem_map.1 hz;rfl
theorem RM:(U 270).sz=1:=acF
theorem US:(U 270).bytes=24:=acF
theorem HO(l:List (List (List bM))):Sized 1 (l.map bP):=fun z hz=>by
 obtain⟨c,_,rfl⟩:=List.mem_map.1 hz;rfl
theorem OX(st:PS)(hw:WfP st):PC 238 [] st (fP (pR st).1) (pR st).2:=.of fun G id=>by
 have h1:=pY hw;have hm1:=Hl st hw;obtain⟨x0,st1,e1⟩:∃x0 st1,gw st=(x0,st1):=⟨_,_,rfl⟩;have ep:fL gw [44] 8 st.ts.length st1 [x0]=pR st:=by grind [pR]
 rw[e1]at h1 hm1;simp only[cP]at h1 hm1;refine acn Tryz.func238 20 [.tmp 2] fun hwf=>?_
 simp only[go_sem];refine hm1.run ?_;simp only[go_sem];have hB:upd G id none id=none:=ah ..;refine .intro (fun m ρ H=>∃(f:Nat) (st' :PS) (l:List _) (y:AV),H id=some (PO st')∧Acc U 273 (upd G id none) H y (l.map cP)∧Ah st1 st'∧fL gw [44] 8 f st' l=pR st∧st1.ts.length≤f+st'.pos∧l.length≤st'.pos+1∧m=st1.ts.length - st'.pos∧lk ρ 0=some (.ptr id 0)∧lk ρ 3=some y) (st1.ts.length - st1.pos) ?_ ?_
 ·refine⟨st.ts.length,st1,[x0],.sl ([x0].map cP) .full,ah ..,.full (base_start G id _),.refl h1.1,ep,by rw[h1.2.1];omega,acw,rfl,?_,?_⟩<;>simp only[go_sem]<;>rfl
 ·rintro m ρ H ⟨f,st',l,y,hH,hy,ha,hfin,hf,hll,rfl,r0,r3⟩
  have hlen:=ha.1.2.2;have hpos:=ha.1.1;have htl:=ha.2.1;simp only[go_sem,r0];refine(jV st' [44] ha.1).go hH ?_;cases d1:isD st' [44]
  ·have et:cu st' [44]=(false,st'):=by grind [cu]
   have ef:fL gw [44] 8 f st' l=(l,st'):=afM;rw[et,bG hH];rw[ef]at hfin;simp only[go_sem,r3];exact .mk (h' :=upd G id (some (PO (pR st).2))) (fP l) hy.weak (by rw[←hfin];exact fj hy.1 hH) ⟨acp,rfl⟩
  ·have et:cu st' [44]=(true,bh st'):=by grind [cu]
   obtain⟨g,rfl⟩:∃g,f=g+1:=⟨f - 1,acp⟩;simp only[fL,d1,if_true]at hfin;have h2:=eO ha.1 (dH d1);have hone:=Hl (bh st') h2.1;have h3:=(fun _ h=>pY h:∀st,WfP st→Ah st (gw st).2) _ h2.1
   obtain⟨x,st2,e2⟩:∃x st2,gw (bh st')=(x,st2):=⟨_,_,rfl⟩;rw[e2]at hfin hone h3;simp only[cP]at hfin hone h3;have hdec:decide ((8:Int)<((l.length+1:Nat):Int))=decide (8<l.length+1):=by
    grind
   have h4:=kU (decide (8<l.length+1)) h3.1;have hnp:(bh st').pos=st'.pos+1:=rfl;have hp3:=h3.2.2;have hp4:=h4.2.2;rw[et];simp only[go_sem,r0,r3];refine hone.run ?_;simp only[go_sem];refine(hy.put hB hH _).app (zs:=[cP x]) (by grind [RJ]) (by grind [UQ]) (fun k hk=>hk) (by grind [RJ,HM]) (by rw[RJ];exact HM [x]) (by grind [UQ]) fun y' H2 hy' hk2=>?_
   exact agC
theorem OY(st:PS)(hw:WfP st):PC 203 [] st (bP (rK st).1) (rK st).2:=.of fun G id=>by
 have h0:=jb [40] hw;have h1:=BB h0.1;have hm1:=OX _ h0.1;obtain⟨x0,st1,e1⟩:∃x0 st1,pR (dQ st [40])=(x0,st1):=⟨_,_,rfl⟩;obtain⟨M,eM⟩:∃M,fL pR orT 8 st.ts.length st1 [x0]=M:=⟨_,rfl⟩;have epp:(M.1,dQ M.2 [41])=rK st:=by grind [rK]
 rw[e1]at h1 hm1;simp only[fP]at h1 hm1;refine acn Tryz.func203 24 [.tmp 2] fun hwf=>?_
 simp only[go_sem];refine(kJ st [40] hw).run ?_;simp only[go_sem];refine hm1.run ?_;simp only[go_sem];have hB:upd G id none id=none:=ah ..;refine .intro (fun m ρ H=>∃(f:Nat) (st' :PS) (l:List _) (y:AV),H id=some (PO st')∧Acc U 274 (upd G id none) H y (l.map fP)∧Ah st1 st'∧fL pR orT 8 f st' l=M∧st1.ts.length≤f+st'.pos∧l.length≤st'.pos+1∧m=st1.ts.length - st'.pos∧lk ρ 0=some (.ptr id 0)∧lk ρ 3=some y) (st1.ts.length - st1.pos) ?_ ?_
 ·refine⟨st.ts.length,st1,[x0],.sl ([x0].map fP) .full,ah ..,.full (base_start G id _),.refl h1.1,eM,by rw[h1.2.1,h0.2.1];omega,acw,rfl,?_,?_⟩<;>simp only[go_sem]<;>rfl
 ·rintro m ρ H ⟨f,st',l,y,hH,hy,ha,hfin,hf,hll,rfl,r0,r3⟩
  have hlen:=ha.1.2.2;have hpos:=ha.1.1;have htl:=ha.2.1;simp only[go_sem,r0];refine(jV st' orT ha.1).go hH ?_;cases d1:isD st' orT
  ·have et:cu st' orT=(false,st'):=by grind [cu]
   have ef:fL pR orT 8 f st' l=(l,st'):=afM;rw[et,bG hH];rw[ef]at hfin;simp only[go_sem,r0];refine(kJ st' [41] ha.1).go hH ?_;simp only[go_sem,r3];exact .mk (h' :=upd G id (some (PO (rK st).2))) (bP l) hy.weak (by rw[←epp,←hfin];exact fj (hy.1.put hB _) (ah ..)) ⟨acp,rfl⟩
  ·have et:cu st' orT=(true,bh st'):=by grind [cu]
   obtain⟨g,rfl⟩:∃g,f=g+1:=⟨f - 1,acp⟩;simp only[fL,d1,if_true]at hfin;have h2:=eO ha.1 (dH d1);have hone:=OX (bh st') h2.1;have h3:=(fun _ h=>BB h:∀st,WfP st→Ah st (pR st).2) _ h2.1
   obtain⟨x,st2,e2⟩:∃x st2,pR (bh st')=(x,st2):=⟨_,_,rfl⟩;rw[e2]at hfin hone h3;simp only[fP]at hfin hone h3;have hdec:decide ((8:Int)<((l.length+1:Nat):Int))=decide (8<l.length+1):=by
    grind
   have h4:=kU (decide (8<l.length+1)) h3.1;have hnp:(bh st').pos=st'.pos+1:=rfl;have hp3:=h3.2.2;have hp4:=h4.2.2;rw[et];simp only[go_sem,r0,r3];refine hone.run ?_;simp only[go_sem];refine(hy.put hB hH _).app (zs:=[fP x]) (by grind [RI]) (by grind [UO]) (fun k hk=>hk) (by grind [RI,HL]) (by rw[RI];exact HL [x]) (by grind [UO]) fun y' H2 hy' hk2=>?_
   exact agC
theorem PD(st:PS)(hw:WfP st):PC 162 [] st (aS (gM st).1) (gM st).2:=.of fun G id=>by
 refine acn Tryz.func162 23 [.tmp 2] fun hwf=>?_
 simp only[go_sem];refine(jV st EE hw).run ?_;cases d0:isD st EE
 ·have et:cu st EE=(false,st):=by grind [cu]
  have ep:gM st=([],st):=by grind [gM]
  rw[et];simp only[go_sem];exact .mk (h' :=upd G id (some (PO (gM st).2))) (aS []) (.sl _ _) (by rw[ep];exact .refl _) ⟨by rw[ep],rfl⟩
 have et:cu st EE=(true,bh st):=by grind [cu]
 have h0:=eO hw (dH d0);have h1:=BC h0.1;have hm1:=OY _ h0.1;obtain⟨x0,st1,e1⟩:∃x0 st1,rK (bh st)=(x0,st1):=⟨_,_,rfl⟩;obtain⟨M,eM⟩:∃M,fL rK CB 8 st.ts.length st1 [x0]=M:=⟨_,rfl⟩;have ep:M=gM st:=by simp_all [gM,if_true]
 rw[e1]at h1 hm1;simp only[bP]at h1 hm1;rw[et];simp only[go_sem];refine hm1.run ?_;simp only[go_sem];have hB:upd G id none id=none:=ah ..;refine .intro (fun m ρ H=>∃(f:Nat) (st' :PS) (l:List _) (y:AV),H id=some (PO st')∧Acc U 270 (upd G id none) H y (l.map bP)∧Ah st1 st'∧fL rK CB 8 f st' l=M∧st1.ts.length≤f+st'.pos∧l.length≤st'.pos+1∧m=st1.ts.length - st'.pos∧lk ρ 0=some (.ptr id 0)∧lk ρ 3=some y) (st1.ts.length - st1.pos) ?_ ?_
 ·refine⟨st.ts.length,st1,[x0],.sl ([x0].map bP) .full,ah ..,.full (base_start G id _),.refl h1.1,eM,by rw[h1.2.1,h0.2.1];omega,acw,rfl,?_,?_⟩<;>simp only[go_sem]<;>rfl
 ·rintro m ρ H ⟨f,st',l,y,hH,hy,ha,hfin,hf,hll,rfl,r0,r3⟩
  have hlen:=ha.1.2.2;have hpos:=ha.1.1;have htl:=ha.2.1;simp only[go_sem,r0];refine(jV st' CB ha.1).go hH ?_;cases d1:isD st' CB
  ·have et:cu st' CB=(false,st'):=by grind [cu]
   have ef:fL rK CB 8 f st' l=(l,st'):=afM;rw[et,bG hH];rw[ef]at hfin;simp only[go_sem,r3];exact .mk (h' :=upd G id (some (PO (gM st).2))) (aS l) hy.weak (by rw[←ep,←hfin];exact fj hy.1 hH) ⟨acp,rfl⟩
  ·have et:cu st' CB=(true,bh st'):=by grind [cu]
   obtain⟨g,rfl⟩:∃g,f=g+1:=⟨f - 1,acp⟩;simp only[fL,d1,if_true]at hfin;have h2:=eO ha.1 (dH d1);have hone:=OY (bh st') h2.1;have h3:=(fun _ h=>BC h:∀st,WfP st→Ah st (rK st).2) _ h2.1
   obtain⟨x,st2,e2⟩:∃x st2,rK (bh st')=(x,st2):=⟨_,_,rfl⟩;rw[e2]at hfin hone h3;simp only[bP]at hfin hone h3;have hdec:decide ((8:Int)<((l.length+1:Nat):Int))=decide (8<l.length+1):=by
    grind
   have h4:=kU (decide (8<l.length+1)) h3.1;have hnp:(bh st').pos=st'.pos+1:=rfl;have hp3:=h3.2.2;have hp4:=h4.2.2;rw[et];simp only[go_sem,r0,r3];refine hone.run ?_;simp only[go_sem];refine(hy.put hB hH _).app (zs:=[bP x]) (by grind [RM]) (by grind [US]) (fun k hk=>hk) (by grind [RM,HO]) (by rw[RM];exact HO [x]) (by grind [US]) fun y' H2 hy' hk2=>?_
   exact agC
theorem DN(op:Int)(h:Heap):ai Tryz.prog 314 [.i op] h fun r h' =>r= .sl ((opers op).map jG) .no∧h' =h:=by
 refine acn Tryz.func314 15 [.tmp 2] fun hwf=>?_
 cases k3:(op==3)<;>cases k4:(op==4)<;>cases k5:(op==5)<;>cases k11:(op==11)
 all_goals
  simp only[go_sem,k3,k4,k5,k11];simp only[beq_iff_eq,beq_eq_false_iff_ne]at k3 k4 k5 k11;refine .mk _ (.sl _ _) (.refl _) ⟨?_,rfl⟩
  grind [opers,jG]
theorem UT:(U 158).sz=3:=acF
theorem W9:(U 158).bytes=32:=acF
theorem HN(l:List cD):Sized 3 (l.map aW):=fun z hz=>by
 obtain⟨c,_,rfl⟩:=List.mem_map.1 hz;rfl
theorem th(st:PS)(hw:WfP st):PC 166 [] st (ay (gm st).1) (gm st).2:=.of fun G id=>by
 obtain⟨M,eM⟩:∃M,gm st=M:=⟨_,rfl⟩;have eM2:fL zT wj 8 st.ts.length st []=M:=eM;refine acn Tryz.func166 28 [.tmp 2] fun hwf=>?_
 simp only[go_sem];have hB:upd G id none id=none:=ah ..;refine .intro (fun m ρ H=>∃(f:Nat) (st' :PS) (l:List cD) (y:AV),H id=some (PO st')∧Acc U 158 (upd G id none) H y (l.map aW)∧Ah st st'∧fL zT wj 8 f st' l=M∧st.ts.length≤f+st'.pos∧l.length≤st'.pos+1∧m=st.ts.length - st'.pos∧lk ρ 0=some (.ptr id 0)∧lk ρ 3=some y) (st.ts.length - st.pos) ?_ ?_
 ·refine⟨st.ts.length,st,[],.sl ([].map aW) .full,ah ..,.full (base_start G id _),.refl hw,eM2,aco,acw,rfl,?_,?_⟩<;>simp only[go_sem]<;>rfl
 ·rintro m ρ H ⟨f,st',l,y,hH,hy,ha,hfin,hf,hll,rfl,r0,r3⟩
  have hlen:=ha.1.2.2;have hpos:=ha.1.1;have htl:=ha.2.1;simp only[go_sem,r0];refine(jV st' wj ha.1).go hH ?_;cases d1:isD st' wj
  ·have et:cu st' wj=(false,st'):=by grind [cu]
   have ef:fL zT wj 8 f st' l=(l,st'):=afM;rw[et,bG hH];rw[ef]at hfin;simp only[go_sem,r3];exact .mk (h' :=upd G id (some (PO (gm st).2))) (ay l) hy.weak (by rw[eM,←hfin];exact fj hy.1 hH) ⟨acp,rfl⟩
  ·have et:cu st' wj=(true,bh st'):=by grind [cu]
   obtain⟨g,rfl⟩:∃g,f=g+1:=⟨f - 1,acp⟩;simp only[fL,d1,if_true]at hfin;have h2:=eO ha.1 (dH d1);have ho1:=gA vf h2.1;have ho2:=gA mu ho1.1;have ho3:=mO ho2.1;have h3:Ah (bh st') (zT (bh st')).2:=Kf h2.1;have hdec:decide ((8:Int)<((l.length+1:Nat):Int))=decide (8<l.length+1):=by
    grind
   have h4:=kU (decide (8<l.length+1)) h3.1;have hnp:(bh st').pos=st'.pos+1:=rfl;have hp3:=h3.2.2;have hp4:=h4.2.2;have eX:(zT (bh st'))=(⟨(aZ (bh st') vf).1,(aZ (aZ (bh st') vf).2 mu).1,(ct (aZ (aZ (bh st') vf).2 mu).2).1⟩,(ct (aZ (aZ (bh st') vf).2 mu).2).2):=rfl;obtain⟨x,st2,e2⟩:∃x st2,zT (bh st')=(x,st2):=⟨_,_,rfl⟩;rw[et];simp only[go_sem];intro i4 hi4;have n4:=aH hi4;have hH4:H i4=none:=acZ;have c4:∀(f:Heap) (x y:Option Blk),upd (upd f id x) i4 y=upd (upd f i4 y) id x:=fun f x y=>cB f x y n4.symm
   simp only[go_sem,r0,c4];refine(nP _ vf .full acr h2.1).run ?_;simp only[go_sem,r0,c4,aj,n4];refine(nP _ mu .full acr ho1.1).run ?_;simp only[go_sem,r0,c4,aj,n4];refine(tZ _ ho2.1).run ?_;simp only[go_sem,r3,c4,aj,n4];rw[e2]at hfin h3 h4 hp3 hp4;simp only at hfin h3 h4 hp3 hp4;have ex1:x=(zT (bh st')).1:=by rw[e2]
   have ex2:st2=(ct (aZ (aZ (bh st') vf).2 mu).2).2:=by
    grind
   rw[←ex2];refine((hy.sub (Sub.ak (k:=_) hH4)).put hB (by rw[ag _ _ n4.symm];exact hH) _).app (zs:=[aW x]) acr acr (fun k hk=>by rw[ex1]at hk;exact hk) (by grind [UT,HN]) (by rw[UT];exact HN [x]) (by grind [W9]) fun y' H2 hy' hk2=>?_
   exact agC
theorem sV{U:TypeId→TI}{e:TypeId}{B B' H:Heap}{y:AV}{xs:List AV}(hs:Sub B B')(ha:Acc U e B' H y xs):Acc U e B H y xs:=by
 obtain⟨h1,rfl|⟨k,i1,rfl,i2⟩⟩:=ha
 ·exact⟨hs.trans h1,.inl rfl⟩
 ·refine⟨hs.trans h1,.inr ⟨k,?_,rfl,i2⟩⟩
  cases hk:B k with
  |none=>rfl
  |some b=>rw[hs _ _ hk]at i1;omega
theorem xw{U:TypeId→TI}{e:TypeId}{B H:Heap}{y:AV}{xs:List AV}(ha:Acc U e B H y xs){i:Nat}(hi:H i=none)(b:Option Blk):Acc U e (upd B i b) (upd H i b) y xs:=by
 obtain⟨h1,rfl|⟨k,i1,rfl,i2⟩⟩:=ha
 ·exact⟨h1.both _ _,.inl rfl⟩
 ·have hne:k≠i:=fun hh=>by subst hh;rw[hi]at i2;cases i2
  exact⟨h1.both _ _,.inr ⟨k,acZ,rfl,acZ⟩⟩
theorem nN{U:TypeId→TI}{e:TypeId}{G K:Heap}{id:Nat}{st:PS}{y:AV}{xs:List AV}(ha:Acc U e (upd G id none) (upd K id (some (PO st))) y xs)(st' :PS):Acc U e (upd G id none) (upd K id (some (PO st'))) y xs:=by
 have:=ha.put (id:=id) (ah ..) (cs:=_) (t:=_) (ah ..) (some (PO st'));rw[nu]at this;exact ac8
def XC(f:FuncId)(args:List AV)(st:PS)(l:List aM)(mk:AV→AV)(st' :PS)(l' :List aM):Prop:=
 ∀(G K:Heap) (id:Nat) (y:AV),Acc U 229 (upd G id none) (upd K id (some (PO st))) y (l.map cJ)→ai Tryz.prog f (.ptr id 0::y::args) (upd K id (some (PO st))) fun r h' =>∃y',r=mk y'∧h' id=some (PO st')∧Acc U 229 (upd G id none) h' y' (l'.map cJ)
theorem XC.run{f:FuncId}{args:List AV}{st st' :PS}{l l' :List aM}{mk:AV→AV}(hc:XC f args st l mk st' l'){G K:Heap}{id:Nat}{y:AV}{Q:AV→Heap→Prop}(ha:Acc U 229 (upd G id none) (upd K id (some (PO st))) y (l.map cJ))
  (k:∀y' K',Acc U 229 (upd G id none) (upd K' id (some (PO st'))) y' (l'.map cJ)→Q (mk y') (upd K' id (some (PO st')))):ai Tryz.prog f (.ptr id 0::y::args) (upd K id (some (PO st))) Q:=
 (hc G K id y ha).mono fun r h' ⟨y',e1,e2,e3⟩=>by
  subst e1;have:=k y' h' (by grind [bG])
  rwa [bG e2]at this
def EH(ex:ExF)(f:Nat):Prop:=∀st l,WfP st→st.ts.length≤f+st.pos→l.length≤2*st.pos+1→XC 270 [] st l (fun y=> .tup [y,.v (.bool (ex st l).1.2)]) (ex st l).2 (ex st l).1.1
theorem HZ(st:PS)(ws:List Txt):0≤(aZ st ws).1∧(aZ st ws).1≤ws.length:=by
 unfold aZ;cases ei:uT (aL st).s ws with
 |none=>simp
 |some i=>
  have:=BZ ei;simp only;split<;>simp<;>omega
theorem AW{ex:ExF}(ho:EK ex){f:Nat}(he:EH ex f)(st:PS)(l:List aM)(b:Bool)(hw:WfP st)(hf:st.ts.length≤f+st.pos)(hl:l.length≤2*st.pos+1):XC 239 [.b b] st l (fun y=>y) (ie ex st l b).2 (ie ex st l b).1:=fun G K id y ha=>by
 refine acn Tryz.func239 25 [.tmp 6] fun hwf=>?_
 simp only[go_sem];refine(lU st hw).run ?_;simp only[go_sem,fD];refine(he st l hw hf hl).run ha fun y' K' ha' =>?_
 cases db:((ex st l).1.2==b)
 ·have e1:(ex st l).1.2≠b:=by grind
  have en:ie ex st l b=((ex st l).1.1,bI (ex st l).2 5 (aL st).pos):=by grind [ie]
  simp only[go_sem,db,Bool.not_false];refine(rm _ 5 _).run ?_;simp only[go_sem];exact .mk (h' :=upd K' id (some (PO (bI (ex st l).2 5 (aL st).pos)))) y' (.refl _) (.refl _) ⟨y',rfl,agq,by grind [nN]⟩
 ·have e1:(ex st l).1.2=b:=by grind
  have en:ie ex st l b=((ex st l).1.1,(ex st l).2):=by grind [ie]
  simp only[go_sem,db,Bool.not_true];exact .mk (h' :=upd K' id (some (PO (ex st l).2))) y' (.refl _) (.refl _) ⟨y',rfl,agq,acp⟩
theorem Fv{ex:ExF}(ho:EK ex){f:Nat}(he:EH ex f)(st:PS)(l:List aM)(hw:WfP st)(hf:st.ts.length≤f+st.pos)(hl:l.length+1≤2*st.pos):XC 296 [] st l (fun y=> .tup [y,cJ (qA ex st l).1.2]) (qA ex st l).2 (qA ex st l).1.1:=fun G K id y ha=>by
 have h1:=gA lH hw;have hrg:=HZ st lH;have hfl:lH.length=11:=rfl;have w2:IntKind.i64.wrap (2+(aZ st lH).1)=2+(aZ st lH).1:=acE;refine acn Tryz.func296 36 [.tmp 4,.cell 5 229] fun hwf=>?_
 simp only[go_sem];intro i5 hi5;have n5:=aH hi5;have hK5:K i5=none:=acZ;have c5:∀(f:Heap) (x y:Option Blk),upd (upd f id x) i5 y=upd (upd f i5 y) id x:=fun f x y=>cB f x y n5.symm
 simp only[go_sem,c5];refine(nP _ lH .full acr hw).run ?_;simp only[go_sem,w2];intro i6 hi6;have n6:=aH hi6;have c6:∀(f:Heap) (x y:Option Blk),upd (upd f id x) i6 y=upd (upd f i6 y) id x:=fun f x y=>cB f x y n6.symm
 have hi6' :=hi6;rw[ag _ _ n6]at hi6';have n65:=aH hi6';have hK6:K i6=none:=acZ;simp only[go_sem,c6,aj,n6];refine(DN _ _).pthen ?_;simp only[go_sem];have h5f:=ha;obtain⟨bs,ebs⟩:∃bs,opers (2+(aZ st lH).1)=bs:=⟨_,rfl⟩;obtain⟨M,eM⟩:∃M,jl ex bs (aZ st lH).2 l=M:=⟨_,rfl⟩;have hb2:bs.length≤2:=by grind [DO]
 have hMr:qA ex st l=((M.1,⟨2+(aZ st lH).1,⟨0,0,[]⟩,⟨0,[],false⟩⟩),dQ M.2 [41]):=by grind [qA]
 obtain⟨st1,es1⟩:∃st1,(aZ st lH).2=st1:=⟨_,rfl⟩;have hac0:=xw (xw (nN ha st1) (by rw[ag _ _ n5];omega) (some (.obj [.i 0,.i 0,.i 0,.s [],.i 0,.s [],.b false] 229))) (by rw[ag _ _ n65,ag _ _ n6];omega) (some (.obj [.i (2+(aZ st lH).1),.i 0,.i 0,.s [],.i 0,.s [],.b false] 229))
 simp only[c5,c6]at hac0;obtain⟨G',eG⟩:∃G',G' =upd (upd G i5 (some (.obj [.i 0,.i 0,.i 0,.s [],.i 0,.s [],.b false] 229))) i6 (some (.obj [.i (2+(aZ st lH).1),.i 0,.i 0,.s [],.i 0,.s [],.b false] 229)):=⟨_,rfl⟩;have g5:upd G' id none i5=some (.obj [.i 0,.i 0,.i 0,.s [],.i 0,.s [],.b false] 229):=by simp_all [ag,Ne.symm,ah]
 have g6:upd G' id none i6=some (.obj [.i (2+(aZ st lH).1),.i 0,.i 0,.s [],.i 0,.s [],.b false] 229):=by simp_all [ag,ah]
 rw[←eG]at hac0;have gi5:upd G id none i5=none:=by
  cases hk:upd G id none i5 with
  |none=>rfl
  |some b=>rw[ha.1 _ _ hk]at hi5;omega
 have hsG:Sub (upd G id none) (upd G' id none):=fun k b hk=>by
  have hs1:=ha.1 k b hk;have hk5:k≠i5:=fun e=>acp
  have hk6:k≠i6:=fun e=>by
   grind [ag]
  by_cases hkid:k=id
  ·subst hkid;rw[ah]at hk;cases hk
  ·rw[ag _ _ hkid]at hk⊢
   rw[eG,ag _ _ hk6,ag _ _ hk5];exact hk
 simp only[es1,ebs]at h1 eM⊢;refine .intro (fun m ρ H=>∃(i:Nat) (st' :PS) (l' :List aM) (y' :AV) (K' :Heap),H=upd K' id (some (PO st'))∧Acc U 229 (upd G' id none) (upd K' id (some (PO st'))) y' (l'.map cJ)∧Ah st1 st'∧i≤bs.length∧jl ex (bs.drop i) st' l' =M∧l'.length+1≤2*st'.pos+i∧m=bs.length - i∧lk ρ 0=some (.ptr id 0)∧lk ρ 1=some y'∧lk ρ 5=some (.ptr i5 0)∧lk ρ 6=some (.ptr i6 0)∧lk ρ 16=some (.sl (bs.map jG) .no)∧lk ρ 17=some (.i bs.length)∧lk ρ 18=some (.i i)) bs.length ?_ ?_
 ·refine⟨0,st1,l,y,_,rfl,hac0,.refl h1.1,aco,acp,by have:=h1.2.2;omega,rfl,?_,?_,?_,?_,?_,?_,?_⟩<;>simp only[go_sem]<;>(try rfl)<;>simp
 ·rintro m ρ H ⟨i,st',l',y',K',rfl,hac,hah,hi,hfin,hll,rfl,r0,r1,r5,r6,r16,r17,r18⟩
  simp only[go_sem,r17,r18];have k6:upd K' id (some (PO st')) i6=some (.obj [.i (2+(aZ st lH).1),.i 0,.i 0,.s [],.i 0,.s [],.b false] 229):=hac.1 _ _ g6;have k5:upd K' id (some (PO st')) i5=some (.obj [.i 0,.i 0,.i 0,.s [],.i 0,.s [],.b false] 229):=hac.1 _ _ g5;rw[ag _ _ n6]at k6;rw[ag _ _ n5]at k5;refine .intro (fun e=>?_) (fun e=>?_)
  ·have hlt:i<bs.length:=ack e
   simp only[go_sem,r16,r18];refine .at i acp acz ?_;cases db:(st'.bad !=0)
   ·have e1:st'.bad=0:=by grind
    rw[List.drop_eq_getElem_cons hlt]at hfin;simp only[jl,e1,if_true]at hfin;simp only[go_sem,r0,r1,ace,jG,PO,db];have hpl:=hah.2.2;refine(AW ho he st' l' bs[i] hah.1 (by rw[hah.2.1,h1.2.1];have:=h1.2.2;omega) aco).run hac fun y2 K2 hac2=>?_
    obtain⟨q1,q2⟩:=yK ho st' l' bs[i] hah.1;have w1:IntKind.i64.wrap ((i:Int)+1)=((i+1:Nat):Int):=acE;simp only[go_sem,r18,w1];refine⟨_,?_,i+1,(ie ex st' l' bs[i]).2,(ie ex st' l' bs[i]).1,y2,K2,rfl,hac2,hah.trans q1,hlt,hfin,aco,rfl,?_⟩
    ·omega
    refine⟨?_,?_,?_,?_,?_,?_,?_⟩
    all_goals simp only[go_sem,r0,r5,r6,r16,r17]
   ·have e1:st'.bad≠0:=by grind
    have hfin2:(l',st')=M:=by
     grind [List.drop_eq_getElem_cons,jl]
    clear hfin;have hfin:=hfin2;simp only[go_sem,r0,ace,jG,PO,db];refine(kJ _ [41] hah.1).run ?_;simp only[go_sem,r1,r5,r6,aj,n5,n6,k5,k6];refine⟨.of acs,?_⟩;exact .mk (.tup [y',cJ ⟨2+(aZ st lH).1,⟨0,0,[]⟩,⟨0,[],false⟩⟩]) (.refl _) (.refl _) ⟨y',acF,by rw[hMr,←hfin];exact(ag _ _ (Ne.symm n5)).trans (ah ..),adT⟩
  ·have hge:i=bs.length:=by grind
   subst hge;rw[List.drop_length]at hfin;simp only[jl]at hfin;simp only[go_sem,r0];refine(kJ _ [41] hah.1).run ?_;simp only[go_sem,r1,r5,r6,aj,n5,n6,k5,k6];refine⟨.of acs,?_⟩;exact .mk (.tup [y',cJ ⟨2+(aZ st lH).1,⟨0,0,[]⟩,⟨0,[],false⟩⟩]) (.refl _) (.refl _) ⟨y',acF,by rw[hMr,←hfin];simp_all [ag,Ne.symm,trans,ah],adT⟩
theorem sP:(U 229).sz=7:=acF
theorem Ad:(U 229).bytes=72:=acF
theorem kO(l:List aM):Sized 7 (l.map cJ):=fun z hz=>by
 obtain⟨c,_,rfl⟩:=List.mem_map.1 hz;rfl
theorem QK(f:Nat)(ih:EH (dY f) f):EH (dY (f+1)) (f+1):=fun st l hw hf hl G K id y ha=>by
 refine acn Tryz.func270 52 [.tmp 4,.tmp 5] fun hwf=>?_
 simp only[go_sem];intro i6 hi6;have n6:=aH hi6;have hK6:K i6=none:=by rw[ag _ _ n6]at hi6;exact hi6
 have c6:∀(f:Heap) (x y:Option Blk),upd (upd f id x) i6 y=upd (upd f i6 y) id x:=fun f x y=>cB f x y n6.symm
 have gi6:upd G id none i6=none:=by
  cases hk:upd G id none i6 with
  |none=>rfl
  |some b=>rw[ha.1 _ _ hk]at hi6;cases hi6
 have hac:=xw ha hi6 (some (.obj [.i 0,.i 0,.i 0,.s [],.i 0,.s [],.b false] 229));simp only[go_sem,c6];refine(lU st hw).run ?_;simp only[go_sem,fD];intro i7 hi7;have n7:=aH hi7;have hi7' :=hi7;rw[ag _ _ n7]at hi7';have n76:=aH hi7';have m76:¬i7=i6:=n76;have m67:¬i6=i7:=fun e=>n76 e.symm
 have hK7:K i7=none:=by rw[ag _ _ n76]at hi7';exact hi7'
 have c7:∀(f:Heap) (x y:Option Blk),upd (upd f id x) i7 y=upd (upd f i7 y) id x:=fun f x y=>cB f x y n7.symm
 have e6:upd (upd G id none) i6 (some (.obj [.i 0,.i 0,.i 0,.s [],.i 0,.s [],.b false] 229))=upd (upd G i6 (some (.obj [.i 0,.i 0,.i 0,.s [],.i 0,.s [],.b false] 229))) id none:=c6 G none _;have hac7:∀k,Acc U 229 (upd (upd G i6 (some (.obj [.i 0,.i 0,.i 0,.s [],.i 0,.s [],.b false] 229))) id none) (upd (upd (upd K i6 (some (.obj [.i 0,.i 0,.i 0,.s [],.i 0,.s [],.b false] 229))) i7 k) id (some (PO st))) y (l.map cJ):=fun k=>by
  have:=hac.sub (Sub.ak (k:=k) (by rw[c6];exact hi7))
  rw[e6,c6 K,c7]at this;exact ac8
 have hsG:Sub (upd G id none) (upd (upd G i6 (some (.obj [.i 0,.i 0,.i 0,.s [],.i 0,.s [],.b false] 229))) id none):=by
  rw[←e6];exact Sub.ak gi6
 have g6:upd (upd G i6 (some (.obj [.i 0,.i 0,.i 0,.s [],.i 0,.s [],.b false] 229))) id none i6=some (.obj [.i 0,.i 0,.i 0,.s [],.i 0,.s [],.b false] 229):=by rw[←e6,ah]
 simp only[go_sem,c7,aj,n7];refine(jV st [40] hw).run ?_;have hacX:∀tk NB st',Acc U 229 (upd G id none) (upd (upd (upd (upd K i6 (some (.obj [.i 0,.i 0,.i 0,.s [],.i 0,.s [],.b false] 229))) i7 tk) i6 NB) id (some (PO st'))) y (l.map cJ):=fun tk NB st' =>by
  have:=(nN (sV hsG (hac7 tk)) st').put gi6 ((ag _ _ n6).trans ((ag _ _ m67).trans (ah ..))) NB;rw[c6]at this;exact ac8
 obtain⟨⟨⟨lh,n⟩,sth⟩,eh⟩:∃x,iW (dY f) st l=x:=⟨_,rfl⟩;obtain⟨hha,hhl⟩:=Dl (qv f) st l hw;rw[eh]at hha hhl;simp only at hha hhl;have hwp:=hha.1.2.2;have hwq:=hha.1.1;have hpl:=hha.2.2;have hdec:decide ((32:Int)<((lh.length+1:Nat):Int))=decide (32<lh.length+1):=by
  by_cases h:32<lh.length+1
  ·simp only[h,decide_true];exact decide_eq_true aco
  ·simp only[h,decide_false];exact decide_eq_false aco
 cases d0:isD st [40]
 ·have et:cu st [40]=(false,st):=by simp[cu,d0]
  rw[et];cases d1:((aL st).kind==1)
  ·have en:iW (dY f) st l=((l,⟨1,(aD st).1,⟨0,[],false⟩⟩),(aD st).2):=by
    have:(aL st).kind≠1:=afn;simp[iW,d0,this]
   simp only[go_sem,aj,n7,d1];exact agB
  ·have k1:(aL st).kind=1:=by simpa using d1
   cases d2:((aL st).s== [116,114,117,101])
   ·have k2:(aL st).s≠wH:=by unfold wH;simpa using d2
    cases d3:((aL st).s== [102,97,108,115,101])
    ·have k3:(aL st).s≠qw:=by unfold qw;simpa using d3
     have en:iW (dY f) st l=((l,⟨2,⟨0,0,[]⟩,(fT st).1⟩),(fT st).2):=by simp[iW,d0,k1,k2,k3]
     simp only[go_sem,aj,n7,d1,d2,d3,Bool.not_false];refine(Km st hw).run ?_;rw[en]at eh;injection eh with eh1 eh2
     injection eh1 with eh3 eh4
     subst eh2;subst eh3;subst eh4;simp only[go_sem,c6,aj,n6,m67,CF];refine(hacX _ _ _).app (zs:=[cJ (⟨2,⟨0,0,[]⟩,(fT st).1⟩:aM)]) age agd (fun k hk=>hk) afv (by rw[sP];exact kO [(⟨2,⟨0,0,[]⟩,(fT st).1⟩:aM)]) afd fun y3 H3 hy3 hk3=>?_
     have hH3:H3 id=some (PO (fT st).2):=hk3 _ _ _ (ah ..);have hb3:H3 i6=some (.obj [.v (.int .i64 (⟨2,⟨0,0,[]⟩,(fT st).1⟩:aM).op),.v (.int .i64 (⟨2,⟨0,0,[]⟩,(fT st).1⟩:aM).val.kind),.v (.int .i64 (⟨2,⟨0,0,[]⟩,(fT st).1⟩:aM).val.n),.s (⟨2,⟨0,0,[]⟩,(fT st).1⟩:aM).val.s,.v (.int .i64 (⟨2,⟨0,0,[]⟩,(fT st).1⟩:aM).attr.cat),.s (⟨2,⟨0,0,[]⟩,(fT st).1⟩:aM).attr.name,.v (.bool (⟨2,⟨0,0,[]⟩,(fT st).1⟩:aM).attr.must)] 229):=hk3 _ _ _ ((ag _ _ n6).trans (ah ..));simp only[go_sem,hy3.len,ach,acd,List.length_cons,List.length_nil,Nat.zero_add,hdec];refine(cO (fT st).2 _ hha.1).go hH3 ?_;simp only[go_sem,aj,n6,hb3];refine⟨.of acs,?_⟩;have efin:dY (f+1) st l=((l++ [(⟨2,⟨0,0,[]⟩,(fT st).1⟩:aM)],(⟨2,⟨0,0,[]⟩,(fT st).1⟩:aM).op==2),bF (fT st).2 (decide (32<l.length+1))):=agj;exact .mk (.tup [y3,.b ((⟨2,⟨0,0,[]⟩,(fT st).1⟩:aM).op==2)]) (.refl _) (.refl _) ⟨y3,by rw[efin],aeQ,ade⟩
    ·have k3:(aL st).s=qw:=by unfold qw;simpa using d3
     have en:iW (dY f) st l=((l,⟨1,(aD st).1,⟨0,[],false⟩⟩),(aD st).2):=by simp[iW,d0,k1,k3]
     simp only[go_sem,aj,n7,d1,d2,d3,Bool.not_false,Bool.not_true];exact agB
   ·have k2:(aL st).s=wH:=by unfold wH;simpa using d2
    have en:iW (dY f) st l=((l,⟨1,(aD st).1,⟨0,[],false⟩⟩),(aD st).2):=by simp[iW,d0,k1,k2]
    simp only[go_sem,aj,n7,d1,d2,Bool.not_true];exact agB
 ·have et:cu st [40]=(true,bh st):=by simp[cu,d0]
  have h1:=eO hw (dH d0);have hnp:(bh st).pos=st.pos+1:=rfl;have hnt:(bh st).ts=st.ts:=rfl;rw[et];simp only[go_sem];have ef:qA (dY f) (bh st) l=((lh,n),sth):=by rw[←eh];simp[iW,d0]
  have hfx:=Fv (qv f) ih (bh st) l h1.1 (by rw[hnt];omega) aco
  simp only[ef]at hfx;refine hfx.run (nN (hac7 _) _) fun y2 K2 hac2=>?_
  have k6:=hac2.1 _ _ g6;rw[ag _ _ n6]at k6;simp only[go_sem,c6,aj,n6,k6,cJ];have hac3:=(sV hsG hac2).put gi6 ((ag _ _ n6).trans k6) (some (.obj [.i n.op,.i n.val.kind,.i n.val.n,.s n.val.s,.i n.attr.cat,.s n.attr.name,.b n.attr.must] 229));rw[c6]at hac3;refine(hac3).app (zs:=[cJ n]) age agd (fun k hk=>hk) afv (by rw[sP];exact kO [n]) afd fun y3 H3 hy3 hk3=>?_
  have hH3:H3 id=some (PO sth):=hk3 _ _ _ (ah ..);have hb3:H3 i6=some (.obj [.i n.op,.i n.val.kind,.i n.val.n,.s n.val.s,.i n.attr.cat,.s n.attr.name,.b n.attr.must] 229):=hk3 _ _ _ ((ag _ _ n6).trans (ah ..));simp only[go_sem,hy3.len,ach,acd,List.length_cons,List.length_nil,Nat.zero_add,hdec];refine(cO sth _ hha.1).go hH3 ?_;simp only[go_sem,aj,n6,hb3];refine⟨.of acs,?_⟩;have efin:dY (f+1) st l=((lh++ [n],n.op==2),bF sth (decide (32<lh.length+1))):=by simp only[dY,eh]
  exact .mk (.tup [y3,.b (n.op==2)]) (.refl _) (.refl _) ⟨y3,by rw[efin],aeQ,ade⟩
theorem KW:∀f,EH (dY f) f
 |0=>fun st l hw hf _=>absurd hw.1 aco
 |f+1=>QK f (KW f)
theorem Fq{P:Program}{f:FuncId}{args:List AV}{h:Heap}{Q Q' :AV→Heap→Prop}(hf:ai P f args h Q)(hq:∀x h1,Q x h1→∃y h2,Weak x y∧Sub h2 h1∧Q' y h2):ai P f args h Q' :=
 fun c vs h1 h2 h3 h4=>(hf c vs h1 h2 h3 h4).mono fun u w' ⟨c',x,h',g1,g2,g3,g4,g5,g6⟩=>by
  obtain⟨y,h'',k1,k2,k3⟩:=hq x h' g6;exact⟨c',y,h'',g1,g2,g3,g4.weak k1,k2.trans g5,k3⟩
def flat:AV→AV
 |.sl xs _=> .sl xs .no
 |x=>x
theorem gh(xs:List AV):Weak (.agg xs) (.agg (xs.map flat)):=.agg _ _ acw fun i h1 h2=>by
 rw[ace];cases xs[i]<;>first|exact .refl _|exact .sl _ _
theorem Jj(st:PS)(hw:WfP st):PC 239 [.sl [] .full,.b false] st (dL (ie (dY st.ts.length) st [] false).1) (ie (dY st.ts.length) st [] false).2:=.of fun G id=>by
 have hx:=AW (qv st.ts.length) (KW st.ts.length) st [] false hw aco acw;refine Fq (hx G G id (.sl [] .full) (.full (base_start G id _))) fun r h1 ⟨y',e1,e2,e3⟩=>⟨_,upd G id (some (PO (ie (dY st.ts.length) st [] false).2)),?_,fj e3.1 e2,rfl,rfl⟩
 subst e1;exact e3.weak
theorem Md(deny:Bool)(st:PS)(hw:WfP st):PC 206 [.b deny] st (aA (pO deny st).1) (pO deny st).2:=.of fun G id=>by
 have h1:=mO hw;have h2:=BH h1.1;have h3:=Gy h2.1;have h4:=BF h3.1;have ht:=PD _ h1.1;simp only[aS]at ht;refine acn Tryz.func206 23 [.cell 4 224] fun hwf=>?_
 simp only[go_sem];intro i4 hi4;have n4:=aH hi4;have hG4:G i4=none:=acZ;have c4:∀(f:Heap) (x y:Option Blk),upd (upd f id x) i4 y=upd (upd f i4 y) id x:=fun f x y=>cB f x y n4.symm
 simp only[go_sem,c4];refine(tZ st hw).run ?_;simp only[go_sem];refine ht.run ?_;simp only[go_sem];intro i5 hi5;have n5:=aH hi5;have hi5' :=hi5;rw[ag _ _ n5]at hi5';have n54:=aH hi5';have m54:¬i5=i4:=n54;have m45:¬i4=i5:=n54.symm;have hG5:G i5=none:=acZ;have c5:∀(f:Heap) (x y:Option Blk),upd (upd f id x) i5 y=upd (upd f i5 y) id x:=fun f x y=>cB f x y n5.symm
 have c45:∀(f:Heap) (x y:Option Blk),upd (upd f i5 x) i4 y=upd (upd f i4 y) i5 x:=fun f x y=>cB f x y n54
 simp only[go_sem,c5,aj,n5];refine(jV _ ifT h2.1).run ?_;cases d0:isD (gM (ct st).2).2 ifT
 ·have et:cu (gM (ct st).2).2 ifT=(false,(gM (ct st).2).2):=by grind [cu]
  have ec:qq (gM (ct st).2).2=([],(gM (ct st).2).2):=by grind [qq]
  have er:pO deny st=(⟨(ct st).1,deny,(gM (ct st).2).1,[],(gm (gM (ct st).2).2).1⟩,dQ (gm (gM (ct st).2).2).2 [59]):=by grind [pO]
  rw[ec]at h4;have ho:=th _ h2.1;simp only[ay]at ho;rw[et];simp only[go_sem];refine ho.run ?_;simp only[go_sem,c5,aj,n5];refine(kJ _ [59] h4.1).run ?_;simp only[go_sem,c4,c45,aj,n4,n5,m45];exact .mk (h' :=upd G id (some (PO (dQ (gm (gM (ct st).2).2).2 [59])))) (aA ⟨(ct st).1,deny,(gM (ct st).2).1,[],(gm (gM (ct st).2).2).1⟩) (gh _) (Sub.both acS _ _) ⟨by rw[er],by rw[er]⟩
 ·have et:cu (gM (ct st).2).2 ifT=(true,bh (gM (ct st).2).2):=by grind [cu]
  obtain⟨⟨cn,stc⟩,ec⟩:∃x,qq (gM (ct st).2).2=x:=⟨_,rfl⟩;have er:pO deny st=(⟨(ct st).1,deny,(gM (ct st).2).1,cn,(gm stc).1⟩,dQ (gm stc).2 [59]):=by grind [pO]
  have hcnd:=Jj (bh (gM (ct st).2).2) (eO h2.1 (dH d0)).1;have ec2:ie (dY (bh (gM (ct st).2).2).ts.length) (bh (gM (ct st).2).2) [] false=(cn,stc):=by rw[←ec];simp only[qq,d0,if_true];rfl
  rw[ec2]at hcnd;simp only[dL]at hcnd;rw[ec]at h3 h4;have ho:=th _ h3.1;simp only[ay]at ho;rw[et];simp only[go_sem];refine hcnd.run ?_;simp only[go_sem,c5,aj,n5];refine ho.run ?_;simp only[go_sem,c5,aj,n5];refine(kJ _ [59] h4.1).run ?_;simp only[go_sem,c4,c45,aj,n4,n5,m45];exact .mk (h' :=upd G id (some (PO (dQ (gm stc).2 [59])))) (aA ⟨(ct st).1,deny,(gM (ct st).2).1,cn,(gm stc).1⟩) (gh _) (Sub.both acS _ _) ⟨by rw[er],by rw[er]⟩
theorem OG:(U 224).sz=5:=acF
theorem UR:(U 224).bytes=96:=acF
theorem xl(l:List cN):Sized 5 (l.map aA):=fun z hz=>by
 obtain⟨c,_,rfl⟩:=List.mem_map.1 hz;rfl
theorem Rs(st:PS)(hw:WfP st)(hr:st.rules≤64):PC 165 [] st (.sl ((jS 17 st []).1.map aA) .no) (jS 17 st []).2:=.of fun G id=>by
 obtain⟨M,eM⟩:∃M,jS 17 st []=M:=⟨_,rfl⟩;rw[eM];refine acn Tryz.func165 51 [.tmp 2] fun hwf=>?_
 simp only[go_sem];have hB:upd G id none id=none:=ah ..;refine .intro (fun m ρ H=>∃(f:Nat) (st' :PS) (l:List cN) (y:AV),H id=some (PO st')∧Acc U 224 (upd G id none) H y (l.map aA)∧Ah st st'∧st'.rules≤64∧jS f st' l=M∧f+l.length=17∧l.length≤16∧m=f∧lk ρ 0=some (.ptr id 0)∧lk ρ 3=some y) 17 ?_ ?_
 ·refine⟨17,st,[],.sl ([].map aA) .full,ah ..,.full (base_start G id _),.refl hw,hr,eM,acw,acw,rfl,?_,?_⟩<;>simp only[go_sem]<;>rfl
 ·rintro m ρ H ⟨f,st',l,y,hH,hy,ha,hru,hfin,hf,hll,rfl,r0,r3⟩
  have hlen:=ha.1.2.2;have hpos:=ha.1.1;obtain⟨g,rfl⟩:∃g,m=g+1:=⟨m - 1,aco⟩;simp only[go_sem,r0];refine(tK st' oZ ha.1).go hH ?_;rw[bG hH];have fin:isD st' oZ=false→isD st' iS=false→(l,st')=M:=fun d1 d2=>by
   grind [jS]
  have rest:isD st' oZ=true∨isD st' iS=true→True:=fun _=>trivial
  cases d1:isD st' oZ
  ·simp only[go_sem,r0]
   refine(tK st' iS ha.1).go hH ?_;rw[bG hH];cases d2:isD st' iS
   ·simp only[go_sem,r3]
    have e:=fin d1 d2;exact .mk (h' :=upd G id (some (PO M.2))) (.sl (M.1.map aA) .no) adu (by rw[←e];exact fj hy.1 hH) ⟨rfl,rfl⟩
   ·exact agA
  ·exact agA
theorem OF:(U 65).sz=7:=acF
theorem UP:(U 65).bytes=128:=acF
theorem xk(l:List bB):Sized 7 (l.map aK):=fun z hz=>by
 obtain⟨c,_,rfl⟩:=List.mem_map.1 hz;cases c;rfl
theorem QY(pol:PoF)(d:Nat)(hd5:d≤5)(hp:∀st,WfP st→st.rules≤64→d≤4→PC 114 [.i d] st (aK (pol st).1) (pol st).2)(hpa:∀st,WfP st→Ah st (pol st).2)(hpr:∀st,nD st (pol st).2)
  (st:PS) (hw:WfP st) (hr:st.rules≤64):PC 164 [.i d] st (.sl ((jL pol (decide ((4:Int)<(d:Int))) 17 st []).1.map aK) .no) (jL pol (decide ((4:Int)<(d:Int))) 17 st []).2:=.of fun G id=>by
 obtain⟨M,eM⟩:∃M,jL pol (decide ((4:Int)<(d:Int))) 17 st []=M:=⟨_,rfl⟩;rw[eM];refine acn Tryz.func164 33 [.tmp 4] fun hwf=>?_
 simp only[go_sem];have hB:upd G id none id=none:=ah ..;refine .intro (fun m ρ H=>∃(f:Nat) (st' :PS) (l:List bB) (y:AV),H id=some (PO st')∧Acc U 65 (upd G id none) H y (l.map aK)∧Ah st st'∧st'.rules≤64∧jL pol (decide ((4:Int)<(d:Int))) f st' l=M∧f+l.length=17∧l.length≤16∧m=f∧lk ρ 0=some (.ptr id 0)∧lk ρ 1=some (.i d)∧lk ρ 5=some y) 17 ?_ ?_
 ·refine⟨17,st,[],.sl ([].map aK) .full,ah ..,.full (base_start G id _),.refl hw,hr,eM,acw,acw,rfl,?_,?_,?_⟩<;>simp only[go_sem]<;>rfl
 ·rintro m ρ H ⟨f,st',l,y,hH,hy,ha,hru,hfin,hf,hll,rfl,r0,r1,r5⟩
  have hlen:=ha.1.2.2;have hpos:=ha.1.1;obtain⟨g,rfl⟩:∃g,m=g+1:=⟨m - 1,aco⟩;simp only[go_sem,r0];refine(tK st' o6 ha.1).go hH ?_;rw[bG hH];have fin:isD st' o6=false→isD st' F6=false→(l,st')=M:=fun d1 d2=>by
   grind [jL]
  cases d1:isD st' o6
  ·simp only[go_sem,r0]
   refine(tK st' F6 ha.1).go hH ?_;rw[bG hH];cases d2:isD st' F6
   ·simp only[go_sem,r5]
    have e:=fin d1 d2;exact .mk (h' :=upd G id (some (PO M.2))) (.sl (M.1.map aK) .no) adu (by rw[←e];exact fj hy.1 hH) ⟨rfl,rfl⟩
   ·have hd:isD st' o6=true∨isD st' F6=true:=by grind
    have eb:=(mD hd).1;have ek:=(mD hd).2;have db:(st'.bad !=0)=false:=acp;have gP:=hH;unfold PO at gP;have lim:l.length=16∨decide ((4:Int)<(d:Int))=true→(l,bF st' true)=M:=fun h=>by
     rw[←hfin];simp only[jL,if_pos hd,if_pos h]
    have hdl:bF st' true=bI st' 6 (aL st').pos:=rfl;have hlb:((bF st' true).bad !=0)=true:=by grind [bI]
    cases dA:((l.length:Int)==16)
    ·cases dB:decide ((4:Int)<(d:Int))
     ·have nA:l.length≠16:=fun e=>by grind
      have hno:¬(l.length=16∨decide ((4:Int)<(d:Int))=true):=fun h=>h.elim nA (fun e=>acp)
      simp only[jL,if_pos hd,if_neg hno]at hfin;rw[dB]at hfin;have hd4:d≤4:=acp;simp only[go_sem,r0,r1,r5,hy.len,acd,dA,dB];refine(cO st' false ha.1).go hH ?_;rw[show bF st' false=st' from rfl,bG hH]
      have h3:=hpa st' ha.1;have hrp:=hp st' ha.1 hru hd4;have hr3:=vo (hpr st') hru;obtain⟨x,st2,e2⟩:∃x st2,pol st' =(x,st2):=⟨_,_,rfl⟩;rw[e2]at hfin hrp h3 hr3;obtain⟨pid,pset,palg,ptgt,prules,pkids,pobls⟩:=x;simp only[aK]at hrp hfin h3 hr3;simp only[go_sem,r0,r1,r5,gP,db];refine hrp.go hH ?_;simp only[go_sem];refine(hy.put hB hH _).app (zs:=[aK ⟨pid,pset,palg,ptgt,prules,pkids,pobls⟩]) acr acr (fun k hk=>hk) (by grind [OF,xk]) aeJ (by grind [UP]) fun y' H2 hy' hk2=>?_
      have hH2:H2 id=some (PO st2):=hk2 _ _ _ (ah ..);simp only[go_sem];refine⟨_,?_,g,st2,l++ [⟨pid,pset,palg,ptgt,prules,pkids,pobls⟩],y',hH2,acp,ha.trans h3,hr3,hfin,acp,acp,rfl,?_,?_,?_⟩
      ·omega
      all_goals simp only[go_sem,r0,r1]
     ·have e:=lim (.inr dB)
      simp only[go_sem,r0,r1,r5,hy.len,acd,dA,dB];refine(cO st' true ha.1).go hH ?_;have g3:upd H id (some (PO (bF st' true))) id=some (PO (bF st' true)):=ah ..;unfold PO at g3;simp only[go_sem,r0,r5,g3,hlb,PO];exact .mk (h' :=upd G id (some (PO M.2))) (.sl (M.1.map aK) .no) adu acX ⟨rfl,rfl⟩
    ·have nA:l.length=16:=by grind
     have e:=lim (.inl nA);simp only[go_sem,r0,r5,hy.len,acd,dA];refine(cO st' true ha.1).go hH ?_;have g3:upd H id (some (PO (bF st' true))) id=some (PO (bF st' true)):=ah ..;unfold PO at g3;simp only[go_sem,r0,r5,g3,hlb,PO];exact .mk (h' :=upd G id (some (PO M.2))) (.sl (M.1.map aK) .no) adu acX ⟨rfl,rfl⟩
  ·have hd:isD st' o6=true∨isD st' F6=true:=by grind
   have eb:=(mD hd).1;have ek:=(mD hd).2;have db:(st'.bad !=0)=false:=acp;have gP:=hH;unfold PO at gP;have lim:l.length=16∨decide ((4:Int)<(d:Int))=true→(l,bF st' true)=M:=fun h=>by
    rw[←hfin];simp only[jL,if_pos hd,if_pos h]
   have hdl:bF st' true=bI st' 6 (aL st').pos:=rfl;have hlb:((bF st' true).bad !=0)=true:=by grind [bI]
   cases dA:((l.length:Int)==16)
   ·cases dB:decide ((4:Int)<(d:Int))
    ·have nA:l.length≠16:=fun e=>by grind
     have hno:¬(l.length=16∨decide ((4:Int)<(d:Int))=true):=fun h=>h.elim nA (fun e=>acp)
     simp only[jL,if_pos hd,if_neg hno]at hfin;rw[dB]at hfin;have hd4:d≤4:=acp;simp only[go_sem,r0,r1,r5,hy.len,acd,dA,dB];refine(cO st' false ha.1).go hH ?_;rw[show bF st' false=st' from rfl,bG hH]
     have h3:=hpa st' ha.1;have hrp:=hp st' ha.1 hru hd4;have hr3:=vo (hpr st') hru;obtain⟨x,st2,e2⟩:∃x st2,pol st' =(x,st2):=⟨_,_,rfl⟩;rw[e2]at hfin hrp h3 hr3;obtain⟨pid,pset,palg,ptgt,prules,pkids,pobls⟩:=x;simp only[aK]at hrp hfin h3 hr3;simp only[go_sem,r0,r1,r5,gP,db];refine hrp.go hH ?_;simp only[go_sem];refine(hy.put hB hH _).app (zs:=[aK ⟨pid,pset,palg,ptgt,prules,pkids,pobls⟩]) acr acr (fun k hk=>hk) (by grind [OF,xk]) aeJ (by grind [UP]) fun y' H2 hy' hk2=>?_
     have hH2:H2 id=some (PO st2):=hk2 _ _ _ (ah ..);simp only[go_sem];refine⟨_,?_,g,st2,l++ [⟨pid,pset,palg,ptgt,prules,pkids,pobls⟩],y',hH2,acp,ha.trans h3,hr3,hfin,acp,acp,rfl,?_,?_,?_⟩
     ·omega
     all_goals simp only[go_sem,r0,r1]
    ·have e:=lim (.inr dB)
     simp only[go_sem,r0,r1,r5,hy.len,acd,dA,dB];refine(cO st' true ha.1).go hH ?_;have g3:upd H id (some (PO (bF st' true))) id=some (PO (bF st' true)):=ah ..;unfold PO at g3;simp only[go_sem,r0,r5,g3,hlb,PO];exact .mk (h' :=upd G id (some (PO M.2))) (.sl (M.1.map aK) .no) adu acX ⟨rfl,rfl⟩
   ·have nA:l.length=16:=by grind
    have e:=lim (.inl nA);simp only[go_sem,r0,r5,hy.len,acd,dA];refine(cO st' true ha.1).go hH ?_;have g3:upd H id (some (PO (bF st' true))) id=some (PO (bF st' true)):=ah ..;unfold PO at g3;simp only[go_sem,r0,r5,g3,hlb,PO];exact .mk (h' :=upd G id (some (PO M.2))) (.sl (M.1.map aK) .no) adu acX ⟨rfl,rfl⟩
theorem DZ(r:Nat)(d:Nat)(hrd:r+d=4)(hp:∀st,WfP st→st.rules≤64→d+1≤4→PC 114 [.i (d+1:Nat)] st (aK (gD r st).1) (gD r st).2)(st:PS)(hw:WfP st)(hr:st.rules≤64):
  PC 114 [.i d] st (aK (gD (r+1) st).1) (gD (r+1) st).2:=.of fun G id=>by
 have h1:=gA mF hw;have h2:=mO h1.1;have h3:=gA xA h2.1;have h4:=BH h3.1;have h5:Ah _ (cW st).2:=jb [123] h4.1;have ht:=PD _ h3.1;simp only[aS]at ht;have hrh:=vo (D7 st).big hr;have hset:(cW st).1.1=((aZ st mF).1==2):=rfl;have w1:IntKind.i64.wrap ((d:Int)+1)=((d+1:Nat):Int):=acE;have hdp:(r==0)=decide ((4:Int)<((d+1:Nat):Int)):=by
  grind
 have hk:=QY (gD r) (d+1) aco hp (fun _ h=>xx r _ h) (Ce r) _ h5.1 hrh
 have hs:=Rs _ h5.1 hrh;refine acn Tryz.func114 39 [.cell 4 65] fun hwf=>?_
 simp only[go_sem];intro i4 hi4;have n4:=aH hi4;have hG4:G i4=none:=acZ;have c4:∀(f:Heap) (x y:Option Blk),upd (upd f id x) i4 y=upd (upd f i4 y) id x:=fun f x y=>cB f x y n4.symm
 simp only[go_sem,c4];intro i5 hi5;have n5:=aH hi5;have hi5' :=hi5;rw[ag _ _ n5]at hi5';have n54:=aH hi5';have m54:¬i5=i4:=n54;have m45:¬i4=i5:=n54.symm;have hG5:G i5=none:=acZ;have c5:∀(f:Heap) (x y:Option Blk),upd (upd f id x) i5 y=upd (upd f i5 y) id x:=fun f x y=>cB f x y n5.symm
 have c45:∀(f:Heap) (x y:Option Blk),upd (upd f i5 x) i4 y=upd (upd f i4 y) i5 x:=fun f x y=>cB f x y n54
 simp only[go_sem,c5];refine(nP st mF .full acr hw).run ?_;simp only[go_sem,c5,aj,n5];refine(tZ _ h1.1).run ?_;simp only[go_sem,c5,aj,n5];refine(nP _ xA .full acr h2.1).run ?_;simp only[go_sem,c5,aj,n5];refine ht.run ?_;simp only[go_sem,c5,aj,n5];refine(kJ _ [123] h4.1).run ?_;cases ds:((aZ st mF).1==2)
 ·rw[ds]at hset
  simp only[go_sem,aj,n5];have eb:pH (gD r) (r==0) (cW st).1.1 (cW st).2=(((jS 17 (cW st).2 []).1,[]),(jS 17 (cW st).2 []).2):=by grind [pH]
  have hb:=BE (fun _ h=>xx r _ h) (r==0) (cW st).1.1 h5.1
  obtain⟨⟨rl,stb⟩,er⟩:∃x,jS 17 (cW st).2 []=x:=⟨_,rfl⟩;rw[er]at eb hs;rw[eb]at hb;have ho:=th _ (jb [125] hb.1).1;simp only[ay]at ho hs;refine hs.run ?_;simp only[go_sem,c5,aj,n5];refine(kJ _ [125] hb.1).run ?_;simp only[go_sem];refine ho.run ?_;simp only[go_sem,c4,c5,c45,aj,n4,n5,m45];have efin:gD (r+1) st=(.mk (cW st).1.2.1 false (cW st).1.2.2.1 (cW st).1.2.2.2 rl [] (gm (dQ stb [125])).1,(gm (dQ stb [125])).2):=by grind [gD]
  exact .mk (h' :=upd G id (some (PO (gm (dQ stb [125])).2))) (aK (.mk (cW st).1.2.1 false (cW st).1.2.2.1 (cW st).1.2.2.2 rl [] (gm (dQ stb [125])).1)) (gh _) (Sub.both acS _ _) ⟨acp,acp⟩
 ·rw[ds]at hset
  simp only[go_sem,aj,n5,w1];have eb:pH (gD r) (r==0) (cW st).1.1 (cW st).2=(([],(jL (gD r) (r==0) 17 (cW st).2 []).1),(jL (gD r) (r==0) 17 (cW st).2 []).2):=by grind [pH]
  have hb:=BE (fun _ h=>xx r _ h) (r==0) (cW st).1.1 h5.1
  rw[←hdp]at hk;obtain⟨⟨kl,stb⟩,er⟩:∃x,jL (gD r) (r==0) 17 (cW st).2 []=x:=⟨_,rfl⟩;rw[er]at eb hk;rw[eb]at hb;have ho:=th _ (jb [125] hb.1).1;simp only[ay]at ho hk;refine hk.run ?_;simp only[go_sem,c5,aj,n5];refine(kJ _ [125] hb.1).run ?_;simp only[go_sem];refine ho.run ?_;simp only[go_sem,c4,c5,c45,aj,n4,n5,m45];have efin:gD (r+1) st=(.mk (cW st).1.2.1 true (cW st).1.2.2.1 (cW st).1.2.2.2 [] kl (gm (dQ stb [125])).1,(gm (dQ stb [125])).2):=by grind [gD]
  exact .mk (h' :=upd G id (some (PO (gm (dQ stb [125])).2))) (aK (.mk (cW st).1.2.1 true (cW st).1.2.2.1 (cW st).1.2.2.2 [] kl (gm (dQ stb [125])).1)) (by simp only[aK,aP];exact gh _) (Sub.both acS _ _) ⟨acp,acp⟩
theorem DY:∀(r d:Nat),r+d=4→∀st,WfP st→st.rules≤64→PC 114 [.i d] st (aK (gD (r+1) st).1) (gD (r+1) st).2
 |0,d,hrd=>fun st hw hr=>DZ 0 d hrd aco st hw hr
 |r+1,d,hrd=>fun st hw hr=>DZ (r+1) d hrd (fun st hw hr _=>DY r (d+1) aco st hw hr) st hw hr
theorem Ki(l:List (List bM))(h:Heap):ai Tryz.prog 271 [bP l] h fun r h' =>r= .i (wM l)∧h' =h:=by
 refine acn Tryz.func271 25 [.tmp 2] fun hwf=>?_
 simp only[go_sem,bP,acd];refine(Hj _ _).pthen ?_;cases d1:(jZ l.length !=0)
 case true=>
  have e1:jZ l.length≠0:=acp;simp only[go_sem,d1];exact .same (.refl _) ⟨by grind [wM,au],rfl⟩
 have e1:jZ l.length=0:=acp;have hlen:=DC e1;simp only[go_sem,d1,acd];refine .intro (fun m ρ h' =>Ab.Sub h h'∧∃i:Nat,i≤l.length∧m=l.length - i∧gZ wL (l.take i)=0∧lk ρ 13=some (bP l)∧lk ρ 14=some (.i l.length)∧lk ρ 15=some (.i i)) l.length ?_ ?_
 ·refine⟨.refl _,0,aco,rfl,rfl,?_,?_,?_⟩<;>simp only[go_sem,bP]
 ·rintro m ρ h' ⟨hs,i,hi,rfl,hc,r12,r13,r14⟩
  simp only[go_sem,r13,r14];refine .intro (fun e=>?_) (fun e=>?_)
  ·have hlt:i<l.length:=ack e
   have w1:IntKind.i64.wrap ((i:Int)+1)=((i+1:Nat):Int):=acE;simp only[go_sem,r12,r14,bP];refine .at i acp acz ?_;simp only[go_sem,ace,fP];refine(Kh l[i] _).pthen ?_;cases d2:(wL l[i] !=0)
   ·have e2:wL l[i]=0:=by grind
    simp only[go_sem,r14,d2,w1];refine⟨_,?_,hs,i+1,aco,rfl,vT hlt hc e2,?_,?_,?_⟩
    ·omega
    all_goals simp only[go_sem,r12,r13,bP]
   ·have e2:wL l[i]≠0:=by grind
    simp only[go_sem,d2];refine .mk _ (.refl _) hs ⟨?_,rfl⟩
    grind [wM,AG,au]
  ·have hge:i=l.length:=by grind
   subst hge;rw[List.take_length]at hc;simp only[go_sem];exact .mk _ (.refl _) hs ⟨by grind [wM,au],rfl⟩
theorem vt(l:fO)(h:Heap):ai Tryz.prog 241 [aS l] h fun r h' =>r= .i (lB l)∧h' =h:=by
 refine acn Tryz.func241 21 [.tmp 2] fun hwf=>?_
 cases d1:decide (8<(l.length:Int))
 case true=>
  have e1:8<l.length:=acp;simp only[go_sem,aS,acd,d1];exact .same (.refl _) ⟨by grind [lB,au],rfl⟩
 have e1:¬8<l.length:=acp;simp only[go_sem,d1,aS,acd];refine .intro (fun m ρ h' =>Ab.Sub h h'∧∃i:Nat,i≤l.length∧m=l.length - i∧gZ wM (l.take i)=0∧lk ρ 9=some (aS l)∧lk ρ 10=some (.i l.length)∧lk ρ 11=some (.i i)) l.length ?_ ?_
 ·refine⟨.refl _,0,aco,rfl,rfl,?_,?_,?_⟩<;>simp only[go_sem,aS]
 ·rintro m ρ h' ⟨hs,i,hi,rfl,hc,r12,r13,r14⟩
  simp only[go_sem,r13,r14];refine .intro (fun e=>?_) (fun e=>?_)
  ·have hlt:i<l.length:=ack e
   have w1:IntKind.i64.wrap ((i:Int)+1)=((i+1:Nat):Int):=acE;simp only[go_sem,r12,r14,aS];refine .at i acp acz ?_;simp only[go_sem,ace,bP];refine(Ki l[i] _).pthen ?_;cases d2:(wM l[i] !=0)
   ·have e2:wM l[i]=0:=by grind
    simp only[go_sem,r14,d2,w1];refine⟨_,?_,hs,i+1,aco,rfl,vT hlt hc e2,?_,?_,?_⟩
    ·omega
    all_goals simp only[go_sem,r12,r13,aS]
   ·have e2:wM l[i]≠0:=by grind
    simp only[go_sem,d2];refine .mk _ (.refl _) hs ⟨?_,rfl⟩
    grind [lB,AG,au]
  ·have hge:i=l.length:=by grind
   subst hge;rw[List.take_length]at hc;simp only[go_sem];exact .mk _ (.refl _) hs ⟨by grind [lB,au],rfl⟩
theorem B7(l:List cD)(h:Heap):ai Tryz.prog 242 [ay l] h fun r h' =>r= .i (ic l)∧h' =h:=by
 refine acn Tryz.func242 39 [.tmp 2] fun hwf=>?_
 cases d1:decide (8<(l.length:Int))
 case true=>
  have e1:8<l.length:=acp;simp only[go_sem,ay,acd,d1];exact .same (.refl _) ⟨by grind [ic,au],rfl⟩
 have e1:¬8<l.length:=acp;simp only[go_sem,d1,ay,acd];refine .intro (fun m ρ h' =>Ab.Sub h h'∧∃i:Nat,i≤l.length∧m=l.length - i∧(l.take i).all qN=true∧lk ρ 8=some (ay l)∧lk ρ 9=some (.i l.length)∧lk ρ 10=some (.i i)) l.length ?_ ?_
 ·refine⟨.refl _,0,aco,rfl,rfl,?_,?_,?_⟩<;>simp only[go_sem,ay]
 ·rintro m ρ h' ⟨hs,i,hi,rfl,hc,r12,r13,r14⟩
  simp only[go_sem,r13,r14];refine .intro (fun e=>?_) (fun e=>?_)
  ·have hlt:i<l.length:=ack e
   have w1:IntKind.i64.wrap ((i:Int)+1)=((i+1:Nat):Int):=acE;simp only[go_sem,r12,r14,ay];refine .at i acp acz ?_;simp only[go_sem,ace,aW];intro id hid;have bad:qN l[i]=false→ic l=1:=fun hb=>by
    have:l.all qN=false:=List.all_eq_false.2 ⟨_,aci hlt,acp⟩;simp[ic,e1,this]
   cases c1:decide (l[i].on<1)
   case true=>
    simp only[go_sem,c1];exact .mk _ (.refl _) (hs.new hid _) ⟨by rw[bad (by have:=acf c1;simp[qN];omega)];rfl,rfl⟩
   cases c2:decide (2<l[i].on)
   case true=>
    simp only[go_sem,c1,c2];exact .mk _ (.refl _) (hs.new hid _) ⟨by rw[bad (by have:=acf c2;simp[qN];omega)];rfl,rfl⟩
   cases c3:decide (l[i].kind<1)
   case true=>
    simp only[go_sem,c1,c2,c3];exact .mk _ (.refl _) (hs.new hid _) ⟨by rw[bad (by have:=acf c3;simp[qN];omega)];rfl,rfl⟩
   cases c4:decide (4<l[i].kind)
   case true=>
    simp only[go_sem,c1,c2,c3,c4];exact .mk _ (.refl _) (hs.new hid _) ⟨by rw[bad (by have:=acf c4;simp[qN];omega)];rfl,rfl⟩
   simp only[go_sem,c1,c2,c3,c4];refine(oS _ _).pthen ?_;cases d2:bt l[i].arg
   ·simp only[go_sem]
    exact .mk _ (.refl _) (hs.new hid _) ⟨by rw[bad (by grind [qN])];rfl,rfl⟩
   ·simp only[go_sem,r14,w1]
    refine⟨_,?_,hs.new hid _,i+1,aco,rfl,?_,?_,?_,?_⟩
    ·omega
    ·grind [acg,List.take_succ_eq_append_getElem,qN]
    all_goals simp only[go_sem,r12,r13,ay]
  ·have hge:i=l.length:=by grind
   subst hge;rw[List.take_length]at hc;simp only[go_sem];exact .mk _ (.refl _) hs ⟨by grind [ic,au],rfl⟩
theorem MI(op:Int)(h:Heap):ai Tryz.prog 299 [.i op] h fun r h' =>r=(match iC op with
  |none=> .tup [.sl [] .no,.b false]
  |some w=> .tup [.sl (w.map jG) .no,.b true])∧h' =h:=by
 refine acn Tryz.func299 35 [.tmp 2,.tmp 3] fun hwf=>?_
 cases k1:(op==1)
 case true=>
  have e1:op=1:=acp;simp only[go_sem,k1];exact .mk _ (fo _) (.refl _) ⟨afN,rfl⟩
 have n1:op≠1:=acp;cases k2:(op==2)
 case true=>
  have e1:op=2:=acp;simp only[go_sem,k1,k2];exact .mk _ (fo _) (.refl _) ⟨afN,rfl⟩
 have n2:op≠2:=acp;cases k3:(op==3)
 case true=>
  have e1:op=3:=acp;simp only[go_sem,k1,k2,k3];exact .mk _ (fo _) (.refl _) ⟨aeB,rfl⟩
 have n3:op≠3:=acp;cases k4:(op==4)
 case true=>
  have e1:op=4:=acp;simp only[go_sem,k1,k2,k3,k4];exact .mk _ (fo _) (.refl _) ⟨aeB,rfl⟩
 have n4:op≠4:=acp;cases k5:(op==5)
 case true=>
  have e1:op=5:=acp;simp only[go_sem,k1,k2,k3,k4,k5];exact .mk _ (fo _) (.refl _) ⟨aeB,rfl⟩
 have n5:op≠5:=acp;cases k11:(op==11)
 case true=>
  have e1:op=11:=acp;simp only[go_sem,k1,k2,k3,k4,k5,k11];exact .mk _ (fo _) (.refl _) ⟨aeB,rfl⟩
 have n11:op≠11:=acp;cases k6:decide (6≤op)
 ·have n6:=acg k6
  simp only[go_sem,k1,k2,k3,k4,k5,k11,k6];exact .mk _ (fo _) (.refl _) ⟨afN,rfl⟩
 cases k13:decide (op≤13)
 ·have n13:=acg k13
  simp only[go_sem,k1,k2,k3,k4,k5,k11,k6,k13];exact .mk _ (fo _) (.refl _) ⟨afN,rfl⟩
 have n6:=acf k6;have n13:=acf k13;simp only[go_sem,k1,k2,k3,k4,k5,k11,k6,k13];exact .mk _ (fo _) (.refl _) ⟨aeB,rfl⟩
theorem IA(n:aM)(h:Heap):ai Tryz.prog 300 [cJ n] h fun r h' =>r= .b (jI n)∧h' =h:=by
 refine acn Tryz.func300 37 [.tmp 2] fun hwf=>?_
 simp only[go_sem,cJ];intro id hid;have fa:∀x y z:Bool,(x && (y && (z && true)))=(x && (y && (z && true))):=fun _ _ _=>rfl
 cases k1:(n.op==1)
 case true=>
  have e1:n.op=1:=acp;simp only[go_sem,k1];refine(gq n.val _).pthen ?_;cases d0:bL n.val
  ·simp only[go_sem]
   exact ahP
  ·simp only[go_sem]
   exact .mk _ (.refl _) (.ak hid) ⟨by grind [jI,au,zeroAt],rfl⟩
 have n1:n.op≠1:=acp;cases k2:(n.op==2)
 case true=>
  have e1:n.op=2:=acp;simp only[go_sem,k1,k2];refine(GG n.attr _).pthen ?_;cases d0:qc n.attr
  ·simp only[go_sem]
   exact ahP
  ·simp only[go_sem]
   exact .mk _ (.refl _) (.ak hid) ⟨by grind [jI,au,zeroV],rfl⟩
 have n2:n.op≠2:=acp;cases d0:zeroV n.val
 ·have d1:=d0
  unfold zeroV at d1;simp only[go_sem,k1,k2,d1];exact ahP
 ·have d1:=d0
  unfold zeroV at d1;simp only[go_sem,k1,k2,d1];exact .mk _ (.refl _) (.ak hid) ⟨by grind [jI,au,zeroAt],rfl⟩
theorem u4:(U 4).sz=1:=acF
theorem u4a:(U 4).k.agg=false:=acF
theorem u4b:(U 4).bytes=1:=acF
theorem u4f:fit (U 4).zero 1:=acA
theorem u4n:bA (U 4).zero=false:=acF
theorem GH(l:List Bool):One (l.map jG):=One.map (fun _=>rfl) l
theorem Ov(y:AV)(st:List Bool)(n:aM)(h0 h:Heap)(hy:WrA 4 h0 h y (st.map jG))(hl:st.length≤1000000):
  ai Tryz.prog 272 [y,cJ n] h fun r h' =>∃z,r= .tup [z,.v (.bool (iB st n).isSome)]∧match iB st n with
   |none=>Ab.Sub h0 h'
   |some st' =>WrA 4 h0 h' z (st'.map jG):=by
 refine acn Tryz.func272 60 [.tmp 4,.tmp 5] fun hwf=>?_
 simp only[go_sem,cJ];intro id hid;simp only[go_sem];have hyb:=hy.base hid (some (.obj [.i n.op,.i n.val.kind,.i n.val.n,.s n.val.s,.i n.attr.cat,.s n.attr.name,.b n.attr.must] 229));have hw:=MI n.op (upd h id (some (.obj [.i n.op,.i n.val.kind,.i n.val.n,.s n.val.s,.i n.attr.cat,.s n.attr.name,.b n.attr.must] 229)));cases hwd:iC n.op with
 |none=>
  rw[hwd]at hw;have hst:iB st n=none:=by grind [iB]
  refine hw.pthen ?_;exact aij
 |some w=>
  rw[hwd]at hw;have hwl:w.length≤2:=by
   grind [iC]
  refine hw.pthen ?_;simp only[go_sem];refine(IA n _).pthen ?_;cases d1:jI n
  ·have hst:iB st n=none:=by grind [iB]
   exact aij
  cases d2:decide ((st.length:Int)<(w.length:Int))
  case true=>
   have e2:¬w.length≤st.length:=acp;have hst:iB st n=none:=by grind [iB]
   simp only[go_sem,hyb.len,acd,d2];exact .mk _ (.refl _) (.ak hid) ⟨_,agn,af8⟩
  have e2:w.length≤st.length:=acp;have w1:IntKind.i64.wrap ((st.length:Int) - (w.length:Int))=((st.length - w.length:Nat):Int):=acE;obtain⟨hb,ehb⟩:∃hb,upd h id (some (.obj [.i n.op,.i n.val.kind,.i n.val.n,.s n.val.s,.i n.attr.cat,.s n.attr.name,.b n.attr.must] 229))=hb:=⟨_,rfl⟩;have hbid:hb id=some (.obj [.i n.op,.i n.val.kind,.i n.val.n,.s n.val.s,.i n.attr.cat,.s n.attr.name,.b n.attr.must] 229):=afO;have hsub:Ab.Sub h hb:=by rw[←ehb];exact .ak hid
  rw[ehb]at hyb⊢;simp only[go_sem,hyb.len,acd,d2,w1];refine .intro (fun m ρ h' =>h' =hb∧∃i:Nat,i≤w.length∧m=w.length - i∧(∀j,j<i→st[st.length - w.length+j]? =w[j]?)∧lk ρ 0=some y∧lk ρ 3=some (.ptr id 0)∧lk ρ 8=some (.i ((st.length - w.length:Nat):Int))∧lk ρ 36=some (.sl (w.map jG) .no)∧lk ρ 37=some (.i w.length)∧lk ρ 38=some (.i i)) w.length ?_ ?_
  ·refine⟨rfl,0,aco,rfl,fun j hj=>aco,?_,?_,?_,?_,?_,?_⟩<;>simp only[go_sem]
  ·rintro m ρ h' ⟨rfl,i,hi,rfl,hc,r0,r3,r8,r36,r37,r38⟩
   simp only[go_sem,r37,r38];refine .intro (fun e=>?_) (fun e=>?_)
   ·have hlt:i<w.length:=ack e
    have w2:IntKind.i64.wrap ((i:Int)+1)=((i+1:Nat):Int):=acE;have w3:IntKind.i64.wrap (((st.length - w.length:Nat):Int)+(i:Int))=((st.length - w.length+i:Nat):Int):=acE;have hlt2:st.length - w.length+i<st.length:=aco;simp only[go_sem,r36,r38];refine .at i acp acz ?_;simp only[go_sem,r0,r8,ace,jG,w3];refine hyb.idx (GH st) (st.length - w.length+i) rfl acp u4 u4a fun p hp=>?_
    simp only[go_sem,hp _,ace,jG];cases d3:(st[st.length - w.length+i]==w[i])
    ·have hst:iB st n=none:=by
      have:st.drop (st.length - w.length)≠w:=fun hh=>by
       grind
      simp[iB,hwd,this]
     simp only[go_sem];exact .mk _ (.refl _) hsub ⟨_,agn,af8⟩
    ·simp only[go_sem,r38,w2]
     refine⟨_,?_,rfl,i+1,aco,rfl,fun j hj=>?_,?_,?_,?_,?_,?_,?_⟩
     ·omega
     ·grind
     all_goals simp only[go_sem,r0,r3,r8,r36,r37]
   ·have hge:i=w.length:=by grind
    subst hge;have hdrop:st.drop (st.length - w.length)=w:=by
     apply List.ext_getElem?
     grind
    have hst:iB st n=some (st.take (st.length - w.length)++ [n.op==2]):=by
     grind [iB]
    simp only[go_sem];refine .calls (hm1 id _) [0,1,2,3,4,5,6,7,8,9] (.hm1 hbid) acs rfl ?_;simp only[go_sem,r0,r8];refine hyb.cut (x:=.i64) (st.length - w.length) acF rfl acw u4 fun z hz=>?_
    rw[←List.map_take]at hz;simp only[go_sem,r3,fW];refine hz.app (zs:=[.b (n.op==2)]) (GH _) (GH [n.op==2]) u4 acr u4f u4n (fun k hk=>hk) (by grind [u4b]) fun z' h2 hz' =>?_
    refine⟨fun j b hj=>((Sub.hm1 (ah ..)).trans hz'.1) j b hj,?_⟩
    simp only[go_sem];have hz2:=hz'.less (Sub.ak (hy.1.none hid));refine .same (.refl _) ⟨z',agn,?_⟩;rw[hst];simp only[List.map_append];exact hz2
theorem E3{l:List aM}(h:l.length≤32)(hs:fQ [] l=none):jY l=1:=by
 grind [jY,Nat.not_lt]
theorem jT(st:List Bool):∀(l:List aM) (i:Nat),fQ st l=(match fQ st (l.take i)with
  |none=>none
  |some st' =>fQ st' (l.drop i))
 | [],i=>by simp[fQ]
 |n::r,0=>acF
 |n::r,i+1=>by
  simp only[List.take_succ_cons,List.drop_succ_cons,fQ];cases iB st n with
  |none=>rfl
  |some st' =>simp only;exact jT st' r i
theorem rV(st st' :List Bool)(l:List aM)(h:fQ st l=some st'):st'.length≤st.length+l.length:=by
 induction l generalizing st with
 |nil=>grind [fQ,Option.some.injEq]
 |cons n r ih=>
  simp only[fQ]at h;cases hs:iB st n with
  |none=>grind
  |some s2=>
   grind [iB]
theorem GN(l:List aM)(h:Heap):ai Tryz.prog 243 [dL l] h fun r h' =>r= .i (jY l)∧h' =h:=by
 refine acn Tryz.func243 38 [.tmp 2] fun hwf=>?_
 cases d1:decide (32<(l.length:Int))
 case true=>
  have e1:32<l.length:=acp;simp only[go_sem,dL,acd,d1];exact .same (.refl _) ⟨by grind [jY,au],rfl⟩
 have e1:l.length≤32:=acp;simp only[go_sem,dL,acd,d1];refine .intro (fun m ρ h' =>∃(i:Nat) (y:AV) (st:List Bool),WrA 4 h h' y (st.map jG)∧fQ [] (l.take i)=some st∧i≤l.length∧m=l.length - i∧
  lk ρ 0=some (dL l)∧lk ρ 3=some y∧lk ρ 10=some (dL l)∧lk ρ 11=some (.i l.length)∧lk ρ 12=some (.i i)) l.length ?_ ?_
 ·refine⟨0,_,[],.nil (.refl _),rfl,aco,rfl,?_,?_,?_,?_,?_⟩<;>simp only[go_sem,dL]
 ·rintro m ρ h' ⟨i,y,st,hy,hst,hi,rfl,r0,r3,r10,r11,r12⟩
  have hsl:=rV _ _ _ hst;have hsl:st.length≤i:=acp;simp only[go_sem,r11,r12];refine .intro (fun e=>?_) (fun e=>?_)
  ·have hlt:i<l.length:=ack e
   have w1:IntKind.i64.wrap ((i:Int)+1)=((i+1:Nat):Int):=acE;have hnx:fQ [] (l.take (i+1))=iB st l[i]:=by
    rw[jT [] _ i,List.take_take,Nat.min_eq_left aco,hst,List.take_succ_eq_append_getElem hlt,List.drop_append_of_le_length acp,List.drop_of_length_le acp]
    grind [fQ,iB]
   simp only[go_sem,r10,r12,dL];refine .at i acp acz ?_;simp only[go_sem,ace,cJ];intro id hid;simp only[go_sem,r3];have hyb:=hy.sub (Sub.ak (k:=some (.obj [.i l[i].op,.i l[i].val.kind,.i l[i].val.n,.s l[i].val.s,.i l[i].attr.cat,.s l[i].attr.name,.b l[i].attr.must] 229)) hid);refine(Ov y st l[i] h _ hyb aco).mono fun r h2 ⟨z,e2,hz⟩=>?_
   subst e2;cases hsd:iB st l[i]with
   |none=>
    rw[hsd]at hz;simp only[go_sem,Option.isSome_none];refine .mk _ (.refl _) hz ⟨?_,rfl⟩;rw[E3 e1 (by rw[jT [] l (i+1),hnx,hsd])];rfl
   |some st' =>
    rw[hsd]at hz hnx;simp only[go_sem,r12,Option.isSome_some,w1];refine⟨_,?_,i+1,z,st',hz,hnx,aco,rfl,?_,?_,?_,?_,?_⟩
    ·omega
    all_goals simp only[go_sem,r0,r10,r11,dL]
  ·have hge:i=l.length:=by grind
   subst hge;rw[List.take_length]at hst;have he:jY l=if l= []∨st= [false]then 0 else 1:=by
    simp_all [jY,if_neg]
   cases d2:decide (0<(l.length:Int))
   ·have e2:l= []:=by simp_all
    simp only[go_sem,r0,dL,acd,d2];exact .mk _ (.refl _) hy.1 ⟨by rw[he,if_pos (.inl e2)];rfl,rfl⟩
   have e2:l≠ []:=acp;cases d3:((st.length:Int) !=1)
   case true=>
    have e3:st≠ [false]:=acp;simp only[go_sem,r0,r3,dL,acd,d2,hy.len,d3];exact .mk _ (.refl _) hy.1 ⟨by rw[he,if_neg acp];rfl,rfl⟩
   have e3:st.length=1:=by
    grind
   obtain⟨b,rfl⟩:=List.length_eq_one_iff.1 e3;simp only[go_sem,r0,r3,dL,acd,d2,hy.len];refine hy.idx (GH [b]) 0 rfl acw u4 u4a fun p hp=>?_
   simp only[go_sem,hp _,jG,List.getElem_cons_zero];cases b
   ·simp only[go_sem]
    exact .mk _ (.refl _) hy.1 ⟨by rw[he,if_pos (.inr rfl)];rfl,rfl⟩
   ·simp only[go_sem]
    exact .mk _ (.refl _) hy.1 ⟨by rw[he,if_neg acp];rfl,rfl⟩
def Keeps(S:List Nat)(h h' :Heap):Prop:=∀j k,j∉S→h j=some k→h' j=some k
theorem Keeps.trans{S:List Nat}{a b c:Heap}(x:Keeps S a b)(y:Keeps S b c):Keeps S a c:=fun j k hj e=>y j k hj (x j k hj e)
theorem Keeps.of{S:List Nat}{a b:Heap}(x:Ab.Sub a b):Keeps S a b:=fun j k _ e=>x j k e
theorem Keeps.upd{S:List Nat}{a:Heap}{i:Nat}{b:Option Blk}(hi:i∈S):Keeps S a (Ab.upd a i b):=fun j k hj e=>by
 grind [ag]
def gX(h:Heap)(idw mid:Nat)(m:dU):Prop:=h idw=some (.obj [.mp mid,.i m.rules] 255)∧h mid=some (.mp (zX m.met))∧(∀l∈m.met,l.length≤16)∧m.rules≤64
theorem gX.ne{h:Heap}{idw mid:Nat}{m:dU}(hw:gX h idw mid m):idw≠mid:=fun e=>by
 have h1:=hw.1;have h2:=hw.2.1
 rw[e,h2]at h1;cases h1
theorem gX.keep{h h' :Heap}{idw mid:Nat}{m:dU}(hw:gX h idw mid m)(hs:Ab.Sub h h'):gX h' idw mid m:=⟨hs _ _ hw.1,hs _ _ hw.2.1,hw.2.2⟩
theorem W7:(U 355).sz=0:=acF
theorem FO{s:Txt}(h:bt s=true):s.length≤16:=by
 grind [bt]
theorem yH{m:dU}{s:Txt}(h:s∈m.met∨bt s=false):iZ m s=none:=by
 unfold iZ
 grind
theorem EG(idw mid:Nat)(m:dU)(s:Txt)(h:Heap)(hw:gX h idw mid m):ai Tryz.prog 240 [.ptr idw 0,.s s] h fun r h' =>match iZ m s with
  |none=>r= .b false∧Ab.Sub h h'
  |some m' =>r= .b true∧Keeps [idw,mid] h h'∧gX h' idw mid m' :=by
 refine acn Tryz.func240 28 [.tmp 4] fun hwf=>?_
 obtain⟨w1,w2,w3,w4⟩:=hw;have hlen:s.length≤maxLen:=by
  have:=hwf (.s s) acw;simp only[wfA,wf1,lim]at this;unfold maxLen;omega
 have hkeys:Al .str (zX m.met):=Ja fun l hl=>by grind [maxLen]
 simp only[go_sem,w1,w2];refine⟨hlen,.inr acF,hkeys,?_⟩;rw[Jc _ _ W7];simp only[go_sem];intro idv hidv;simp only[go_sem];cases d1:decide (s∈m.met)
 case true=>
  have hm:=yH (.inl (acf d1));simp only[go_sem];rw[hm];exact .mk _ (.refl _) (.ak hidv) ⟨rfl,.refl _⟩
 have e1:=acg d1;simp only[go_sem];refine(oS _ _).pthen ?_;cases d2:bt s
 ·have hm:=yH (m:=m) (.inr d2)
  simp only[go_sem];rw[hm];exact .mk _ (.refl _) (.ak hidv) ⟨rfl,.refl _⟩
 have hm:iZ m s=some ⟨m.met++ [s],m.rules⟩:=by grind [iZ]
 have w1' :upd h idv (some (.obj [] 355)) idw=some (.obj [.mp mid,.i m.rules] 255):=acZ;have w2' :upd h idv (some (.obj [] 355)) mid=some (.mp (zX m.met)):=acZ;simp only[go_sem,w1',w2'];refine⟨hlen,hkeys,?_⟩;rw[Mm e1];rw[hm];refine .same (.refl _) ⟨rfl,(Keeps.of (.ak hidv)).trans (.upd acw),?_,?_,?_,w4⟩
 ·grind [ag]
 ·rw[ah]
 grind [List.mem_singleton,FO]
theorem MM(idw mid:Nat)(m:dU)(r:cN)(h:Heap)(hw:gX h idw mid m):ai Tryz.prog 208 [.ptr idw 0,aA r] h fun x h' =>x= .v (.int .i64 (gp m r).err)∧Keeps [idw,mid] h h'∧∀m',gp m r= .ok m'→gX h' idw mid m' :=by
 refine acn Tryz.func208 39 [.tmp 4] fun hwf=>?_
 simp only[go_sem,aA,aS,dL,ay];intro id hid;have n1:idw≠id:=fun e=>by have:=hw.1;rw[e,hid]at this;cases this
 have n2:mid≠id:=fun e=>by have:=hw.2.1;rw[e,hid]at this;cases this
 have hwb:=hw.keep (Sub.ak (k:=some (.obj [.s r.id,.b r.deny,.sl (r.tgt.map bP) .no,.sl (r.cond.map cJ) .no,.sl (r.obls.map aW) .no] 224)) hid);have hk0:Keeps [idw,mid] h (upd h id (some (.obj [.s r.id,.b r.deny,.sl (r.tgt.map bP) .no,.sl (r.cond.map cJ) .no,.sl (r.obls.map aW) .no] 224))):=.of (.ak hid);simp only[go_sem];obtain⟨hb,ehb⟩:∃hb,upd h id (some (.obj [.s r.id,.b r.deny,.sl (r.tgt.map bP) .no,.sl (r.cond.map cJ) .no,.sl (r.obls.map aW) .no] 224))=hb:=⟨_,rfl⟩;have hbid:hb id=some (.obj [.s r.id,.b r.deny,.sl (r.tgt.map bP) .no,.sl (r.cond.map cJ) .no,.sl (r.obls.map aW) .no] 224):=afO;rw[ehb]at hwb hk0⊢;refine(EG idw mid m r.id hb hwb).mono fun x h2 hx=>?_
 cases hm:iZ m r.id with
 |none=>
  rw[hm]at hx;obtain⟨rfl,hs⟩:=hx;have hr:gp m r= .bad 1:=by grind [gp]
  simp only[go_sem];exact .same (.refl _) ⟨ags,hk0.trans (.of hs),fun m' h' =>acp⟩
 |some m1=>
  rw[hm]at hx;obtain⟨rfl,hk,hw2⟩:=hx;have g2:=hw2.1;have hle:=hw2.2.2.2;have hid2:h2 id=some (.obj [.s r.id,.b r.deny,.sl (r.tgt.map bP) .no,.sl (r.cond.map cJ) .no,.sl (r.obls.map aW) .no] 224):=hk id _ acp hbid;have w1:IntKind.i64.wrap ((m1.rules:Int)+1)=((m1.rules+1:Nat):Int):=acE;have hk3:Keeps [idw,mid] h (upd h2 idw (some (.obj [.mp mid,.i ((m1.rules+1:Nat):Int)] 255))):=(hk0.trans hk).trans (.upd acw);have hid3:upd h2 idw (some (.obj [.mp mid,.i ((m1.rules+1:Nat):Int)] 255)) id=some (.obj [.s r.id,.b r.deny,.sl (r.tgt.map bP) .no,.sl (r.cond.map cJ) .no,.sl (r.obls.map aW) .no] 224):=by
   grind [ag]
  cases d1:decide (64<((m1.rules+1:Nat):Int))
  case true=>
   have e1:m1.rules+1>64:=acp;have hr:gp m r= .bad 6:=by grind [gp]
   simp only[go_sem,g2,w1,d1];exact ahw
  have e1:¬m1.rules+1>64:=acp;have hr:gp m r=need (lB r.tgt) (need (jY r.cond) (need (ic r.obls) (.ok ⟨m1.met,m1.rules+1⟩))):=by grind [gp]
  simp only[go_sem,g2,w1,d1,hid3];refine(vt r.tgt _).pthen ?_;cases d2:(lB r.tgt !=0)
  case true=>
   have e2:lB r.tgt≠0:=acp;have hr:gp m r= .bad (lB r.tgt):=by grind [need]
   simp only[go_sem,d2];exact ahw
  have e2:lB r.tgt=0:=acp;rw[need,if_pos e2]at hr;simp only[go_sem,d2,hid3];refine(GN r.cond _).pthen ?_;cases d3:(jY r.cond !=0)
  case true=>
   have e3:jY r.cond≠0:=acp;have hr:gp m r= .bad (jY r.cond):=by grind [need]
   simp only[go_sem,d3];exact ahw
  have e3:jY r.cond=0:=acp;rw[need,if_pos e3]at hr;simp only[go_sem,d3,hid3];refine(B7 r.obls _).pthen ?_;simp only[go_sem]
  by_cases e4:ic r.obls=0
  ·rw[need,if_pos e4]at hr
   refine .same (.refl _) ⟨by rw[hr,e4];rfl,hk3,fun m' h' =>?_⟩
   rw[hr]at h';cases h';refine⟨ah ..,?_,hw2.2.2.1,acp⟩;rw[ag _ _ hw2.ne.symm];exact hw2.2.1
  ·rw[need,if_neg e4]at hr
   exact ahw
theorem yj{m:dU}{id:Txt}{set:Bool}{alg:Int}{tgt:fO}{nr nk:Nat}{obls:List cD}(h:iZ m id=none):eV m id set alg tgt nr nk obls= .bad 1:=by
 grind [eV]
theorem MK(idw mid:Nat)(m:dU)(id:Txt)(set:Bool)(alg:Int)(tgt:fO)(rules:List cN)(kids:List bB)(obls:List cD)(h:Heap)(hw:gX h idw mid m):
  ai Tryz.prog 207 [.ptr idw 0,aK (.mk id set alg tgt rules kids obls)] h fun x h' =>x= .v (.int .i64 (eV m id set alg tgt rules.length kids.length obls).err)∧Keeps [idw,mid] h h'∧∀m',eV m id set alg tgt rules.length kids.length obls= .ok m'→gX h' idw mid m' :=by
 refine acn Tryz.func207 68 [.tmp 4] fun hwf=>?_
 simp -implicitDefEqProofs only[go_sem,aK,aS,ay];intro ip hip;have n1:idw≠ip:=fun e=>by have:=hw.1;rw[e,hip]at this;cases this
 have n2:mid≠ip:=fun e=>by have:=hw.2.1;rw[e,hip]at this;cases this
 have hwb:=hw.keep (Sub.ak (k:=some (.obj [.s id,.b set,.i alg,.sl (tgt.map bP) .no,.sl (rules.map aA) .no,.sl (cy kids) .no,.sl (obls.map aW) .no] 65)) hip);have hk0:Keeps [idw,mid] h (upd h ip (some (.obj [.s id,.b set,.i alg,.sl (tgt.map bP) .no,.sl (rules.map aA) .no,.sl (cy kids) .no,.sl (obls.map aW) .no] 65))):=.of (.ak hip);simp -implicitDefEqProofs only[go_sem];obtain⟨hb,ehb⟩:∃hb,upd h ip (some (.obj [.s id,.b set,.i alg,.sl (tgt.map bP) .no,.sl (rules.map aA) .no,.sl (cy kids) .no,.sl (obls.map aW) .no] 65))=hb:=⟨_,rfl⟩;have hbip:hb ip=some (.obj [.s id,.b set,.i alg,.sl (tgt.map bP) .no,.sl (rules.map aA) .no,.sl (cy kids) .no,.sl (obls.map aW) .no] 65):=afO;rw[ehb]at hwb hk0⊢;refine(EG idw mid m id hb hwb).mono fun x h2 hx=>?_
 cases hm:iZ m id with
 |none=>
  rw[hm]at hx;obtain⟨rfl,hs⟩:=hx;simp -implicitDefEqProofs only[go_sem];exact .same (.refl _) ⟨by rw[yj hm];rfl,hk0.trans (.of hs),fun m' h' =>by rw[yj hm]at h';cases h'⟩
 |some m1=>
  rw[hm]at hx;obtain⟨rfl,hk,hw2⟩:=hx;have hip2:h2 ip=some (.obj [.s id,.b set,.i alg,.sl (tgt.map bP) .no,.sl (rules.map aA) .no,.sl (cy kids) .no,.sl (obls.map aW) .no] 65):=hk ip _ (by simp[n1.symm,n2.symm]) hbip
  have hkk:=hk0.trans hk;have bad:∀e,eV m id set alg tgt rules.length kids.length obls= .bad e→(.i e:AV)= .v (.int .i64 (eV m id set alg tgt rules.length kids.length obls).err)∧Keeps [idw,mid] h h2∧∀m',eV m id set alg tgt rules.length kids.length obls= .ok m'→gX h2 idw mid m' :=
   fun e he=>⟨by rw[he];rfl,hkk,fun m' h' =>by rw[he]at h';cases h'⟩
  cases d1:decide (alg<1)
  case true=>
   have e1:=acf d1;simp -implicitDefEqProofs only[go_sem,d1,hip2];exact .same (.refl _) (bad 1 (by simp[eV,hm,e1]))
  cases d2:decide (6<alg)
  case true=>
   have e2:=acf d2;simp -implicitDefEqProofs only[go_sem,d1,d2,hip2];exact .same (.refl _) (bad 1 (by simp[eV,hm,e2]))
  have e1:¬(alg<1∨alg>6):=by have:=acg d1;have:=acg d2;omega
  have tail:∀(z:Unit),¬(set=true∧rules.length>0∨set=false∧(kids.length>0∨alg=4))→eV m id set alg tgt rules.length kids.length obls=need (lB tgt) (need (ic obls) (if rules.length>16∨kids.length>16 then .bad 6 else .ok m1)):=fun _ hh=>by
   simp only[eV,hm];rw[if_neg e1,if_neg hh]
  cases set
  ·cases d4:decide (0<(kids.length:Int))
   case true=>
    have f4:0<kids.length:=by have:=acf d4;omega
    simp -implicitDefEqProofs only[go_sem,d1,d2,hip2,aP,acd,d4];exact .same (.refl _) (bad 1 (by simp[eV,hm,e1,f4]))
   have g4:¬0<kids.length:=by have:=acg d4;omega
   cases d5:(alg==4)
   case true=>
    have f5:alg=4:=by simpa using d5
    simp -implicitDefEqProofs only[go_sem,d1,d2,hip2,aP,acd,d4,d5];exact .same (.refl _) (bad 1 (by simp[eV,hm,f5]))
   have g5:alg≠4:=by simpa using d5
   simp -implicitDefEqProofs only[go_sem,d1,d2,hip2,aP,acd,d4,d5];have e3:=tail () (by simp[g4,g5])
   refine(vt tgt _).pthen ?_;cases t1:(lB tgt !=0)
   case true=>
    exact ahA
   have f1:lB tgt=0:=by simpa using t1
   simp -implicitDefEqProofs only[go_sem,t1,hip2];refine(B7 obls _).pthen ?_;cases t2:(ic obls !=0)
   case true=>
    exact ahy
   have f2:ic obls=0:=by simpa using t2
   cases t3:decide (16<(rules.length:Int))
   case true=>
    exact ahu
   have f3:¬16<rules.length:=by have:=acg t3;omega
   cases t4:decide (16<(kids.length:Int))
   case true=>
    exact ahr
   have f4:¬16<kids.length:=by have:=acg t4;omega
   simp -implicitDefEqProofs only[go_sem,t2,hip2,acd,t3,aP,t4];have e4:eV m id false alg tgt rules.length kids.length obls= .ok m1:=by rw[e3];simp[need,f1,f2,f3,f4]
   exact ah2
  ·cases d3:decide (0<(rules.length:Int))
   case true=>
    have f3:0<rules.length:=by have:=acf d3;omega
    simp -implicitDefEqProofs only[go_sem,d1,d2,hip2,acd,d3];exact .same (.refl _) (bad 1 (by simp[eV,hm,e1,f3]))
   have g3:¬0<rules.length:=by have:=acg d3;omega
   simp -implicitDefEqProofs only[go_sem,d1,d2,hip2,acd,d3];have e3:=tail () (by simp[g3])
   refine(vt tgt _).pthen ?_;cases t1:(lB tgt !=0)
   case true=>
    exact ahA
   have f1:lB tgt=0:=by simpa using t1
   simp -implicitDefEqProofs only[go_sem,t1,hip2];refine(B7 obls _).pthen ?_;cases t2:(ic obls !=0)
   case true=>
    exact ahy
   have f2:ic obls=0:=by simpa using t2
   cases t3:decide (16<(rules.length:Int))
   case true=>
    exact ahu
   have f3:¬16<rules.length:=by have:=acg t3;omega
   cases t4:decide (16<(kids.length:Int))
   case true=>
    exact ahr
   have f4:¬16<kids.length:=by have:=acg t4;omega
   simp -implicitDefEqProofs only[go_sem,t2,hip2,acd,t3,aP,t4];have e4:eV m id true alg tgt rules.length kids.length obls= .ok m1:=by rw[e3];simp[need,f1,f2,f3,f4]
   exact ah2
theorem yS(k:bB):(aK k).cells.length=7:=by
 cases k;rfl
theorem vi{m:dU}{d:Nat}{p:bB}(h:4<d):ko m d p= .bad 6:=by
 cases p;grind [ko]
theorem vj{m:dU}{d:Nat}{id:Txt}{set:Bool}{alg:Int}{tgt:fO}{rules:List cN}{kids:List bB}{obls:List cD}{e:Int}(h:¬4<d)
  (hh:eV m id set alg tgt rules.length kids.length obls= .bad e):ko m d (.mk id set alg tgt rules kids obls)= .bad e:=by
 grind [ko]
theorem yT{m m1:dU}{d:Nat}{id:Txt}{set:Bool}{alg:Int}{tgt:fO}{rules:List cN}{kids:List bB}{obls:List cD}{e:Int}(h:¬4<d)
  (hh:eV m id set alg tgt rules.length kids.length obls= .ok m1) (hr:fm m1 rules= .bad e):ko m d (.mk id set alg tgt rules kids obls)= .bad e:=by
 grind [ko]
theorem A3{m m1 m2:dU}{d:Nat}{id:Txt}{set:Bool}{alg:Int}{tgt:fO}{rules:List cN}{kids:List bB}{obls:List cD}(h:¬4<d)
  (hh:eV m id set alg tgt rules.length kids.length obls= .ok m1) (hr:fm m1 rules= .ok m2):ko m d (.mk id set alg tgt rules kids obls)=iJ m2 (d+1) kids:=by
 grind [ko]
theorem ua:∀(n d:Nat) (m:dU) (p:bB) (e:Int),d+n=5→ko m d p= .bad e→e≠0
 |0,d,m,p,e,hd,h=>by grind [vi]
 |n+1,d,m,.mk id set alg tgt rules kids obls,e,hd,h=>by
  by_cases h4:4<d
  ·omega
  cases hh:eV m id set alg tgt rules.length kids.length obls with
  |bad e' =>grind [vj,AI]
  |ok m1=>
   cases hr:fm m1 rules with
   |bad e' =>
    rw[yT h4 hh hr]at h;cases h
    clear hh hd
    induction rules generalizing m1 with
    |nil=>cases hr
    |cons r l ih=>
     grind [fm,gp,Bc]
   |ok m2=>
    rw[A3 h4 hh hr]at h;have ih:=fun m p e=>ua n (d+1) m p e aco
    clear hh hr
    induction kids generalizing m2 with
    |nil=>cases h
    |cons k l ihk=>
     simp only[iJ]at h;cases hx:ko m2 (d+1) k with
     |bad x=>rw[hx]at h;cases h;exact ih _ _ _ hx
     |ok m3=>rw[hx]at h;exact ihk m3 h
theorem Hr{e:Int}{w:Went}{m:dU}(h:need e w= .ok m):e=0∧w= .ok m:=by
 grind [need]
theorem La{m m1:dU}{id:Txt}{set:Bool}{alg:Int}{tgt:fO}{nr nk:Nat}{obls:List cD}(h:eV m id set alg tgt nr nk obls= .ok m1):
  iZ m id=some m1∧1≤alg∧alg≤6∧(set=true→nr=0)∧(set=false→nk=0∧alg≠4)∧lB tgt=0∧ic obls=0∧nr≤16∧nk≤16:=by
 unfold eV at h;split at h
 ·cases h
 split at h
 ·cases h
 split at h
 ·cases h
 obtain⟨h3,h⟩:=Hr h;obtain⟨h4,h⟩:=Hr h
 grind
theorem HW:∀(n d:Nat),d+n=5→∀(idw mid:Nat) (m:dU) (p:bB) (h:Heap),gX h idw mid m→
  ai Tryz.prog 167 [.ptr idw 0,aK p,.i d] h fun x h' =>x= .v (.int .i64 (ko m d p).err)∧Keeps [idw,mid] h h'∧∀m',ko m d p= .ok m'→gX h' idw mid m'
 |n,d,hd,idw,mid,m,.mk id set alg tgt rules kids obls,h,hw=>by
  refine acn Tryz.func167 52 [.tmp 6] fun hwf=>?_
  simp only[go_sem,aK,aS,ay];intro ip hip;have n1:idw≠ip:=fun e=>by have:=hw.1;rw[e,hip]at this;cases this
  have n2:mid≠ip:=fun e=>by have:=hw.2.1;rw[e,hip]at this;cases this
  have hwb:=hw.keep (Sub.ak (k:=some (.obj [.s id,.b set,.i alg,.sl (tgt.map bP) .no,.sl (rules.map aA) .no,.sl (cy kids) .no,.sl (obls.map aW) .no] 65)) hip);have hk0:Keeps [idw,mid] h (upd h ip (some (.obj [.s id,.b set,.i alg,.sl (tgt.map bP) .no,.sl (rules.map aA) .no,.sl (cy kids) .no,.sl (obls.map aW) .no] 65))):=.of (.ak hip);obtain⟨hb,ehb⟩:∃hb,upd h ip (some (.obj [.s id,.b set,.i alg,.sl (tgt.map bP) .no,.sl (rules.map aA) .no,.sl (cy kids) .no,.sl (obls.map aW) .no] 65))=hb:=⟨_,rfl⟩;have hbip:hb ip=some (.obj [.s id,.b set,.i alg,.sl (tgt.map bP) .no,.sl (rules.map aA) .no,.sl (cy kids) .no,.sl (obls.map aW) .no] 65):=afO;rw[ehb]at hwb hk0⊢;cases d0:decide (4<(d:Int))
  case true=>
   have e0:4<d:=acp;simp only[go_sem,d0];exact .same (.refl _) ⟨by rw[vi e0];rfl,hk0,fun m' h' =>by grind [vi]⟩
  have e0:¬4<d:=acp;simp only[go_sem,d0,hbip];have hhead:=MK idw mid m id set alg tgt rules kids obls hb hwb;simp only[aK,aS,ay]at hhead;refine hhead.mono fun x h2 ⟨ex,hk,hw2⟩=>?_
  subst ex;have hk2:=hk0.trans hk;cases hh:eV m id set alg tgt rules.length kids.length obls with
  |bad e=>
   have hne:=AI hh;have t1:(e !=0)=true:=acp;simp only[go_sem,Went.err,t1];exact .same (.refl _) ⟨by rw[vj e0 hh];rfl,hk2,fun m' h' =>by grind [vj]⟩
  |ok m1=>
   have hw2:=hw2 _ hh;have hle:=(La hh).2.2.2.2.2.2.2;have hip2:=hk ip _ acp hbip;simp only[go_sem,Went.err,hip2,acd];refine .intro (fun k ρ h' =>∃(i:Nat) (mi:dU),i≤rules.length∧k=rules.length - i∧fm m1 (rules.take i)= .ok mi∧Keeps [idw,mid] h h'∧gX h' idw mid mi∧
    h' ip=some (.obj [.s id,.b set,.i alg,.sl (tgt.map bP) .no,.sl (rules.map aA) .no,.sl (cy kids) .no,.sl (obls.map aW) .no] 65)∧
    lk ρ 0=some (.ptr idw 0)∧lk ρ 2=some (.i d)∧lk ρ 4=some (.ptr ip 0)∧lk ρ 23=some (.sl (rules.map aA) .no)∧lk ρ 24=some (.i rules.length)∧lk ρ 25=some (.i i)) rules.length ?_ ?_
   ·refine⟨0,m1,aco,rfl,rfl,hk2,hw2,hip2,?_,?_,?_,?_,?_,?_⟩<;>simp only[go_sem]
   ·rintro k ρ h' ⟨i,mi,hi,rfl,hri,hki,hwi,hipi,r0,r2,r4,r23,r24,r25⟩
    simp only[go_sem,r24,r25];refine .intro (fun e=>?_) (fun e=>?_)
    ·have hlt:i<rules.length:=ack e
     have w1:IntKind.i64.wrap ((i:Int)+1)=((i+1:Nat):Int):=acE;simp only[go_sem,r23,r25];refine .at i acp acz ?_;simp only[go_sem,ace,aA];intro ir hir;have hrl:=MM idw mid mi rules[i] _ (hwi.keep (Sub.ak (k:=some (.obj [.s rules[i].id,.b rules[i].deny,aS rules[i].tgt,dL rules[i].cond,ay rules[i].obls] 224)) hir));simp only[aA]at hrl;simp only[go_sem,r0];refine hrl.mono fun x h3 ⟨ex,hk3,hw3⟩=>?_
     subst ex;have hk4:=(hki.trans (.of (Sub.ak hir))).trans hk3;have hip3:=hk3 ip _ acp ((Sub.ak hir) _ _ hipi);cases hx:gp mi rules[i]with
     |bad x=>
      have t1:(x !=0)=true:=by grind [Bc]
      simp only[go_sem,Went.err,t1];have hp:=yT (d:=d) (kids:=kids) e0 hh (Ef hlt hri hx);exact .same (.refl _) ⟨by rw[hp];rfl,hk4,fun m' h' =>acp⟩
     |ok m3=>
      simp only[go_sem,r25,Went.err,w1];refine⟨_,?_,i+1,m3,aco,rfl,by grind [wB],hk4,hw3 _ hx,hip3,?_,?_,?_,?_,?_,?_⟩
      ·omega
      all_goals simp only[go_sem,r0,r2,r4,r23,r24]
    ·have hge:i=rules.length:=by grind
     subst hge;rw[List.take_length]at hri;have hpk:=A3 (d:=d) (kids:=kids) e0 hh hri;simp only[go_sem,r4,hipi,aP,acd];refine .intro (fun k ρ h' =>∃(i:Nat) (mj:dU),i≤kids.length∧k=kids.length - i∧iJ mi (d+1) (kids.take i)= .ok mj∧Keeps [idw,mid] h h'∧gX h' idw mid mj∧
      lk ρ 0=some (.ptr idw 0)∧lk ρ 2=some (.i d)∧lk ρ 37=some (.sl (kids.map aK) .no)∧lk ρ 38=some (.i kids.length)∧lk ρ 39=some (.i i)) kids.length ?_ ?_
     ·refine⟨0,mi,aco,rfl,rfl,hki,hwi,?_,?_,?_,?_,?_⟩<;>simp only[go_sem,r0,r2]
     ·rintro k ρ h' ⟨i,mj,hi,rfl,hkj,hki,hwi,r0,r2,r37,r38,r39⟩
      simp only[go_sem,r38,r39];refine .intro (fun e=>?_) (fun e=>?_)
      ·have hlt:i<kids.length:=ack e
       have w1:IntKind.i64.wrap ((i:Int)+1)=((i+1:Nat):Int):=acE;have w2:IntKind.i64.wrap ((d:Int)+1)=((d+1:Nat):Int):=acE;obtain⟨n',rfl⟩:∃n',n=n' +1:=⟨n - 1,aco⟩;have hrec:=HW n' (d+1) aco idw mid mj kids[i];cases hki' :kids[i]with
       |mk kid kset kalg ktgt krules kkids kobls=>
       rw[hki']at hrec;simp only[aK,aS,ay]at hrec;simp only[go_sem,r37,r39];refine .at i acp (by grind [yS]) ?_
       simp only[go_sem,ace,hki',aK,aS,ay];intro ir hir;simp only[go_sem,r0,r2,w2];refine(hrec _ (hwi.keep (Sub.ak hir))).mono fun x h3 ⟨ex,hk3,hw3⟩=>?_
       subst ex;have hk4:=(hki.trans (.of (Sub.ak hir))).trans hk3;cases hx:ko mj (d+1) (.mk kid kset kalg ktgt krules kkids kobls)with
       |bad x=>
        have t1:(x !=0)=true:=by simpa using ua n' (d+1) _ _ _ aco hx
        simp only[go_sem,Went.err,t1];have hp:=FJ hlt hkj (by rw[hki'];exact hx)
        exact .same (.refl _) ⟨by rw[hpk,hp];rfl,hk4,fun m' h' =>acp⟩
       |ok m3=>
        simp only[go_sem,r39,Went.err,w1];refine⟨_,?_,i+1,m3,aco,rfl,by grind [yt],hk4,hw3 _ hx,?_,?_,?_,?_,?_⟩
        ·omega
        all_goals simp only[go_sem,r0,r2,r37,r38]
      ·have hge:i=kids.length:=by grind
       subst hge;rw[List.take_length]at hkj;simp only[go_sem];exact .same (.refl _) ⟨by rw[hpk,hkj];rfl,hki,fun m' h' =>acp⟩
theorem u0{h:Heap}{i j:Nat}{b:Blk}(e:upd h i (some b) j=none):j≠i:=fun hh=>by
 subst hh;rw[ah]at e;cases e
theorem uh(p:bB)(h:Heap):ai Tryz.prog 117 [aK p] h fun r h' =>r= .i (gy p)∧h' =h:=by
 cases p with
 |mk id set alg tgt rules kids obls=>
 refine acn Tryz.func117 10 [.tmp 2] fun hwf=>?_
 simp only[go_sem,aK,aS,ay];intro ip hip;simp only[go_sem];intro im him;simp only[go_sem];intro iw hiw;have n1:=u0 him;have n2:=u0 hiw;have hiw1:=hiw;rw[ag _ _ n2]at hiw1;have n3:=u0 hiw1;have s1:Ab.Sub h (upd (upd (upd h ip (some (.obj [.s id,.b set,.i alg,.sl (tgt.map bP) .no,.sl (rules.map aA) .no,.sl (cy kids) .no,.sl (obls.map aW) .no] 65))) im (some (.mp []))) iw (some (.obj [.mp im,.i 0] 255))):=
  ((Sub.ak hip).trans (.ak him)).trans (.ak hiw)
 obtain⟨h3,e3⟩:∃h3,upd (upd (upd h ip (some (.obj [.s id,.b set,.i alg,.sl (tgt.map bP) .no,.sl (rules.map aA) .no,.sl (cy kids) .no,.sl (obls.map aW) .no] 65))) im (some (.mp []))) iw (some (.obj [.mp im,.i 0] 255))=h3:=⟨_,rfl⟩;have g1:h3 ip=some (.obj [.s id,.b set,.i alg,.sl (tgt.map bP) .no,.sl (rules.map aA) .no,.sl (cy kids) .no,.sl (obls.map aW) .no] 65):=by
  rw[←e3,ag _ _ n3.symm,ag _ _ n1.symm,ah]
 have g2:gX h3 iw im ⟨[],0⟩:=by
  refine⟨by rw[←e3,ah];rfl,by rw[←e3,ag _ _ n2.symm,ah];rfl,fun l hl=>acp,acr⟩
 have hi0:h im=none:=acZ;have hw0:h iw=none:=acZ;simp only[go_sem];rw[e3]at s1⊢;simp only[go_sem,g1];have hp:=HW 4 1 rfl iw im ⟨[],0⟩ (.mk id set alg tgt rules kids obls) h3 g2;refine hp.mono fun x h4 ⟨ex,hk,_⟩=>?_
 subst ex;simp only[go_sem];refine .mk _ (.refl _) (fun j k hj=>?_) ⟨rfl,rfl⟩
 refine hk j k ?_ (s1 _ _ hj)
 grind
def jQ(x:bB×Int×Int):AV:=.tup [aK x.1,.i x.2.1,.i x.2.2]
theorem jr(a b c:AV)(h:Weak a b)(d:AV):Weak (.tup [a,c,d]) (.tup [b,c,d]):=.tup _ _ rfl fun i h1 h2=>by
 rcases i with _|_|_|i
 ·exact h
 ·exact adK
 ·exact adK
 grind
theorem yN(s:Txt)(h:Heap)(he:kR h):ai Tryz.prog 67 [.s s] h fun r h' =>r=jQ (aR s)∧h' =h:=by
 refine acn Tryz.func67 61 [.cell 2 65,.tmp 3,.tmp 4] fun hwf=>?_
 simp only[go_sem];intro i2 hi2;simp only[go_sem];refine(EP s _ (he.sub (.ak hi2))).pthen ?_;cases el:sA s with
 |bad e a=>
  have e1:=yy el;have d1:(e !=0)=true:=by
   grind
  have efin:aR s=(om,e,a):=by grind [aR]
  simp only[go_sem,NY,d1];rw[efin];exact .mk (h' :=h) (jQ (om,e,a)) (jr _ _ _ (gh _) _) (.ak hi2) ⟨rfl,rfl⟩
 |ok ts=>
  have efin:aR s=yM s ts:=by grind [aR]
  have hw:=JW el 0 0 0;have hpol:=DY 3 1 rfl ⟨ts,0,0,0,0⟩ hw (Nat.zero_le _);have hap:=xx 4 ⟨ts,0,0,0,0⟩ hw;obtain⟨⟨⟨pid,pset,palg,ptgt,prules,pkids,pobls⟩,st1⟩,ep⟩:∃x,gD 4 ⟨ts,0,0,0,0⟩=x:=⟨_,rfl⟩;rw[show 3+1=4 from rfl,ep]at hpol
  rw[ep]at hap;simp only[aK]at hpol hap;simp only[yM,ep]at efin;simp only[go_sem,NY];intro i8 hi8;have n8:=aH hi8;have m82:¬i8=i2:=n8;have m28:¬i2=i8:=fun e=>n8 e.symm
  have hh8:h i8=none:=acZ;simp only[go_sem];refine hpol.go (ah ..) ?_;rw[nu];simp only[go_sem];intro i9 hi9;have n9:=aH hi9;have hi9' :=hi9;rw[ag _ _ n9]at hi9';have n92:=aH hi9';have m92:¬i9=i2:=n92;have m29:¬i2=i9:=fun e=>n92 e.symm
  have m98:¬i9=i8:=n9;have m89:¬i8=i9:=fun e=>n9 e.symm
  have hh9:h i9=none:=acZ;have c9:∀(f:Heap) (x y:Option Blk),upd (upd f i8 x) i9 y=upd (upd f i9 y) i8 x:=fun f x y=>cB f x y n9.symm
  simp only[go_sem,c9,aj,m98];refine(lU st1 hap.1).run ?_;have subs:∀x y z,Sub h (upd (upd (upd h i2 x) i9 y) i8 z):=fun x y z=>((Sub.ak hi2).put hh9 _).put hh8 _
  cases d1:((aL st1).kind !=7)
  ·have k1:(aL st1).kind=7:=by grind
   have e2:(if(aL st1).kind=7 then st1 else bn st1)=st1:=if_pos k1
   simp only[go_sem,fD,d1];cases db:((st1).bad==0)
   ·have eb:(st1).bad≠0:=by grind
    simp only[go_sem,PO,db];have eend:pT s (.mk pid pset palg ptgt prules pkids pobls,st1)=st1:=by
     simp_all [pT,if_neg]
    have hbb:(st1).bad≠0:=eb;have dn:((st1).bad !=0)=true:=acp;simp only[go_sem,dn];refine .calls (hm1 i8 (PO (st1))) [0,1,2,3,4,5,6,7,8,9,10,11] (.hm1 (ah ..)) acs rfl ?_;simp only[go_sem,aj,m28,m29,PO,fW];refine⟨.hm1 ((ag _ _ n8).trans (ah ..)),?_⟩;have efin2:aR s=(om,(st1).bad,(st1).place):=acp;rw[efin2];exact .mk (h' :=h) (jQ (om,(st1).bad,(st1).place)) (jr _ _ _ (gh _) _) (Sub.put (subs _ _ _) hi2 _) ⟨rfl,rfl⟩
   ·have eb:(st1).bad=0:=by grind
    simp only[go_sem,aj,m98,PO,db];refine(uh (.mk pid pset palg ptgt prules pkids pobls) _).pthen ?_;cases dr:(gy (.mk pid pset palg ptgt prules pkids pobls) !=0)
    ·have er:gy (.mk pid pset palg ptgt prules pkids pobls)=0:=by grind
     have dn:((st1).bad !=0)=false:=acp;simp only[go_sem,aj,m28,m29,m98,dr,dn];have eend:pT s (.mk pid pset palg ptgt prules pkids pobls,st1)=st1:=by
      simp_all [pT,if_neg]
     exact aif
    ·have er:gy (.mk pid pset palg ptgt prules pkids pobls)≠0:=by grind
     simp only[go_sem,dr];refine(rm (st1) 5 s.length).run ?_;have eend:pT s (.mk pid pset palg ptgt prules pkids pobls,st1)=bI (st1) 5 s.length:=by
      simp_all [pT,if_pos]
     have hwb:bI (st1) 5 s.length= {(st1)with bad:=5,place:=s.length}:=by rw[bI,if_pos eb]
     have hbb:(bI (st1) 5 s.length).bad≠0:=acp;have dn:((bI (st1) 5 s.length).bad !=0)=true:=acp;simp only[go_sem,PO,dn];refine .calls (hm1 i8 (PO (bI (st1) 5 s.length))) [0,1,2,3,4,5,6,7,8,9,10,11] (.hm1 (ah ..)) acs rfl ?_;simp only[go_sem,aj,m28,m29,PO,fW];refine⟨.hm1 ((ag _ _ n8).trans (ah ..)),?_⟩;have efin2:aR s=(om,(bI (st1) 5 s.length).bad,(bI (st1) 5 s.length).place):=acp;rw[efin2];exact .mk (h' :=h) (jQ (om,(bI (st1) 5 s.length).bad,(bI (st1) 5 s.length).place)) (jr _ _ _ (gh _) _) (Sub.put (subs _ _ _) hi2 _) ⟨rfl,rfl⟩
  ·have k1:(aL st1).kind≠7:=by grind
   have e2:(if(aL st1).kind=7 then st1 else bn st1)=bn st1:=if_neg k1
   simp only[go_sem,fD,d1];refine(lu st1 hap.1).run ?_;simp only[go_sem];cases db:((bn st1).bad==0)
   ·have eb:(bn st1).bad≠0:=by grind
    simp only[go_sem,PO,db];have eend:pT s (.mk pid pset palg ptgt prules pkids pobls,st1)=bn st1:=by
     simp_all [pT,if_neg]
    have hbb:(bn st1).bad≠0:=eb;have dn:((bn st1).bad !=0)=true:=acp;simp only[go_sem,dn];refine .calls (hm1 i8 (PO (bn st1))) [0,1,2,3,4,5,6,7,8,9,10,11] (.hm1 (ah ..)) acs rfl ?_;simp only[go_sem,aj,m28,m29,PO,fW];refine⟨.hm1 ((ag _ _ n8).trans (ah ..)),?_⟩;have efin2:aR s=(om,(bn st1).bad,(bn st1).place):=acp;rw[efin2];exact .mk (h' :=h) (jQ (om,(bn st1).bad,(bn st1).place)) (jr _ _ _ (gh _) _) (Sub.put (subs _ _ _) hi2 _) ⟨rfl,rfl⟩
   ·have eb:(bn st1).bad=0:=by grind
    simp only[go_sem,aj,m98,PO,db];refine(uh (.mk pid pset palg ptgt prules pkids pobls) _).pthen ?_;cases dr:(gy (.mk pid pset palg ptgt prules pkids pobls) !=0)
    ·have er:gy (.mk pid pset palg ptgt prules pkids pobls)=0:=by grind
     have dn:((bn st1).bad !=0)=false:=acp;simp only[go_sem,aj,m28,m29,m98,dr,dn];have eend:pT s (.mk pid pset palg ptgt prules pkids pobls,st1)=bn st1:=by
      simp_all [pT,if_neg]
     exact aif
    ·have er:gy (.mk pid pset palg ptgt prules pkids pobls)≠0:=by grind
     simp only[go_sem,dr];refine(rm (bn st1) 5 s.length).run ?_;have eend:pT s (.mk pid pset palg ptgt prules pkids pobls,st1)=bI (bn st1) 5 s.length:=by
      simp_all [pT,if_pos]
     have hwb:bI (bn st1) 5 s.length= {(bn st1)with bad:=5,place:=s.length}:=by rw[bI,if_pos eb]
     have hbb:(bI (bn st1) 5 s.length).bad≠0:=acp;have dn:((bI (bn st1) 5 s.length).bad !=0)=true:=acp;simp only[go_sem,PO,dn];refine .calls (hm1 i8 (PO (bI (bn st1) 5 s.length))) [0,1,2,3,4,5,6,7,8,9,10,11] (.hm1 (ah ..)) acs rfl ?_;simp only[go_sem,aj,m28,m29,PO,fW];refine⟨.hm1 ((ag _ _ n8).trans (ah ..)),?_⟩;have efin2:aR s=(om,(bI (bn st1) 5 s.length).bad,(bI (bn st1) 5 s.length).place):=acp;rw[efin2];exact .mk (h' :=h) (jQ (om,(bI (bn st1) 5 s.length).bad,(bI (bn st1) 5 s.length).place)) (jr _ _ _ (gh _) _) (Sub.put (subs _ _ _) hi2 _) ⟨rfl,rfl⟩
end Go.Proofs.YtcochaoekecfdaaGreatDoor
namespace Go.Ab
open Go
theorem OwE.keepb{tb:TypeId}{h0 h h' :Heap}{sz:Nat}{y:AV}{xs:List AV}(hw:OwE tb h0 h sz y xs)(hk:∀id,h0 id=Option.none→h id≠Option.none→h' id=h id):OwE tb h0 h' sz y xs:=
 hw.keep fun id e=>hk id (hw.nid e).1 (hw.nid e).2.1
end Go.Ab
namespace Go.Proofs.YtcochaoekecfdaaGreatDoor
open Go Go.Ab Go.Bf
theorem fh.keepb{h0 h h' :Heap}{ys:List AV}{x:AV}{c:aJ}(hm:fh h0 h ys x c)(hk:∀id,h0 id=none→h id≠none→h' id=h id):fh h0 h' ys x c:=by
 obtain⟨f,l,e,a,b,c,d⟩:=hm;exact⟨f,l,e,a.keepb hk,b.keepb hk,c,d⟩
theorem lQ.keepb{h0 h h' :Heap}{ys:List AV}{y:AV}{cs:List aJ}{i0:Nat}(ho:lQ h0 h ys y cs i0)(hk:∀id,h0 id=none→h id≠none→h' id=h id):lQ h0 h' ys y cs i0:=by
 obtain⟨xs,a,b,c,d⟩:=ho;exact⟨xs,a.keepb hk,b,c,fun h1 h2=>(d h1 h2).keepb hk⟩
theorem sU.keepb{h0 h h' :Heap}{x:AV}{s:an}{i0:Nat}(ho:sU h0 h x s i0)(hk:∀id,h0 id=none→h id≠none→h' id=h id):sU h0 h' x s i0:=by
 obtain⟨y1,y2,y3,y4,e,a,b,c,d,r⟩:=ho;exact⟨y1,y2,y3,y4,e,a.keepb hk,b.keepb hk,c.keepb hk,d.keepb hk,r⟩
theorem lQ.keepx{h0 h h' :Heap}{ys:List AV}{y z:AV}{cs:List aJ}{i0:Nat}(ho:lQ h0 h ys y cs i0)(hz:z∈ys)(hy:apart y z)(hk:∀id,h0 id=none→h id≠none→nid z≠some id→h' id=h id):lQ h0 h' ys y cs i0:=by
 obtain⟨xs,a,b,c,d⟩:=ho;refine⟨xs,a.keep fun id e=>hk id (a.nid e).1 (a.nid e).2.1 (hy id e),b,c,fun h1 h2=>?_⟩
 obtain⟨f,l,e,of,ol,hap,hys⟩:=d h1 h2;exact⟨f,l,e,of.keep fun id e=>hk id (of.nid e).1 (of.nid e).2.1 ((hys z hz).1 id e),ol.keep fun id e=>hk id (ol.nid e).1 (ol.nid e).2.1 ((hys z hz).2 id e),hap,hys⟩
theorem fh.frz{g h0 h:Heap}{ys:List AV}{x:AV}{c:aJ}(hm:fh h0 h ys x c)(hg:Ab.Sub g h0):Frz g h x (cr c):=by
 obtain⟨f,l,rfl,a,b,_⟩:=hm;refine .agg _ _ rfl fun j h1 h2=>?_
 rcases j with _|_|_|_|_|j
 ·exact acK
 ·exact acK
 ·exact acK
 ·exact(a.less hg).frz (bu (fun _=>rfl) _)
 ·exact(b.less hg).frz (bu (fun _=>rfl) _)
 ·simp at h1;omega
theorem IN{g h0 h:Heap}{y:AV}{xs:List AV}{cs:List aJ}(hw:OwE 134 h0 h 5 y xs)(hg:Ab.Sub g h0)(hn:xs.length=cs.length)(hx:∀j (h1:j<xs.length) (h2:j<cs.length),Frz g h xs[j] (cr cs[j])):Frz g h y (fk cs):=by
 rcases hw with⟨rfl,rfl⟩|⟨id,h1,hw⟩
 ·have:cs= []:=by grind
  subst this;exact .sl [] [] .full rfl aco acw
 ·have hsz:∀i (h1:i<xs.length),xs[i].cells.length=5:=fun i h1=>hw.rd.1 _ acw
  refine hw.frz (hg.none h1) acp (fun i h1 h2=>by rw[hsz i h1,ace];rfl) fun i h1 h2 j h3 h4=>?_
  have h2' :i<cs.length:=aco;have hf:=hx i h1 h2';have key:∀x y:AV,Frz g h x y→bA y=true→cR y=true→∀j (h3:j<x.cells.length) (h4:j<y.cells.length),Frz g h x.cells[j] y.cells[j]:=by
   intro x y hf ha hp j h3 h4;cases hf with
   |keep x hx=>exact .pure (ng hp _ (aci h4))
   |agg xs ys hn hr=>exact hr j h3 h4
   |_=>cases ha
  have e:(cs.map cr)[i]'h2=cr cs[i]:=acw;simp only[e]at h4⊢;exact key _ _ hf rfl (by simp only[cr,mT,cR,gU,gu,sB,Bool.and_true,Bool.true_and,Bool.and_eq_true];exact⟨bu (fun _=>rfl) _,bu (fun _=>rfl) _⟩) j h3 h4
theorem lQ.frz{g h0 h:Heap}{ys:List AV}{y:AV}{cs:List aJ}{i0:Nat}(ho:lQ h0 h ys y cs i0)(hg:Ab.Sub g h0):Frz g h y (fk cs):=by
 obtain⟨xs,a,b,c,d⟩:=ho;refine IN a hg b fun j h1 h2=>?_
 by_cases e:j=i0
 ·subst e;exact(d h1 h2).frz hg
 grind [Dc]
theorem L1{g h:Heap}(p:bB):∀x∈fV p,Frz g h x x:=fun x hx=>by
 refine .pure (ng (x:=aK p) (D3 p) x ?_);rw[Oc];exact hx
theorem Dd{g h:Heap}{xs:List AV}(hx:∀x∈xs,Frz g h x x):∀i (h1:i<xs.length) (h2:i<xs.length),Frz g h xs[i] xs[i]:=fun i h1 _=>hx _ (aci h1)
theorem GV{g h:Heap}{ps bs cs ds:List AV}(n1:ps.length=bs.length)(n2:cs.length=ds.length)(h1:∀i (a:i<ps.length) (b:i<bs.length),Frz g h ps[i] bs[i])(h2:∀i (a:i<cs.length) (b:i<ds.length),Frz g h cs[i] ds[i]):
  ∀i (a:i<(ps++cs).length) (b:i<(bs++ds).length),Frz g h (ps++cs)[i] (bs++ds)[i]:=fun i a b=>by
 by_cases e:i<ps.length
 ·rw[List.getElem_append_left e,List.getElem_append_left aco];exact h1 i e aco
 ·rw[List.getElem_append_right aco,List.getElem_append_right aco]
  simp only[ach]at a b;have:=h2 (i - ps.length) aco aco;simp only[n1]at this⊢;exact ac8
theorem uL{g h:Heap}{s:an}{y1 y2 y3 y4:AV}(a:Frz g h y1 (fk s.cases))(b:Frz g h y2 (ja s.reviews))(c:Frz g h y3 (jw s.notices))(d:Frz g h y4 (dI s.roles)):
  Frz g h (.agg ([.i s.tick,y1,y2,y3,y4]++fV s.policy++ [.i s.version])) (cg s):=by
 refine .agg _ _ acw (GV acw rfl (GV rfl rfl (fun i h1 h2=>?_) (Dd (L1 _))) (Dd fun x hx=>by rw[List.mem_singleton.1 hx];exact .pure rfl))
 rcases i with _|_|_|_|_|i
 ·exact acK
 ·exact a
 ·exact b
 ·exact c
 ·exact d
 ·simp at h1;omega
theorem lQ.rd{h0 h:Heap}{ys:List AV}{y:AV}{cs:List aJ}{i0:Nat}(ho:lQ h0 h ys y cs i0):zG h y cs:=by
 obtain⟨xs,a,b,c,d⟩:=ho;refine⟨xs,a.rd,b,fun j h1 h2=>?_⟩
 by_cases e:j=i0
 ·subst e
  obtain⟨f,l,e,a,b,_⟩:=d h1 h2;exact⟨f,l,e,a.rd,b.rd⟩
 grind [rdC]
theorem sU.rd{h0 h:Heap}{x:AV}{s:an}{i0:Nat}(ho:sU h0 h x s i0):RdS h x s:=by
 obtain⟨y1,y2,y3,y4,rfl,a,b,c,d,r⟩:=ho;exact⟨y1,y2,y3,y4,rfl,a.rd,b.rd,c.rd,d.rd⟩
end Go.Proofs.YtcochaoekecfdaaGreatDoor
namespace Go.Ab
open Go
theorem OwE.bN{tb:TypeId}{h0 h1 h:Heap}{sz:Nat}{y:AV}{xs:List AV}(hw:OwE tb h1 h sz y xs)(hs:∀i,h1 i=Option.none→h0 i=Option.none):OwE tb h0 h sz y xs:=by
 rcases hw with hw|⟨id,e,hw⟩
 ·exact agl
 ·exact .inr ⟨id,hs _ e,hw⟩
end Go.Ab
namespace Go.Proofs.YtcochaoekecfdaaGreatDoor
open Go Go.Ab Go.Bf
theorem fh.bN{g h0 h:Heap}{ys:List AV}{x:AV}{c:aJ}(hm:fh h0 h ys x c)(hg:∀i,h0 i=none→g i=none):fh g h ys x c:=by
 obtain⟨f,l,e,a,b,c⟩:=hm;exact⟨f,l,e,a.bN hg,b.bN hg,c⟩
theorem lQ.bN{g h0 h:Heap}{ys:List AV}{y:AV}{cs:List aJ}{i0:Nat}(ho:lQ h0 h ys y cs i0)(hg:∀i,h0 i=none→g i=none):lQ g h ys y cs i0:=by
 obtain⟨xs,a,b,c,d⟩:=ho;exact⟨xs,a.bN hg,b,c,fun h1 h2=>(d h1 h2).bN hg⟩
theorem sU.bN{g h0 h:Heap}{x:AV}{s:an}{i0:Nat}(ho:sU h0 h x s i0)(hg:∀i,h0 i=none→g i=none):sU g h x s i0:=by
 obtain⟨y1,y2,y3,y4,e,a,b,c,d,r⟩:=ho;exact⟨y1,y2,y3,y4,e,a.bN hg,b.bN hg,c.bN hg,d.bN hg,r⟩
theorem oY{g K:Heap}{S:an}{j:Nat}{y1 y2 y3 y4:AV}{tk ver palg:Int}{pid:Txt}{pset:Bool}{ptgt:fO}{prules:List cN}{pkids:List bB}{pobls:List cD}(h1:S.tick=tk)(h2:S.policy= .mk pid pset palg ptgt prules pkids pobls)(h3:S.version=ver)
  (a:lQ g K [y1,y2,y3,y4] y1 S.cases j) (b:OwE 143 g K 7 y2 (S.reviews.map fY)) (c:OwE 146 g K 3 y3 (S.notices.map jO)) (d:OwE 149 g K 2 y4 (S.roles.map cY)) (ap:apart y1 y2∧apart y1 y3∧apart y1 y4∧apart y2 y3∧apart y2 y4∧apart y3 y4):
  sU g K (.agg [.i tk,y1,y2,y3,y4,.s pid,.b pset,.i palg,aS ptgt,.sl (prules.map aA) .no,.sl (pkids.map aK) .no,ay pobls,.i ver]) S j:=by
 refine⟨y1,y2,y3,y4,?_,a,b,c,d,ap⟩;rw[h1,h2,h3,show fV (.mk pid pset palg ptgt prules pkids pobls)= [.s pid,.b pset,.i palg,aS ptgt,.sl (prules.map aA) .no,.sl (pkids.map aK) .no,ay pobls] by simp[fV,aP]]
 rfl
theorem lQ.move{h0 h h' :Heap}{ys ys' :List AV}{y z:AV}{cs:List aJ}{i0:Nat}(ho:lQ h0 h ys y cs i0)(hz:z∈ys)(hy:apart y z)(hk:∀id,h0 id=none→h id≠none→nid z≠some id→h' id=h id)
  (hr:∀y'∈ys',∀k,nid y' =some k→h k=none∨∃w∈ys,nid w=some k):lQ h0 h' ys' y cs i0:=by
 obtain⟨xs,a,b,c,d⟩:=ho;refine⟨xs,a.keep fun id e=>hk id (a.nid e).1 (a.nid e).2.1 (hy id e),b,c,fun h1 h2=>?_⟩
 obtain⟨f,l,e,of,ol,hap,hys⟩:=d h1 h2;refine⟨f,l,e,of.keep fun id e=>hk id (of.nid e).1 (of.nid e).2.1 ((hys z hz).1 id e),ol.keep fun id e=>hk id (ol.nid e).1 (ol.nid e).2.1 ((hys z hz).2 id e),hap,fun w hw=>⟨fun k e1 e2=>?_,fun k e1 e2=>?_⟩⟩
 ·rcases hr w hw k e2 with hn|⟨v,hv,e3⟩
  ·exact(of.nid e1).2.1 hn
  ·exact(hys v hv).1 k e1 e3
 ·rcases hr w hw k e2 with hn|⟨v,hv,e3⟩
  ·exact(ol.nid e1).2.1 hn
  ·exact(hys v hv).2 k e1 e3
theorem Ob{g K:Heap}{r X:AV}{A B:List aJ}{C:aJ}{ys:List AV}{j:Nat}(hj:A.length=j)(hw:OwE 134 g K 5 r (A.map cr++([X]++B.map cr)))(hX:fh g K ys X C):lQ g K ys r (A++ [C]++B) j:=by
 refine⟨_,hw,acw,fun k h1 h2 hk=>?_,fun h1 h2=>?_⟩
 ·grind
 grind
theorem B9{g K:Heap}{z:AV}{xs:List AV}{cs:List aJ}{j:Nat}{X:AV}{F:aJ→aJ}{ys:List AV}(hw:OwE 134 g K 5 z (xs.set j X))(hn:xs.length=cs.length)(hlo:∀k (h1:k<xs.length) (h2:k<cs.length),k≠j→xs[k]=cr cs[k])(hX:∀h:j<cs.length,fh g K ys X (F cs[j])):lQ g K ys z (cs.modify j F) j:=by
 refine⟨_,hw,acp,fun k h1 h2 e=>?_,fun h1 h2=>?_⟩
 ·grind
 grind
theorem tv{xs:List AV}{j:Nat}(hj:j<xs.length)(x:AV):aq (xs.set j x)=aq (xs.take j)++(x.cells++aq (xs.drop (j+1))):=by
 simp_all [List.set_eq_take_append_cons_drop,if_pos,l8,aq]
theorem BU{xs:List AV}{j:Nat}(hj:j<xs.length):aq xs=aq (xs.take j)++(xs[j].cells++aq (xs.drop (j+1))):=by
 grind [tv,List.set_getElem_self]
theorem yZ{s:an}{o:OpD}(h:bO s o=0)(hk:o.kind=3∨o.kind=4):bZ s.cases o.case=true:=by
 grind [bZ,bO,bY]
theorem KI{g:Heap}{x:AV}{s:an}(hb:RdS g x s)(o:OpD)(hf:Few s)(hp:mH 1 s.policy)(hr:i64 o.review)(ht:i64 s.tick)(hver:0≤s.version∧s.version≤1000000)(he:kR g):
  ai Tryz.prog 74 [x,opA o] g fun r h' =>Ab.Sub g h'∧∃j,sU g h' r (dP aR s o) j∧(bO s o=0→j=findD s.cases o.case):=by
 obtain⟨i0,ei0⟩:∃i0,(if o.kind=1 then s.cases.length else findD s.cases o.case)=i0:=⟨_,rfl⟩
 have hown:=fun(G:Heap) (hG:Ab.Sub g G)=>Rj (hb.sub hG) i0 hf hp
 have hrdy:=fun(G:Heap) (hG:Ab.Sub g G)=>Ec (hb.sub hG) o hf hr ht
 obtain⟨y1,y2,y3,y4,rfl,hb'⟩:=hb;cases hpp:s.policy with
 |mk pid pset palg ptgt prules pkids pobls=>
 have hcC:fV (.mk pid pset palg ptgt prules pkids pobls)= [.s pid,.v (.bool pset),.v (.int .i64 palg),aS ptgt,.sl (prules.map aA) .no,.sl (pkids.map aK) .no,ay pobls]:=afq;rw[hpp,hcC]at hown hrdy;simp only[opA,opC,List.cons_append,List.nil_append]at hown hrdy;refine acn Tryz.func74 138 [.cell 4 67] fun hwf=>?_
 simp only[go_sem,hcC,opA,opC,List.cons_append,List.nil_append];intro i2 h2;simp only[go_sem];intro i3 h3;have n32:=aH h3;have h3' :=aC h3;simp only[go_sem];intro i4 h4;have n43:=aH h4;have h4a:=aC h4;have n42:=aH h4a;have h4' :=aC h4a;simp only[go_sem,aj,n32.symm,n42.symm];obtain⟨H,eH⟩:∃H,upd (upd (upd g i2 (some (.obj [.v (.int .i64 s.tick),y1,y2,y3,y4,.s pid,.v (.bool pset),.v (.int .i64 palg),aS ptgt,.sl (prules.map aA) .no,.sl (pkids.map aK) .no,ay pobls,.v (.int .i64 s.version)] 67))) i3 (some (.obj (opC o) 32))) i4 (some (.obj [.v (.int .i64 0),.sl [] .full,.sl [] .full,.sl [] .full,.sl [] .full,.s [],.v (.bool false),.v (.int .i64 0),.sl [] .full,.sl [] .full,.sl [] .full,.sl [] .full,.v (.int .i64 0)] 67))=H:=⟨_,rfl⟩;have hH:Ab.Sub g H:=by rw[←eH];exact(((Sub.refl g).put h2 _).put h3' _).put h4' _
 have g2:H i2=some (.obj [.v (.int .i64 s.tick),y1,y2,y3,y4,.s pid,.v (.bool pset),.v (.int .i64 palg),aS ptgt,.sl (prules.map aA) .no,.sl (pkids.map aK) .no,ay pobls,.v (.int .i64 s.version)] 67):=by rw[←eH,ag _ _ n42.symm,ag _ _ n32.symm,ah]
 have g3:H i3=some (.obj (opC o) 32):=by rw[←eH,ag _ _ n43.symm,ah]
 have g4:H i4=some (.obj [.v (.int .i64 0),.sl [] .full,.sl [] .full,.sl [] .full,.sl [] .full,.s [],.v (.bool false),.v (.int .i64 0),.sl [] .full,.sl [] .full,.sl [] .full,.sl [] .full,.v (.int .i64 0)] 67):=adR;simp only[opC]at eH g3;rw[eH];clear eH;refine(hown H hH).mono fun r H1 ⟨hS,s1⟩=>?_
 obtain⟨z1,z2,z3,z4,er,hS1⟩:=id hS;subst er;rw[hpp,hcC]at hS⊢;obtain⟨hC,w2,w3,w4,a12,a13,a14,a23,a24,a34⟩:=hS1;obtain⟨xs,w1,hnx,hlo,hmy⟩:=id hC;simp only[go_sem,List.cons_append,List.nil_append];intro i5 h5;simp only[go_sem];have q2:=s1 _ _ g2;have q3:=s1 _ _ g3;have q4:=s1 _ _ g4;have n52:i2≠i5:=fun e=>by rw[←e,q2]at h5;cases h5
 have n53:i3≠i5:=fun e=>by rw[←e,q3]at h5;cases h5
 have n54:i4≠i5:=fun e=>by rw[←e,q4]at h5;cases h5
 obtain⟨K,eK⟩:∃K,upd H1 i5 (some (.obj [.v (.int .i64 s.tick),z1,z2,z3,z4,.s pid,.v (.bool pset),.v (.int .i64 palg),aS ptgt,.sl (prules.map aA) .no,.sl (pkids.map aK) .no,ay pobls,.v (.int .i64 s.version)] 67))=K:=⟨_,rfl⟩;have sK:Ab.Sub H1 K:=by rw[←eK];exact .ak h5
 have k5:K i5=some (.obj [.v (.int .i64 s.tick),z1,z2,z3,z4,.s pid,.v (.bool pset),.v (.int .i64 palg),aS ptgt,.sl (prules.map aA) .no,.sl (pkids.map aK) .no,ay pobls,.v (.int .i64 s.version)] 67):=by rw[←eK,ah]
 rw[eK];have hz5:∀k,H k=none→H1 k≠none→k≠i5:=fun k _ hk e=>hk (by rw[e];exact h5)
 have k2:=sK _ _ q2;have k3:=sK _ _ q3;have k4:=sK _ _ q4;clear eK;have sg:Ab.Sub g K:=hH.trans (s1.trans sK);simp only[go_sem,k2,k3];refine(hrdy K sg).pthen ?_;have g5:g i5=none:=(hH.trans s1).none h5;have kK:∀k,H1 k≠none→K k=H1 k:=fun k hk=>by
  cases e:H1 k with
  |none=>exact(hk e).elim
  |some b=>exact sK _ _ e
 have hz4:∀k,H k=none→k≠i4:=fun k hk e=>by rw[e,g4]at hk;cases hk
 by_cases p0:bO s o=0
 ·have d0:(bO s o !=0)=false:=by simp[p0]
  simp only[go_sem,d0];simp only[go_sem,k5,k3];have hSK:sU H K (.agg ([.v (.int .i64 s.tick),z1,z2,z3,z4]++fV s.policy++ [.v (.int .i64 s.version)])) s i0:=by
   rw[hpp,hcC];exact hS.keepb fun k _ hk=>kK k hk
  have hfi:=BT hSK.rd o.case hf.cases;rw[hpp,hcC]at hfi;simp only[List.cons_append,List.nil_append]at hfi;refine hfi.pthen ?_;simp only[go_sem,k3];have hform:eU o=true:=by
   cases e:eU o
   ·simp[bO,e]at p0
   ·rfl
  have hdone:dP aR s o=doD aR s o:=by simp[dP,p0]
  rw[hdone]
  by_cases p1:o.kind=1
  ·have k1:(o.kind==1)=true:=by simp[p1]
   simp only[go_sem,k1];simp only[go_sem,k3];intro i8 h8;have n82:i2≠i8:=fun e=>by rw[←e,k2]at h8;cases h8
   have n83:i3≠i8:=fun e=>by rw[←e,k3]at h8;cases h8
   have n84:i4≠i8:=fun e=>by rw[←e,k4]at h8;cases h8
   have n85:i5≠i8:=fun e=>by rw[←e,k5]at h8;cases h8
   simp only[go_sem];obtain⟨K2,eK2⟩:∃K2,upd K i8 (some (.obj [.s o.case,.s o.subj,.s [111,112,101,110],.sl [] .full,.sl [] .full] 134))=K2:=⟨_,rfl⟩;have sK2:Ab.Sub K K2:=by rw[←eK2];exact .ak h8
   have e8:K2 i8=some (.obj [.s o.case,.s o.subj,.s [111,112,101,110],.sl [] .full,.sl [] .full] 134):=by rw[←eK2,ah]
   rw[eK2];clear eK2;have m3:=sK2 _ _ k3;have m4:=sK2 _ _ k4;have m5:=sK2 _ _ k5;simp only[go_sem,m3,m5];have hha:=sr (h0:=H) (s:=s) z1 z2 z3 z4 (k:=i8) (o:=0) (A:=[]) (B:=[]) (t:=134) (c:=⟨o.case,o.subj,jy,[],[]⟩) (f:=.sl [] .full) (l:=.sl [] .full) rfl e8 acr (.inl ⟨rfl,rfl⟩) (s1.trans (sK.trans sK2)) (Nat.zero_le _) o.subj [110,101,119];rw[hpp,hcC]at hha;simp only[List.cons_append,List.nil_append]at hha;refine hha.mono fun r K3 ⟨l',ol,e8',fr3,ap3⟩=>?_
   have kK3:∀k,K2 k≠none→k≠i8→K3 k=K2 k:=fun k hk hk8=>fr3 k hk hk8 (by simp[nid])
   have m3' :K3 i3=_:=(kK3 i3 (by rw[m3];simp) n83).trans m3
   have m4' :K3 i4=_:=(kK3 i4 (by rw[m4];simp) n84).trans m4
   have m5' :K3 i5=_:=(kK3 i5 (by rw[m5];simp) n85).trans m5
   simp only[cj,List.append_nil]at e8';simp only[go_sem];simp only[go_sem,m5',e8'];have kk2:∀k,H1 k≠none→K2 k=H1 k:=fun k hk=>by
    have:=kK k hk;cases e:K k with
    |none=>rw[e]at this;exact(hk this.symm).elim
    |some b=>rw[sK2 _ _ e,←e,this]
   have k8:∀k,H1 k≠none→k≠i8:=fun k hk e=>hk (by have:=kK k hk;rw[e,h8]at this;rw[e];exact this.symm)
   have kk3:∀k,H1 k≠none→K3 k=H1 k:=fun k hk=>(kK3 k (by rw[kk2 k hk];exact hk) (k8 k hk)).trans (kk2 k hk)
   have sH3:Ab.Sub H1 K3:=fun k b hk=>by rw[kk3 k (by rw[hk];simp)];exact hk
   have hfl:findD s.cases o.case≤s.cases.length:=List.findIdx_le_length;have hfc:=hf.cases;refine(FD z1 xs (.agg [.s o.case,.s o.subj,.s jy,.sl [] .full,l']) (findD s.cases o.case) H K3 (w1.keepb fun k _ hk=>kk3 k hk) (s1.trans sH3) aco aco rfl (by simp[Ab.fit])).mono fun r K4 ⟨ow5,fr4,ap4⟩=>?_
   have m4'' :K4 i4=_:=(fr4 i4 (by rw[m4'];simp) (fun e=>by have:=(w1.nid e).1;rw[g4]at this;cases this)).trans m4'
   have m5'' :K4 i5=_:=(fr4 i5 (by rw[m5'];simp) (fun e=>(w1.nid e).2.1 h5)).trans m5'
   simp only[go_sem,m5'',ow5.rd.fit,ow5.rd.cells];simp only[go_sem,aj,n54,m4''];have hi0:i0=s.cases.length:=by rw[←ei0,if_pos p1]
   have hxs:xs=s.cases.map cr:=List.ext_getElem (by simpa using hnx) fun j a b=>by rw[hlo j a aco aco,ace]
   have kk4:∀k,H1 k≠none→nid z1≠some k→K4 k=H1 k:=fun k hk hz=>(fr4 k (by rw[kk3 k hk];exact hk) hz).trans (kk3 k hk)
   obtain⟨K5,eK5⟩:∃K5,upd (upd K4 i5 (some (.obj [.v (.int .i64 s.tick),r,z2,z3,z4,.s pid,.v (.bool pset),.v (.int .i64 palg),aS ptgt,.sl (prules.map aA) .no,.sl (pkids.map aK) .no,ay pobls,.v (.int .i64 s.version)] 67))) i4 (some (.obj [.v (.int .i64 s.tick),r,z2,z3,z4,.s pid,.v (.bool pset),.v (.int .i64 palg),aS ptgt,.sl (prules.map aA) .no,.sl (pkids.map aK) .no,ay pobls,.v (.int .i64 s.version)] 67))=K5:=⟨_,rfl⟩;rw[eK5];have o5:∀k,k≠i4→k≠i5→K5 k=K4 k:=fun k a b=>by rw[←eK5,ag _ _ a,ag _ _ b]
   have kk5:∀k,H k=none→H1 k≠none→nid z1≠some k→K5 k=H1 k:=fun k a b c=>(o5 k (hz4 k a) (hz5 k a b)).trans (kk4 k b c)
   have ow:OwE 134 H K5 5 r (List.take (findD s.cases o.case) xs++([.agg [.s o.case,.s o.subj,.s jy,.sl [] .full,l']]++List.drop (findD s.cases o.case) xs)):=ow5.keep fun id e=>o5 id (hz4 id (ow5.nid e).1) fun e5=>by
    subst e5;rcases ap4 _ e with h|h
    ·rw[m5']at h;cases h
    ·exact(w1.nid h).2.1 h5
   have ol5:OwE 205 H K5 3 l' _:=ol.keep fun id e=>by
    have h2n:K2 id=none:=(ap3 id e).resolve_right (by simp[nid])
    have hz:nid z1≠some id:=fun e1=>by
     have:=kk2 id (w1.nid e1).2.1;rw[h2n]at this;exact(w1.nid e1).2.1 this.symm
    rw[o5 id (hz4 id (ol.nid e).1) (fun e5=>by rw[e5,m5]at h2n;cases h2n),fr4 id (ol.nid e).2.1 hz]
   have hmc:fh H K5 [] (.agg [.s o.case,.s o.subj,.s jy,.sl [] .full,l']) (jj s ⟨o.case,o.subj,jy,[],[]⟩ o.subj [110,101,119]):=⟨.sl [] .full,l',rfl,.inl ⟨rfl,rfl⟩,ol5,(fun i e=>acR),fun y hy=>by cases hy⟩
   have sg4:Ab.Sub g K4:=fun k b hk=>by
    have h1:=hH _ _ hk;have h2:=s1 _ _ h1;rw[kk4 k (by rw[h2];simp) (fun e=>by have:=(w1.nid e).1;rw[h1]at this;cases this)]
    exact agu
   have sg5:Ab.Sub g K5:=by rw[←eK5];exact(sg4.put g5 _).put h4' _
   have hdo:doD aR s o= {s with cases:=s.cases.take (findD s.cases o.case)++ [jj s ⟨o.case,o.subj,jy,[],[]⟩ o.subj [110,101,119]]++s.cases.drop (findD s.cases o.case)}:=by simp[doD,p1]
   refine .mk _ (.refl _) (.refl _) ⟨sg5,_,?_,fun _=>rfl⟩
   rw[hdo];have apr:∀k,nid r=some k→H1 k=none∨nid z1=some k:=fun k e=>(ap4 k e).imp (fun h=>sH3.none h) id
   have hro:∀ {w:AV},apart z1 w→(∀k,nid w=some k→H1 k≠none)→apart r w:=fun ha hw k e1 e2=>(apr k e1).elim (fun h=>hw k e2 h) (fun h=>ha k h e2)
   have hl0:∀k,nid l' =some k→H1 k=none:=fun k e=>(sK.trans sK2).none ((ap3 k e).resolve_right (by simp[nid]))
   have hlr:apart l' r:=fun k e1 e2=>(ap4 k e2).elim (fun h=>(ol.nid e1).2.1 h) (fun h=>(w1.nid h).2.1 (hl0 k e1))
   rw[hxs,←List.map_take,←List.map_drop]at ow;refine oY rfl hpp rfl (Ob aek (ow.bN (fun _ e=>hH.none e)) ⟨.sl [] .full,l',rfl,.inl ⟨rfl,rfl⟩,ol5.bN (fun _ e=>hH.none e),(fun i e=>acR),fun y hy=>⟨(fun i e=>acR),?_⟩⟩) ((w2.keep fun id e=>kk5 id (w2.nid e).1 (w2.nid e).2.1 fun e1=>a12 id e1 e).bN fun _ e=>hH.none e) ((w3.keep fun id e=>kk5 id (w3.nid e).1 (w3.nid e).2.1 fun e1=>a13 id e1 e).bN fun _ e=>hH.none e) ((w4.keep fun id e=>kk5 id (w4.nid e).1 (w4.nid e).2.1 fun e1=>a14 id e1 e).bN fun _ e=>hH.none e) ⟨hro a12 fun k e=>(w2.nid e).2.1,hro a13 fun k e=>(w3.nid e).2.1,hro a14 fun k e=>(w4.nid e).2.1,a23,a24,a34⟩
   simp only[List.mem_cons,List.not_mem_nil,or_false]at hy;rcases hy with rfl|rfl|rfl|rfl
   ·exact hlr
   ·exact fun k e1 e2=>(w2.nid e2).2.1 (hl0 k e1)
   ·exact fun k e1 e2=>(w3.nid e2).2.1 (hl0 k e1)
   ·exact fun k e1 e2=>(w4.nid e2).2.1 (hl0 k e1)
  have k1:(o.kind==1)=false:=by simp[p1]
  have hi0:i0=findD s.cases o.case:=by rw[←ei0,if_neg p1]
  simp only[go_sem,k1]
  by_cases p3:o.kind=3
  ·have k3' :(o.kind==3)=true:=by simp[p3]
   simp only[go_sem,k3'];have hth:=yZ p0 (.inl p3);have hlt:=jz hth;obtain⟨j,ej⟩:∃j,findD s.cases o.case=j:=⟨_,rfl⟩;have hj:j<s.cases.length:=by rw[←ej];exact hlt
   have hjx:j<xs.length:=aco;rw[ej]at hi0;subst hi0;obtain⟨f,l,ex,of,ol,hap,hys⟩:=hmy hjx hj;obtain⟨id1,hg1,o1⟩:=w1.ow afg;have o1' :=o1;obtain⟨cap,rest,ey,hid,hrl,hcap,hsz⟩:=o1';have lA:i0*5=(aq (xs.take i0)).length:=adv;have hidK:K id1=some (.obj (aq (xs.take i0)++(cj s.cases[i0] f l++(aq (xs.drop (i0+1))++rest))) 134):=by
    rw[sK _ _ hid,BU hjx,ex];simp[cj,AV.cells]
   have n14:id1≠i4:=hz4 id1 hg1;have n13:id1≠i3:=fun e=>by rw[e,g3]at hg1;cases hg1
   have n15:id1≠i5:=fun e=>o1.none (by rw[e];exact h5)
   have nf4:∀k,nid f=some k→k≠i3∧k≠i4∧k≠i5∧k≠id1:=fun k e=>⟨(fun e' =>afa),hz4 k (of.nid e).1,hz5 k (of.nid e).1 (of.nid e).2.1,fun e' =>(hys z1 acw).1 k e afR⟩
   have nl4:∀k,nid l=some k→k≠i3∧k≠i4∧k≠i5∧k≠id1:=fun k e=>⟨(fun e' =>afb),hz4 k (ol.nid e).1,hz5 k (ol.nid e).1 (ol.nid e).2.1,fun e' =>(hys z1 acw).2 k e afR⟩
   have hff:=hf.fields _ (aci hj);have hfl:=hf.log _ (aci hj);rw[ej];refine .calls (pick K [i3,i5]) [0,1,2,3,4,5,6,7,8] bx acs rfl ?_;simp only[go_sem,bC (show i5∈ [i3,i5] by simp),k3,k5]
   refine(o1.sub sK).idx (U:=U) (e:=134) i0 rfl hjx nq acr ?_;simp only[go_sem,bC (show i3∈ [i3,i5] by simp),k3,k5]
   refine(show ai Tryz.prog 136 [.ptr id1 (i0*5),.s o.field,.agg [.v (.int .i64 o.val.kind),.v (.int .i64 o.val.n),.s o.val.s]] K _ from ML lA hidK acr (of.sub sK) (s1.trans sK) hff o.field o.val).mono fun r K3 ⟨f',of',e1',fr3,ap3⟩=>?_
   have kk3:∀k,H1 k≠none→k≠id1→nid f≠some k→K3 k=H1 k:=fun k a b c=>(fr3 k (by rw[kK k a];exact a) b c).trans (kK k a)
   have m3:K3 i3=_:=(fr3 i3 (by rw[k3];simp) n13.symm fun e=>(nf4 _ e).1 rfl).trans k3
   have m4:K3 i4=_:=(fr3 i4 (by rw[k4];simp) n14.symm fun e=>(nf4 _ e).2.1 rfl).trans k4
   have m5:K3 i5=_:=(fr3 i5 (by rw[k5];simp) n15.symm fun e=>(nf4 _ e).2.2.1 rfl).trans k5
   refine⟨iG fun k hk=>?_,?_⟩
   ·simp only[List.mem_cons,List.not_mem_nil,or_false]at hk
    rcases hk with rfl|rfl
    ·rw[m3,k3]
    ·rw[m5,k5]
   simp only[go_sem];have sH3:Ab.Sub H K3:=fun k b hk=>ac4
   have ol3:OwE 205 H K3 3 l (s.cases[i0].log.map fU):=ol.keep fun k e=>kk3 k (ol.nid e).2.1 (nl4 k e).2.2.2 (fun e1=>hap k e1 e)
   have hX5:∀y1 y2:AV,Sized 5 (xs.set i0 (.agg (cj s.cases[i0] y1 y2))):=fun y1 y2 z hz=>by
    exact ahi
   have mkO:∀ {G:Heap} {y1 y2:AV},G id1=some (.obj (aq (xs.take i0)++(cj s.cases[i0] y1 y2++(aq (xs.drop (i0+1))++rest))) 134)→Ow 134 G 5 id1 z1 (xs.set i0 (.agg (cj s.cases[i0] y1 y2))):=fun {G y1 y2} hG=>⟨cap,rest,aeE,by rw[hG,tv hjx];simp[AV.cells],afw,aew,hX5 _ _⟩
   have hjs:∀x:AV,i0<(xs.set i0 x).length:=fun x=>by rw[List.length_set];exact hjx
   refine .calls (pick K3 [i3,i5]) [0,1,2,3,4,5,6,7] bx acs rfl ?_;simp only[go_sem,bC (show i5∈ [i3,i5] by simp),m3,m5]
   refine(mkO e1').idx (U:=U) (e:=134) i0 rfl (hjs _) nq acr ?_;simp only[go_sem,bC (show i3∈ [i3,i5] by simp),m3,m5]
   have hha:=sr (h0:=H) (h:=K3) (s:=s) z1 z2 z3 z4 (k:=id1) (c:=s.cases[i0]) (f:=f') (l:=l) lA e1' acr ol3 sH3 hfl o.subj [119,114,105,116,101];rw[hpp,hcC]at hha;simp only[List.cons_append,List.nil_append]at hha;refine hha.mono fun r K4 ⟨l',ol',e1'',fr4,ap4⟩=>?_
   have m3' :K4 i3=_:=(fr4 i3 (by rw[m3];simp) n13.symm fun e=>(nl4 _ e).1 rfl).trans m3
   have m4' :K4 i4=_:=(fr4 i4 (by rw[m4];simp) n14.symm fun e=>(nl4 _ e).2.1 rfl).trans m4
   have m5' :K4 i5=_:=(fr4 i5 (by rw[m5];simp) n15.symm fun e=>(nl4 _ e).2.2.1 rfl).trans m5
   refine⟨iG fun k hk=>?_,?_⟩
   ·simp only[List.mem_cons,List.not_mem_nil,or_false]at hk
    rcases hk with rfl|rfl
    ·rw[m3',m3]
    ·rw[m5',m5]
   simp only[go_sem];simp only[go_sem,m5',m4'];obtain⟨K5,eK5⟩:∃K5,upd K4 i4 (some (.obj [.v (.int .i64 s.tick),z1,z2,z3,z4,.s pid,.v (.bool pset),.v (.int .i64 palg),aS ptgt,.sl (prules.map aA) .no,.sl (pkids.map aK) .no,ay pobls,.v (.int .i64 s.version)] 67))=K5:=⟨_,rfl⟩;rw[eK5];have o5:∀k,k≠i4→K5 k=K4 k:=fun k a=>by rw[←eK5,ag _ _ a]
   have kk5:∀k,H k=none→H1 k≠none→k≠id1→nid f≠some k→nid l≠some k→K5 k=H1 k:=fun k a b c d e=>by
    exact aio
   have of5:OwE 215 H K5 4 f' _:=of'.keep fun id e=>by
    exact agW
   have ol5:OwE 205 H K5 3 l' _:=ol'.keep fun id e=>o5 id (hz4 id (ol'.nid e).1)
   have sg4:Ab.Sub g K4:=fun k b hk=>by
    exact ahs
   have sg5:Ab.Sub g K5:=by rw[←eK5];exact sg4.put h4' _
   have n1' :nid z1=some id1:=o1.nid;have hdo:doD aR s o= {s with cases:=s.cases.modify i0 fun c=>jj s {c with fields:=eT c.fields o.field o.val} o.subj [119,114,105,116,101]}:=by simp[doD,p3,ej]
   refine .mk _ (.refl _) (.refl _) ⟨sg5,_,?_,fun _=>rfl⟩
   rw[hdo];have thr:∀w∈ [z1,z2,z3,z4],∀k,nid w=some k→H1 k≠none:=fun w hw k e=>by
    exact ahp
   refine oY rfl hpp rfl ?_ ((w2.keep fun id e=>kk5 id (w2.nid e).1 (w2.nid e).2.1 (fun e1=>a12 id1 n1' ae7) (fun e1=>(hys z2 acw).1 id e1 e) (fun e1=>(hys z2 acw).2 id e1 e)).bN fun _ e=>hH.none e) ((w3.keep fun id e=>kk5 id (w3.nid e).1 (w3.nid e).2.1 (fun e1=>a13 id1 n1' ae7) (fun e1=>(hys z3 acw).1 id e1 e) (fun e1=>(hys z3 acw).2 id e1 e)).bN fun _ e=>hH.none e) ((w4.keep fun id e=>kk5 id (w4.nid e).1 (w4.nid e).2.1 (fun e1=>a14 id1 n1' ae7) (fun e1=>(hys z4 acw).1 id e1 e) (fun e1=>(hys z4 acw).2 id e1 e)).bN fun _ e=>hH.none e) ⟨a12,a13,a14,a23,a24,a34⟩
   refine B9 (X:=.agg (cj s.cases[i0] f' l')) ((show OwE 134 H K5 5 z1 _ from .inr ⟨id1,hg1,mkO ((o5 id1 n14).trans e1'')⟩).bN (fun _ e=>hH.none e)) hnx (fun k h1 h2 hk=>hlo k h1 h2 hk) fun hh=>⟨f',l',rfl,of5.bN (fun _ e=>hH.none e),ol5.bN (fun _ e=>hH.none e),fun k e1 e2=>?_,fun w hw=>⟨fun k e1 e2=>?_,fun k e1 e2=>?_⟩⟩
   ·rcases ap4 k e2 with h|h
    ·exact(of'.nid e1).2.1 h
    ·rcases ap3 k e1 with h' |h'
     ·exact(ol.nid h).2.1 (sK.none h')
     ·exact hap k h' h
   ·rcases ap3 k e1 with h|h
    ·exact thr w hw k e2 (sK.none h)
    ·exact(hys w hw).1 k h e2
   ·rcases ap4 k e1 with h|h
    ·by_cases h1:k=id1
     ·subst h1;rw[e1']at h;cases h
     ·have:=kk3 k (thr w hw k e2) h1 (fun e=>(hys w hw).1 k e e2)
      rw[h]at this;exact thr w hw k e2 this.symm
    ·exact(hys w hw).2 k h e2
  have k3' :(o.kind==3)=false:=by simp[p3]
  simp only[go_sem,k3']
  by_cases p4:o.kind=4
  ·have k4' :(o.kind==4)=true:=by simp[p4]
   simp only[go_sem,k4'];have hth:=yZ p0 (.inr p4);have hlt:=jz hth;obtain⟨j,ej⟩:∃j,findD s.cases o.case=j:=⟨_,rfl⟩;have hj:j<s.cases.length:=by rw[←ej];exact hlt
   have hjx:j<xs.length:=aco;rw[ej]at hi0;subst hi0;obtain⟨f,l,ex,of,ol,hap,hys⟩:=hmy hjx hj;obtain⟨id1,hg1,o1⟩:=w1.ow afg;have o1' :=o1;obtain⟨cap,rest,ey,hid,hrl,hcap,hsz⟩:=o1';have lA:i0*5=(aq (xs.take i0)).length:=adv;have hidK:K id1=some (.obj (aq (xs.take i0)++(cj s.cases[i0] f l++(aq (xs.drop (i0+1))++rest))) 134):=by
    rw[sK _ _ hid,BU hjx,ex];simp[cj,AV.cells]
   have n14:id1≠i4:=hz4 id1 hg1;have n13:id1≠i3:=fun e=>by rw[e,g3]at hg1;cases hg1
   have n15:id1≠i5:=fun e=>o1.none (by rw[e];exact h5)
   have nf4:∀k,nid f=some k→k≠i3∧k≠i4∧k≠i5∧k≠id1:=fun k e=>⟨(fun e' =>afa),hz4 k (of.nid e).1,hz5 k (of.nid e).1 (of.nid e).2.1,fun e' =>(hys z1 acw).1 k e afR⟩
   have nl4:∀k,nid l=some k→k≠i3∧k≠i4∧k≠i5∧k≠id1:=fun k e=>⟨(fun e' =>afb),hz4 k (ol.nid e).1,hz5 k (ol.nid e).1 (ol.nid e).2.1,fun e' =>(hys z1 acw).2 k e afR⟩
   have hff:=hf.fields _ (aci hj);have hfl:=hf.log _ (aci hj);rw[ej];simp only[go_sem,k5,k3];refine(o1.sub sK).idx (U:=U) (e:=134) i0 rfl hjx nq acr ?_;simp only[go_sem,hidK];have e2:List.take (i0*5+2) (aq (xs.take i0)++(cj s.cases[i0] f l++(aq (xs.drop (i0+1))++rest)))++ [.s o.to]++List.drop (i0*5+2+1) (aq (xs.take i0)++(cj s.cases[i0] f l++(aq (xs.drop (i0+1))++rest)))=aq (xs.take i0)++(cj {s.cases[i0]with state:=o.to} f l++(aq (xs.drop (i0+1))++rest)):=by
    have:=oR (A:=aq (xs.take i0)++ [.s s.cases[i0].id,.s s.cases[i0].owner]) (B:=[.s s.cases[i0].state]) (C:=f::l::(aq (xs.drop (i0+1))++rest)) (X:=[.s o.to]) (k:=i0*5+2) (m:=1) (by rw[lA];simp) rfl rfl
    exact aik
   rw[e2];obtain⟨K3,eK3⟩:∃K3,upd K id1 (some (.obj (aq (xs.take i0)++(cj {s.cases[i0]with state:=o.to} f l++(aq (xs.drop (i0+1))++rest))) 134))=K3:=⟨_,rfl⟩
   rw[eK3];refine⟨by simp only[ach,←lA,cj,List.length_cons,List.length_nil];omega,?_⟩
   have e1' :K3 id1=some (.obj (aq (xs.take i0)++(cj {s.cases[i0]with state:=o.to} f l++(aq (xs.drop (i0+1))++rest))) 134):=by rw[←eK3,ah]
   have fr3:∀k,K k≠none→k≠id1→nid f≠some k→K3 k=K k:=fun k _ hk _=>by rw[←eK3,ag _ _ hk]
   have ap3:∀k,nid f=some k→K k=none∨nid f=some k:=fun k hk=> .inr hk
   have kk3:∀k,H1 k≠none→k≠id1→nid f≠some k→K3 k=H1 k:=fun k a b c=>(fr3 k (by rw[kK k a];exact a) b c).trans (kK k a)
   have m3:K3 i3=_:=(fr3 i3 (by rw[k3];simp) n13.symm fun e=>(nf4 _ e).1 rfl).trans k3
   have m4:K3 i4=_:=(fr3 i4 (by rw[k4];simp) n14.symm fun e=>(nf4 _ e).2.1 rfl).trans k4
   have m5:K3 i5=_:=(fr3 i5 (by rw[k5];simp) n15.symm fun e=>(nf4 _ e).2.2.1 rfl).trans k5
   obtain⟨f',of',ef'⟩:∃f',OwE 215 H K3 4 f' (s.cases[i0].fields.map bz)∧f=f' :=⟨f,of.keep fun k e=>by rw[←eK3,ag _ _ (nf4 k e).2.2.2,kK k (of.nid e).2.1],rfl⟩
   rw[ef']at e1';replace ap3:∀k,nid f' =some k→K k=none∨nid f=some k:=by rw[←ef'];exact ap3
   have sH3:Ab.Sub H K3:=fun k b hk=>ac4
   have ol3:OwE 205 H K3 3 l (s.cases[i0].log.map fU):=ol.keep fun k e=>kk3 k (ol.nid e).2.1 (nl4 k e).2.2.2 (fun e1=>hap k e1 e)
   have hX5:∀y1 y2:AV,Sized 5 (xs.set i0 (.agg (cj ({s.cases[i0]with state:=o.to}:aJ) y1 y2))):=fun y1 y2 z hz=>by
    exact ahi
   have mkO:∀ {G:Heap} {y1 y2:AV},G id1=some (.obj (aq (xs.take i0)++(cj ({s.cases[i0]with state:=o.to}:aJ) y1 y2++(aq (xs.drop (i0+1))++rest))) 134)→Ow 134 G 5 id1 z1 (xs.set i0 (.agg (cj ({s.cases[i0]with state:=o.to}:aJ) y1 y2))):=fun {G y1 y2} hG=>⟨cap,rest,aeE,by rw[hG,tv hjx];simp[AV.cells],afw,aew,hX5 _ _⟩
   have hjs:∀x:AV,i0<(xs.set i0 x).length:=fun x=>by rw[List.length_set];exact hjx
   refine .calls (pick K3 [i3,i5]) [0,1,2,3,4,5,6,7,8,9] bx acs rfl ?_;simp only[go_sem,bC (show i5∈ [i3,i5] by simp),m3,m5]
   refine(mkO e1').idx (U:=U) (e:=134) i0 rfl (hjs _) nq acr ?_;simp only[go_sem,bC (show i3∈ [i3,i5] by simp),m3,m5]
   have hha:=sr (h0:=H) (h:=K3) (s:=s) z1 z2 z3 z4 (k:=id1) (c:=({s.cases[i0]with state:=o.to}:aJ)) (f:=f') (l:=l) lA e1' acr ol3 sH3 hfl o.subj o.to
   rw[hpp,hcC]at hha;simp only[List.cons_append,List.nil_append]at hha;refine hha.mono fun r K4 ⟨l',ol',e1'',fr4,ap4⟩=>?_
   have m3' :K4 i3=_:=(fr4 i3 (by rw[m3];simp) n13.symm fun e=>(nl4 _ e).1 rfl).trans m3
   have m4' :K4 i4=_:=(fr4 i4 (by rw[m4];simp) n14.symm fun e=>(nl4 _ e).2.1 rfl).trans m4
   have m5' :K4 i5=_:=(fr4 i5 (by rw[m5];simp) n15.symm fun e=>(nl4 _ e).2.2.1 rfl).trans m5
   refine⟨iG fun k hk=>?_,?_⟩
   ·simp only[List.mem_cons,List.not_mem_nil,or_false]at hk
    rcases hk with rfl|rfl
    ·rw[m3',m3]
    ·rw[m5',m5]
   simp only[go_sem];simp only[go_sem,m5',m4'];obtain⟨K5,eK5⟩:∃K5,upd K4 i4 (some (.obj [.v (.int .i64 s.tick),z1,z2,z3,z4,.s pid,.v (.bool pset),.v (.int .i64 palg),aS ptgt,.sl (prules.map aA) .no,.sl (pkids.map aK) .no,ay pobls,.v (.int .i64 s.version)] 67))=K5:=⟨_,rfl⟩;rw[eK5];have o5:∀k,k≠i4→K5 k=K4 k:=fun k a=>by rw[←eK5,ag _ _ a]
   have kk5:∀k,H k=none→H1 k≠none→k≠id1→nid f≠some k→nid l≠some k→K5 k=H1 k:=fun k a b c d e=>by
    exact aio
   have of5:OwE 215 H K5 4 f' _:=of'.keep fun id e=>by
    exact agW
   have ol5:OwE 205 H K5 3 l' _:=ol'.keep fun id e=>o5 id (hz4 id (ol'.nid e).1)
   have sg4:Ab.Sub g K4:=fun k b hk=>by
    exact ahs
   have sg5:Ab.Sub g K5:=by rw[←eK5];exact sg4.put h4' _
   have n1' :nid z1=some id1:=o1.nid;have hdo:doD aR s o= {s with cases:=s.cases.modify i0 fun c=>jj s {c with state:=o.to} o.subj o.to}:=by simp[doD,p4,ej]
   refine .mk _ (.refl _) (.refl _) ⟨sg5,_,?_,fun _=>rfl⟩
   rw[hdo];have thr:∀w∈ [z1,z2,z3,z4],∀k,nid w=some k→H1 k≠none:=fun w hw k e=>by
    exact ahp
   refine oY rfl hpp rfl ?_ ((w2.keep fun id e=>kk5 id (w2.nid e).1 (w2.nid e).2.1 (fun e1=>a12 id1 n1' ae7) (fun e1=>(hys z2 acw).1 id e1 e) (fun e1=>(hys z2 acw).2 id e1 e)).bN fun _ e=>hH.none e) ((w3.keep fun id e=>kk5 id (w3.nid e).1 (w3.nid e).2.1 (fun e1=>a13 id1 n1' ae7) (fun e1=>(hys z3 acw).1 id e1 e) (fun e1=>(hys z3 acw).2 id e1 e)).bN fun _ e=>hH.none e) ((w4.keep fun id e=>kk5 id (w4.nid e).1 (w4.nid e).2.1 (fun e1=>a14 id1 n1' ae7) (fun e1=>(hys z4 acw).1 id e1 e) (fun e1=>(hys z4 acw).2 id e1 e)).bN fun _ e=>hH.none e) ⟨a12,a13,a14,a23,a24,a34⟩
   refine B9 (X:=.agg (cj ({s.cases[i0]with state:=o.to}:aJ) f' l')) ((show OwE 134 H K5 5 z1 _ from .inr ⟨id1,hg1,mkO ((o5 id1 n14).trans e1'')⟩).bN (fun _ e=>hH.none e)) hnx (fun k h1 h2 hk=>hlo k h1 h2 hk) fun hh=>⟨f',l',rfl,of5.bN (fun _ e=>hH.none e),ol5.bN (fun _ e=>hH.none e),fun k e1 e2=>?_,fun w hw=>⟨fun k e1 e2=>?_,fun k e1 e2=>?_⟩⟩
   ·rcases ap4 k e2 with h|h
    ·exact(of'.nid e1).2.1 h
    ·rcases ap3 k e1 with h' |h'
     ·exact(ol.nid h).2.1 (sK.none h')
     ·exact hap k h' h
   ·rcases ap3 k e1 with h|h
    ·exact thr w hw k e2 (sK.none h)
    ·exact(hys w hw).1 k h e2
   ·rcases ap4 k e1 with h|h
    ·by_cases h1:k=id1
     ·subst h1;rw[e1']at h;cases h
     ·have:=kk3 k (thr w hw k e2) h1 (fun e=>(hys w hw).1 k e e2)
      rw[h]at this;exact thr w hw k e2 this.symm
    ·exact(hys w hw).2 k h e2
  have k4' :(o.kind==4)=false:=by simp[p4]
  simp only[go_sem,k4'];have kkK:∀k,H k=none→H1 k≠none→K k=H1 k:=fun k _ b=>kK k b
  by_cases p5:o.kind=5
  ·have k5' :(o.kind==5)=true:=by simp[p5]
   simp only[go_sem,k5'];have hrv:0<o.review:=by
    simp only[eU,dK,Bool.and_eq_true]at hform;simpa[okD,p5]using hform.2.1.2
   obtain⟨n,en⟩:∃n:Nat,o.review=((n:Nat):Int)+1:=⟨(o.review - 1).toNat,aco⟩;have w5:IntKind.i64.wrap (o.review - 1)=((n:Nat):Int):=by rw[aY _ (by have:=hr.2;omega)];omega
   have hn5:n<s.reviews.length:=by
    have:fM s o=0:=by simpa[bO,hform,p5]using p0
    unfold fM at this;have e1:wA s.reviews o.review=s.reviews[n]? :=by unfold wA;rw[if_pos aco,show(o.review - 1).toNat=n by omega]
    rw[e1]at this
    by_cases hlt:n<s.reviews.length
    ·exact hlt
    ·rw[List.getElem?_eq_none aco]at this;cases this
   have hnm:n<(s.reviews.map fY).length:=by simpa using hn5
   obtain⟨id2,hg2,o2⟩:=w2.ow (by intro e;rw[e]at hnm;cases hnm)
   have o2' :=o2;obtain⟨cap,rest,ey,hid,hrl,hcap,hsz⟩:=o2';have n24:id2≠i4:=hz4 id2 hg2;have n25:id2≠i5:=hz5 id2 hg2 o2.none;have hidK:=sK _ _ hid;simp only[go_sem,k5,k3,w5];refine(o2.sub sK).idx (U:=U) (e:=143) n rfl hnm acA acr ?_;simp only[go_sem,hidK];have e2:List.take (n*7+6) (aq (s.reviews.map fY)++rest)++ [.v (.bool false)]++List.drop (n*7+6+1) (aq (s.reviews.map fY)++rest)=aq ((s.reviews.modify n fun r=> {r with isOpen:=false}).map fY)++rest:=by
    refine(lp hsz n hnm 6 [.v (.bool false)] (ab9 rfl)).trans ?_
    congr 2
    refine List.ext_getElem acw fun j h1 h2=>?_
    by_cases e:j=n
    ·subst e;simp[fY,AV.cells,Ab.over]
    ·rw[List.getElem_set_ne (Ne.symm e)];simp[Ne.symm e]
   rw[e2];refine⟨by rw[ach,bf hsz];omega,?_⟩
   have k5b:∀b,upd K id2 b i5=_:=fun b=>(ag _ _ n25.symm).trans k5
   have k4b:∀b,upd K id2 b i4=_:=fun b=>(ag _ _ n24.symm).trans k4
   simp only[go_sem,k5b,k4b];have hdo:doD aR s o= {s with reviews:=s.reviews.modify n fun r=> {r with isOpen:=false}}:=by simp[doD,p5,en]
   have kz:∀a b k,H k=none→H1 k≠none→nid z2≠some k→upd (upd K id2 a) i4 b k=H1 k:=fun a b k c d e=>by rw[ag _ _ (hz4 k c),ag _ _ (fun e' =>e (by rw[e'];exact o2.nid)),kK k d]
   refine .mk _ (.refl _) (.refl _) ⟨(Sub.put (i:=id2) sg (hH.none hg2) _).put h4' _,_,?_,fun _=>hi0⟩
   rw[hdo];exact oY rfl hpp rfl ((hC.keepx (z:=z2) acw a12 (kz _ _)).bN (fun _ e=>hH.none e)) (.inr ⟨id2,hH.none hg2,cap,rest,by rw[ey];simp,by rw[ag _ _ n24,ah],by rw[hrl];simp,by simpa using hcap,br (f:=fY) (n:=7) (fun _=>rfl) _⟩) ((w3.keep fun id e=>kz _ _ id (w3.nid e).1 (w3.nid e).2.1 fun e1=>a23 id e1 e).bN fun _ e=>hH.none e) ((w4.keep fun id e=>kz _ _ id (w4.nid e).1 (w4.nid e).2.1 fun e1=>a24 id e1 e).bN fun _ e=>hH.none e) ⟨a12,a13,a14,a23,a24,a34⟩
  have k5' :(o.kind==5)=false:=by simp[p5]
  simp only[go_sem,k5']
  by_cases p6:o.kind=6
  ·have k6' :(o.kind==6)=true:=by simp[p6]
   simp only[go_sem,k6'];simp only[go_sem,k5,k3];have hha6:=FB hSK.rd o.case o.field (Nat.le_trans hf.roles acr);rw[hpp,hcC]at hha6;simp only[List.cons_append,List.nil_append]at hha6;refine hha6.pthen ?_;cases dha:yh s.roles ⟨o.case,o.field⟩
   ·simp only[go_sem]
    simp only[go_sem,k5,k3];have hap1:Rd K 2 (.sl [cY ⟨o.case,o.field⟩] .full) [cY ⟨o.case,o.field⟩]:=.sl adb .full;have hfr:=hf.roles;refine OwE.app (U:=U) (tb:=149) (w4.sub sK) (s1.trans sK) hap1 acA acr acu acA acw acW fun id4 y' K3 g4' hor hw ho2=>?_
    have hor' :K id4=none∨nid z4=some id4:=by
     exact ahb
    have n44:i4≠id4:=fun e=>by rw[←e,g4]at g4';cases g4'
    have n45:i5≠id4:=fun e=>by
     rcases hor' with hor|hor
     ·rw[←e,k5]at hor;cases hor
     ·exact(w4.nid hor).2.1 (by rw[←e];exact h5)
    have m4:K3 i4=_:=(ho2 i4 n44).trans k4;have m5:K3 i5=_:=(ho2 i5 n45).trans k5;simp only[go_sem,m5,hw.rd.fit,hw.rd.cells];simp only[go_sem,aj,n54,m4];have hdo:doD aR s o= {s with roles:=s.roles++ [⟨o.case,o.field⟩]}:=by simp[doD,p6,dha]
    have gid4:g id4=none:=hH.none g4';have kz:∀a b k,H k=none→H1 k≠none→nid z4≠some k→upd (upd K3 i5 a) i4 b k=H1 k:=fun a b k c d e=>by
     have:k≠id4:=fun e' =>by
      rcases hor' with hor|hor
      ·have:=kK k d;rw[e',hor]at this;exact d (by rw[e'];exact this.symm)
      ·exact e (by rw[e'];exact hor)
     rw[ag _ _ (hz4 k c),ag _ _ (hz5 k c d),ho2 k this,kK k d]
    have sg3:Ab.Sub g K3:=fun k b hk=>by rw[ho2 k (fun e=>by rw[e,gid4]at hk;cases hk)];exact sg _ _ hk
    refine .mk _ (.refl _) (.refl _) ⟨(sg3.put g5 _).put h4' _,_,?_,fun _=>hi0⟩
    rw[hdo];have hw' :OwE 149 g K3 2 y' ((s.roles++ [(⟨o.case,o.field⟩:gj)]).map cY):=by rw[List.map_append];exact .inr ⟨id4,gid4,hw⟩
    have hry:∀k,nid y' =some k→H1 k=none∨nid z4=some k:=fun k e=>by
     have:id4=k:=by have:=hw.nid;rw[e]at this;exact(Option.some.inj this).symm
     subst this;exact hor'.imp (fun h=>sK.none h) id
    have har:∀ {w:AV},apart w z4→(∀k,nid w=some k→H1 k≠none)→apart w y' :=fun ha hh k e1 e2=>(hry k e2).elim (fun h=>hh k e1 h) (fun h=>ha k e1 h)
    refine oY rfl hpp rfl ((hC.move (z:=z4) acw a14 (kz _ _) fun w hw k e=>?_).bN (fun _ e=>hH.none e)) ((w2.keep fun id e=>kz _ _ id (w2.nid e).1 (w2.nid e).2.1 fun e1=>a24 id e e1).bN fun _ e=>hH.none e) ((w3.keep fun id e=>kz _ _ id (w3.nid e).1 (w3.nid e).2.1 fun e1=>a34 id e e1).bN fun _ e=>hH.none e) (hw'.keep fun id e=>?_) ⟨a12,a13,har a14 fun k e=>(w1.nid e).2.1,a23,har a24 fun k e=>(w2.nid e).2.1,har a34 fun k e=>(w3.nid e).2.1⟩
    ·simp only[List.mem_cons,List.not_mem_nil,or_false]at hw
     rcases hw with rfl|rfl|rfl|rfl
     ·exact .inr ⟨w,acw,e⟩
     ·exact .inr ⟨w,acw,e⟩
     ·exact .inr ⟨w,acw,e⟩
     ·exact(hry k e).imp id fun h=>⟨z4,acw,h⟩
    ·have:id=id4:=by have:=hw.nid;rw[e]at this;exact Option.some.inj this
     rw[this,ag _ _ n44.symm,ag _ _ n45.symm]
   ·simp only[go_sem]
    simp only[go_sem,k5,k4];have hdo:doD aR s o=s:=by simp[doD,p6,dha]
    rw[hdo];refine .mk _ (.refl _) (.refl _) ⟨sg.put h4' _,_,(hS.keepb fun k hk hk1=>?_).bN fun _ e=>hH.none e,fun _=>hi0⟩
    rw[ag _ _ (hz4 k hk),kK k hk1]
  have k6' :(o.kind==6)=false:=by simp[p6]
  simp only[go_sem,k6']
  by_cases p7:o.kind=7
  ·have k7' :(o.kind==7)=true:=by simp[p7]
   simp only[go_sem,k7'];simp only[go_sem,k3];refine(yN o.text _ (he.sub sg)).pthen ?_;obtain⟨⟨pp,e,a⟩,epp⟩:∃x,aR o.text=x:=⟨_,rfl⟩;obtain⟨qid,qset,qalg,qtgt,qrules,qkids,qobls⟩:=pp;rw[epp];simp only[go_sem,jQ,aK,aP];intro i9 h9;have n95:i5≠i9:=fun e=>by rw[←e,k5]at h9;cases h9
   have n94:i4≠i9:=fun e=>by rw[←e,k4]at h9;cases h9
   simp only[go_sem];have g9:g i9=none:=sg.none h9;have sg9:∀b,Ab.Sub g (upd K i9 b):=fun b=>sg.put g9 b
   have hz9:∀k,H1 k≠none→k≠i9:=fun k hk e=>hk (by have:=kK k hk;rw[e,h9]at this;rw[e];exact this.symm)
   by_cases pe:e=0
   ·have de:(e==0)=true:=by simp[pe]
    have wv:IntKind.i64.wrap (s.version+1)=s.version+1:=aY _ aco;simp only[go_sem,de];simp only[go_sem,aj,n95,n94,n54,k5,k4,wv];have hdo:doD aR s o= {s with policy:=.mk qid qset qalg qtgt qrules qkids qobls,version:=s.version+1}:=by simp[doD,p7,epp,pe]
    have kz:∀a b c k,H k=none→H1 k≠none→upd (upd (upd K i9 a) i5 b) i4 c k=H1 k:=fun a b c k d e=>by rw[ag _ _ (hz4 k d),ag _ _ (hz5 k d e),ag _ _ (hz9 k e),kK k e]
    refine .mk _ (.refl _) (.refl _) ⟨((sg9 _).put g5 _).put h4' _,_,?_,fun _=>hi0⟩
    rw[hdo];exact oY rfl rfl rfl ((hC.keepb (kz _ _ _)).bN (fun _ e=>hH.none e)) ((w2.keepb (kz _ _ _)).bN (fun _ e=>hH.none e)) ((w3.keepb (kz _ _ _)).bN (fun _ e=>hH.none e)) ((w4.keepb (kz _ _ _)).bN (fun _ e=>hH.none e)) ⟨a12,a13,a14,a23,a24,a34⟩
   ·have de:(e==0)=false:=by simp[pe]
    simp only[go_sem,de];simp only[go_sem,aj,n95,n94,k5,k4];have hdo:doD aR s o=s:=by simp[doD,p7,epp,pe]
    rw[hdo];refine .mk _ (.refl _) (.refl _) ⟨(sg9 _).put h4' _,_,(hS.keepb fun k hk hk1=>?_).bN fun _ e=>hH.none e,fun _=>hi0⟩
    rw[ag _ _ (hz4 k hk),ag _ _ (hz9 k hk1),kK k hk1]
  have k7' :(o.kind==7)=false:=by simp[p7]
  simp only[go_sem,k7']
  by_cases p8:o.kind=8
  ·have k8' :(o.kind==8)=true:=by simp[p8]
   simp only[go_sem,k8'];have hrv:0<o.review∧o.review≤1099511627776:=by
    simp only[eU,dK,Bool.and_eq_true]at hform;simpa[okD,p8]using hform.2.1.2
   have htk:¬s.tick>1099511627776 - o.review:=by
    intro hgt;simp[bO,hform,p8,hgt]at p0
   have w8:IntKind.i64.wrap (s.tick+o.review)=s.tick+o.review:=aY _ (by have:=ht.1;omega)
   simp only[go_sem,k5,k3,w8];simp only[go_sem,aj,n54,k4];have hdo:doD aR s o= {s with tick:=s.tick+o.review}:=by simp[doD,p8]
   have kz:∀a b k,H k=none→H1 k≠none→upd (upd K i5 a) i4 b k=H1 k:=fun a b k c d=>by rw[ag _ _ (hz4 k c),ag _ _ (hz5 k c d),kK k d]
   refine .mk _ (.refl _) (.refl _) ⟨(sg.put g5 _).put h4' _,_,?_,fun _=>hi0⟩
   rw[hdo];exact oY rfl hpp rfl ((hC.keepb (kz _ _)).bN (fun _ e=>hH.none e)) ((w2.keepb (kz _ _)).bN (fun _ e=>hH.none e)) ((w3.keepb (kz _ _)).bN (fun _ e=>hH.none e)) ((w4.keepb (kz _ _)).bN (fun _ e=>hH.none e)) ⟨a12,a13,a14,a23,a24,a34⟩
  have k8' :(o.kind==8)=false:=by simp[p8]
  simp only[go_sem,k8'];simp only[go_sem,k5,k4];have hdo:doD aR s o=s:=by simp[doD,p1,p3,p4,p5,p6,p7,p8]
  rw[hdo];refine .mk _ (.refl _) (.refl _) ⟨sg.put h4' _,_,(hS.keepb fun k hk hk1=>?_).bN fun _ e=>hH.none e,fun _=>hi0⟩
  rw[ag _ _ (hz4 k hk),kK k hk1]
 ·have d0:(bO s o !=0)=true:=by simp[p0]
  simp only[go_sem,d0];simp only[go_sem,k5,k4];have hdone:dP aR s o=s:=by simp[dP,p0]
  rw[hdone];refine .mk _ (.refl _) (.refl _) ⟨sg.put h4' _,_,(hS.keepb fun k hk hk1=>?_).bN fun _ e=>hH.none e,fun h=>(p0 h).elim⟩
  rw[ag _ _ (hz4 k hk),kK k hk1]
end Go.Proofs.YtcochaoekecfdaaGreatDoor
namespace Go.Bf
def Lu:Txt:=[112,111,108,105,99,121,32,111,112,101,110,32,112,101,114,109,105,116,117,110,108,101,115,115,32,123,32,125]
def lI:bB:=.mk jy false 6 [] [] [] []
def sD:an:=⟨0,[],[],[],[],lI,0⟩
end Go.Bf
namespace Go.Proofs.YtcochaoekecfdaaGreatDoor
open Go Go.Ab Go.Bf
theorem NG{g K:Heap}{S:an}{y1 y2 y3 y4:AV}{tk ver palg:Int}{pid:Txt}{pset:Bool}{ptgt:fO}{prules:List cN}{pkids:List bB}{pobls:List cD}(h1:S.tick=tk)(h2:S.policy= .mk pid pset palg ptgt prules pkids pobls)(h3:S.version=ver)
  (a:Frz g K y1 (fk S.cases)) (b:Frz g K y2 (ja S.reviews)) (c:Frz g K y3 (jw S.notices)) (d:Frz g K y4 (dI S.roles)):
  Frz g K (.agg [.i tk,y1,y2,y3,y4,.s pid,.b pset,.i palg,aS ptgt,.sl (prules.map aA) .no,.sl (pkids.map aK) .no,ay pobls,.i ver]) (cg S):=by
 have:=uL a b c d;rw[h1,h2,h3,show fV (.mk pid pset palg ptgt prules pkids pobls)= [.s pid,.b pset,.i palg,aS ptgt,.sl (prules.map aA) .no,.sl (pkids.map aK) .no,ay pobls] by simp[fV,aP]]at this
 exact ac8
theorem JT{H:Heap}{i j:Nat}{a b:Option Blk}(c:Option Blk)(h:i≠j):upd (upd (upd H i a) j b) i c=upd (upd H i c) j b:=by
 grind [ah,ag]
theorem Lv:aR Lu=(lI,0,0):=acF
theorem LH(h:Heap)(he:kR h):ai Tryz.prog 26 [] h fun r h' =>r=cg sD∧h' =h:=
 ai.freeze fun g hg _=>by
 replace he:=he.sub hg;refine acn Tryz.func26 11 [.cell 0 67] fun hwf=>?_
 simp only[go_sem];intro i1 h1;simp only[go_sem];refine(yN Lu _ (he.sub (.ak h1))).pthen ?_;rw[Lv];simp only[go_sem,jQ,lI,aK,aS,ay,cy,jy,List.map_nil];intro i2 h2;have n21:=aH h2;have n2:=aC h2;simp only[go_sem,aj,n21.symm];refine .mk _ (.refl _) (.refl _) ⟨?_,cg sD,NG (S:=sD) rfl rfl rfl l9 l9 l9 l9,rfl⟩;rw[JT _ n21.symm];exact((Sub.refl g).put h1 _).put n2 _
theorem rR(s:Txt)(h:Heap):ai Tryz.prog 125 [.s s] h fun r h' =>r=aU (idV s)∧h' =h:=by
 refine acn Tryz.func125 5 [.cell 2 30] fun hwf=>?_
 exact ah0
theorem dM(cat:Int)(name:Txt)(xs:List AV)(q:Perm)(h:Heap):ai Tryz.prog 126 [.i cat,.s name,.sl xs q] h fun r h' =>r= .agg [.i cat,.s name,.sl xs q]∧h' =h:=by
 refine acn Tryz.func126 11 [.cell 6 196] fun hwf=>?_
 exact ah0
theorem Lf{α:Type}(y:AV)(xs:List AV)(ds:List α)(q:α→Bool)(g:FuncId)(cap:List AV)(h:Heap)(hb:Rd h 3 y xs)(hn:xs.length=ds.length)(hl:xs.length≤1000000000)(hx:∀x∈xs,bA x=true)
  (hp:∀i (h1:i<xs.length) (h2:i<ds.length),ai Tryz.prog g (xs[i]::cap) h fun r h' =>r= .b (q ds[i])∧h' =h):
  ai Tryz.prog 252 [y,.fn g cap] h fun r h' =>r= .i (ixD q ds)∧h' =h:=by
 refine acn Tryz.func252 19 [.tmp 4] fun hwf=>?_
 simp only[go_sem,hb.len];refine .intro (fun m ρ h' =>h' =h∧∃i:Nat,i≤xs.length∧m=xs.length - i∧(∀j (hj:j<i) (h2:j<ds.length),q ds[j]=false)∧lk ρ 0=some y∧lk ρ 1=some (.fn g cap)∧lk ρ 7=some (.i xs.length)∧lk ρ 8=some (.i i)) xs.length ?_ ?_
 ·refine⟨rfl,0,aco,rfl,fun j hj=>aco,?_,?_,?_,?_⟩<;>simp only[go_sem]
 ·rintro m ρ h' ⟨rfl,i,hi,rfl,hc,r0,r1,r7,r8⟩
  simp only[go_sem,r7,r8];refine .intro (fun e=>?_) (fun e=>?_)
  ·have hlt:i<xs.length:=ack e
   have hlt2:i<ds.length:=aco;have w1:IntKind.i64.wrap ((i:Int)+1)=((i+1:Nat):Int):=acE;simp only[go_sem,r0,r1,r8];refine hb.idx (e:=205) i rfl hlt acF acr fun p hp1=>?_
   have hld:=hp1.all (U:=U) (ty:=205) acr adl aeb;simp only[go_sem,hld];refine(show ai Tryz.prog g (xs[i]::cap) _ _ from hp i hlt hlt2).pthen ?_
   cases d1:q ds[i]
   ·simp only[go_sem,r8,w1]
    refine⟨_,?_,rfl,i+1,aco,rfl,fun j hj h2=>?_,?_,?_,?_,?_⟩
    ·omega
    ·grind
    all_goals simp only[go_sem,r0,r1,r7]
   ·simp only[go_sem]
    exact .same (.refl _) ⟨ac6,rfl⟩
  ·have hge:i=xs.length:=by grind
   simp only[go_sem];exact .same (.refl _) ⟨acT,rfl⟩
theorem Mw{h:Heap}(x:uy){k:Nat}{subj:Txt}(hk:h k=some (.obj [.s subj] 9)):ai Tryz.prog 216 [fU x,.ptr k 0] h fun r h' =>r= .b (x.actor==subj)∧h' =h:=by
 refine acn Tryz.func216 8 [.tmp 3] fun hwf=>?_
 simp only[go_sem,fU];exact agS
theorem uA{α:Type}(q:α→Bool)(l:List α):decide ((0:Int)≤ixD q l)=l.any q:=by
 unfold ixD
 grind
theorem IY(y:AV)(ds:List uy)(q:uy→Bool)(g:FuncId)(cap:List AV)(h:Heap)(hb:Rd h 3 y (ds.map fU))(hl:ds.length≤1000000000)
  (hp:∀i (h2:i<ds.length),ai Tryz.prog g (fU ds[i]::cap) h fun r h' =>r= .b (q ds[i])∧h' =h):
  ai Tryz.prog 215 [y,.fn g cap] h fun r h' =>r= .b (ds.any q)∧h' =h:=by
 refine acn Tryz.func215 9 [.tmp 4] fun hwf=>?_
 simp only[go_sem];refine(Lf y _ ds q g cap h hb acw acp (ou (fun _=>rfl) _) fun i a b=>by rw[ace];exact hp i b).pthen ?_
 simp only[go_sem,uA];exact acD
theorem Oz{h:Heap}{x:AV}{c:aJ}(hb:RdC h x c)(subj:Txt)(hl:c.log.length≤1000000000):ai Tryz.prog 174 [x,.s subj] h fun r h' =>r=aU (uq c.log subj)∧h' =h:=by
 obtain⟨f,l,rfl,hf,hlg⟩:=hb;refine acn Tryz.func174 13 [.cell 4 30] fun hwf=>?_
 simp only[go_sem];intro i1 h1;simp only[go_sem];intro i2 h2;have n21:=aH h2;have n2:=aC h2;simp only[go_sem];intro i3 h3;have h3' :=aC h3;have n31:=aH h3';have n3:=aC h3';simp only[go_sem];intro i4 h4;have n43:=aH h4;have h4' :=aC h4;have h4'' :=aC h4';have n41:=aH h4'';have n4:=aC h4'';have hs:∀a b d e,Ab.Sub h (upd (upd (upd (upd h i1 a) i2 b) i3 d) i4 e):=fun a b d e=>((((Sub.refl h).put h1 a).put n2 b).put n3 d).put n4 e
 simp only[go_sem,aj,n21.symm,n31.symm,n41.symm];refine(IY l c.log (fun x=>x.actor==subj) _ [.ptr i2 0] _ (hlg.sub (hs _ _ _ _)) hl fun i b=>Mw _ (by grind [aj,fZ,not_false_eq_true])).pthen ?_
 cases d1:c.log.any fun x=>x.actor==subj
 ·exact ahH
 ·exact ahH
def zM(g:bp)(q:Perm):AV:=.agg [.i g.cat,.s g.name,.sl (g.bag.map aU) q]
def GRow(ys:List AV)(gs:List bp):Prop:=ys.length=gs.length∧∀j (h1:j<ys.length) (h2:j<gs.length),∃q,ys[j]=zM gs[j] q
theorem GRow.sized{ys:List AV}{gs:List bp}(h:GRow ys gs):Sized 3 ys:=fun z hz=>by
 obtain⟨i,hi,rfl⟩:=List.mem_iff_getElem.1 hz;obtain⟨q,e⟩:=h.2 i hi (by rw[←h.1];omega)
 rw[e];rfl
theorem GRow.one(g:bp)(q:Perm):GRow [zM g q] [g]:=⟨rfl,fun j h1 h2=>by
 grind⟩
theorem GRow.app{ys zs:List AV}{gs ks:List bp}(h:GRow ys gs)(k:GRow zs ks):GRow (ys++zs) (gs++ks):=⟨by simp[h.1,k.1],fun j h1 h2=>by
 have hl:=h.1
 by_cases e:j<ys.length
 ·rw[List.getElem_append_left e,List.getElem_append_left aco];exact h.2 j e aco
 ·rw[List.getElem_append_right aco,List.getElem_append_right aco]
  simp only[ach]at h1 h2;obtain⟨q,e'⟩:=k.2 (j - ys.length) aco aco;exact⟨q,acp⟩⟩
theorem GRow.weak{ys:List AV}{gs:List bp}(h:GRow ys gs)(q:Perm):Weak (.sl ys q) (bJ gs):=by
 refine .deep _ _ q (by simp[h.1]) (fun k h1 h2=>?_) fun k h1 h2 j h3 h4=>?_
 ·obtain⟨q',e'⟩:=h.2 k h1 acp
  rw[e',ace];rfl
 ·obtain⟨q',e'⟩:=h.2 k h1 acp
  simp only[e',ace];simp only[e',zM,AV.cells]at h3;rcases j with _|_|_|j
  ·exact adK
  ·exact adK
  ·exact ae2
  ·simp at h3;omega
theorem GRow.givs(gs:List bp):GRow (gs.map kX) gs:=⟨acw,fun j h1 h2=>⟨.no,acz⟩⟩
theorem cA:(U 196).sz=3:=acF
theorem fG(g:bp)(q:Perm):Sized 3 [zM g q]:=fun z hz=>afh
def su(c:aJ)(subj:Txt):List bp:=[⟨3,idT,[idV c.id]⟩,⟨3,[111,119,110,101,114],[idV c.owner]⟩,⟨3,[115,116,97,116,101],[idV c.state]⟩,⟨3,[101,118,101,110,116,115],[⟨2,c.log.length,[]⟩]⟩,⟨3,[116,111,111,107],[uq c.log subj]⟩]
def sw(c:aJ):List bp:=match c.log.getLast? with
 |some x=>[⟨3,[108,97,115,116],[idV x.actor]⟩]
 |none=>[]
def fI(l:List cM):List bp:=(l.filter fun f=>decide (f.name.length≤14)).map fun f=>⟨3,[102,95]++f.name,[f.val]⟩
theorem lT(l:List cM)(i:Nat)(h:i<l.length):fI (l.take (i+1))=fI (l.take i)++(if l[i].name.length≤14 then [⟨3,[102,95]++l[i].name,[l[i].val]⟩]else []):=by
 grind [fI,List.take_succ_eq_append_getElem]
theorem qb(c:aJ)(subj:Txt):cH c subj=su c subj++sw c++fI c.fields:=rfl
theorem ET{h:Heap}(c:aJ)(subj:Txt)(hl:c.log.length≤1000000)(hlf:c.fields.length≤1000000):ai Tryz.prog 127 [cr c,.s subj] h fun r h' =>r=bJ (cH c subj)∧h' =h:=by
 refine acn Tryz.func127 77 [.tmp 4] fun hwf=>?_
 simp only[go_sem,cr,mT,gu,sB];intro i1 h1;simp only[go_sem];refine .quiet acs ?_;simp only[go_sem];refine⟨_,rR _ _,?_⟩;simp only[go_sem,aU,idV];refine⟨_,dM _ _ _ _ _,?_⟩;simp only[go_sem];refine⟨_,rR _ _,?_⟩;simp only[go_sem,aU,idV];refine⟨_,dM _ _ _ _ _,?_⟩;simp only[go_sem];refine⟨_,rR _ _,?_⟩;simp only[go_sem,aU,idV];refine⟨_,dM _ _ _ _ _,?_⟩;simp only[go_sem];refine⟨_,dM _ _ _ _ _,?_⟩;simp only[go_sem];refine⟨_,Oz (show RdC _ (.agg [.s c.id,.s c.owner,.s c.state,.sl (c.fields.map bz) .no,.sl (c.log.map fU) .no]) c from rdC _ c) subj aco,?_⟩
 simp only[go_sem,aU];refine⟨_,dM _ _ _ _ _,?_⟩;simp only[go_sem,acd];have hs1:∀b,Ab.Sub h (upd h i1 b):=fun b=>(Sub.refl h).put h1 b
 have hrow5:GRow [.agg [.i 3,.s [105,100],.sl [.agg [.i 5,.i 0,.s c.id]] .full],.agg [.i 3,.s [111,119,110,101,114],.sl [.agg [.i 5,.i 0,.s c.owner]] .full],.agg [.i 3,.s [115,116,97,116,101],.sl [.agg [.i 5,.i 0,.s c.state]] .full],.agg [.i 3,.s [101,118,101,110,116,115],.sl [.agg [.i 2,.i c.log.length,.s []]] .full],.agg [.i 3,.s [116,111,111,107],.sl [aU (uq c.log subj)] .full]] (su c subj):=(GRow.one ⟨3,idT,[idV c.id]⟩ .full).app ((GRow.one ⟨3,[111,119,110,101,114],[idV c.owner]⟩ .full).app ((GRow.one ⟨3,[115,116,97,116,101],[idV c.state]⟩ .full).app ((GRow.one ⟨3,[101,118,101,110,116,115],[⟨2,c.log.length,[]⟩]⟩ .full).app (GRow.one ⟨3,[116,111,111,107],[uq c.log subj]⟩ .full))));simp only[aU]at hrow5;cases d1:decide ((0:Int)<(c.log.length:Int))
 ·have hl0:c.log= []:=List.length_eq_zero_iff.1 acp
  simp only[go_sem];simp only[go_sem,acd];refine .intro (fun m ρ H=>∃(i:Nat) (y:AV) (ys:List AV),Acc U 196 h H y ys∧H i1=some (.obj [.s c.id,.s c.owner,.s c.state,.sl (c.fields.map bz) .no,.sl (c.log.map fU) .no] 134)∧GRow ys (su c subj++fI (c.fields.take i))∧i≤c.fields.length∧m=c.fields.length - i∧lk ρ 5=some y∧lk ρ 2=some (.ptr i1 0)∧lk ρ 55=some (.sl (c.fields.map bz) .no)∧lk ρ 56=some (.i c.fields.length)∧lk ρ 57=some (.i i)) c.fields.length ?_ ?_
  ·refine⟨0,_,_,.full (hs1 _),ah ..,(by have:=hrow5;simpa[fI]using this),aco,rfl,?_,?_,?_,?_,?_⟩<;>simp only[go_sem]
  ·rintro m ρ H ⟨i,y,ys,hy,g1,hrow,hi,rfl,r5,r2,r55,r56,r57⟩
   simp only[go_sem,r56,r57];refine .intro (fun e=>?_) (fun e=>?_)
   ·have hlt:i<c.fields.length:=ack e
    have w1:IntKind.i64.wrap ((i:Int)+1)=((i+1:Nat):Int):=acE;simp only[go_sem,r55,r57];refine .at i acp acz ?_;simp only[go_sem,ace,bz];intro i8 h8;have n81:i1≠i8:=fun e=>acp
    simp only[go_sem];cases d2:decide ((c.fields[i].name.length:Int)≤14)
    ·exact agU
    ·simp only[go_sem,r5]
     have h14:c.fields[i].name.length≤14:=acp;refine⟨by grind [Nat,lim],?_⟩
     refine(dM _ _ _ _ _).pthen ?_;simp only[go_sem];refine(hy.sub (.ak h8)).app (zs:=[zM ⟨3,[102,95]++c.fields[i].name,[c.fields[i].val]⟩ .full]) acr acr (fun k hk=>(Rd.sl (fG _ _) .full:Rd _ 3 _ _).src cA hk) (by rw[cA];exact hrow.sized) (by grind [cA,fG]) (by
      have hln:(fI (c.fields.take i)).length≤i:=aer;simp only[go_sem,hrow.1,List.length_cons,List.length_nil,su];omega) fun y' H' hy' kp=>?_
     exact ahh
   ·have hge:i=c.fields.length:=by grind
    subst hge;rw[List.take_length]at hrow;obtain⟨q,rfl⟩:=hy.row;simp only[go_sem,r5];exact .mk (bJ (cH c subj)) (show Weak (.sl ys q) _ by rw[qb,sw,hl0];simpa using hrow.weak q) hy.1 ⟨rfl,rfl⟩
 ·have hl1:0<c.log.length:=by grind
  simp only[go_sem];have w0:IntKind.i64.wrap ((c.log.length:Int) - 1)=((c.log.length - 1:Nat):Int):=acE;simp only[go_sem,w0];refine .at (c.log.length - 1) acp acz ?_;simp only[go_sem,ace,fU];rw[if_neg (fun hh=>hh.1)]
  refine(rR _ _).pthen ?_;simp only[go_sem,aU,idV];refine(dM _ _ _ _ _).pthen ?_;simp only[go_sem];have hgl:c.log.getLast? =some c.log[c.log.length - 1]:=acp;have hlast:GRow [.agg [.i 3,.s [108,97,115,116],.sl [.agg [.i 5,.i 0,.s c.log[c.log.length - 1].actor]] .full]] (sw c):=by
   unfold sw;rw[hgl];exact GRow.one ⟨3,[108,97,115,116],[idV c.log[c.log.length - 1].actor]⟩ .full
  refine .accs (hs1 _) fun y0 H0 hy0 kp0=>?_
  simp only[go_sem,kp0 _ _ _ (ah ..),acd];refine .intro (fun m ρ H=>∃(i:Nat) (y:AV) (ys:List AV),Acc U 196 h H y ys∧H i1=some (.obj [.s c.id,.s c.owner,.s c.state,.sl (c.fields.map bz) .no,.sl (c.log.map fU) .no] 134)∧GRow ys ((su c subj++sw c)++fI (c.fields.take i))∧i≤c.fields.length∧m=c.fields.length - i∧lk ρ 5=some y∧lk ρ 2=some (.ptr i1 0)∧lk ρ 55=some (.sl (c.fields.map bz) .no)∧lk ρ 56=some (.i c.fields.length)∧lk ρ 57=some (.i i)) c.fields.length ?_ ?_
  ·refine⟨0,_,_,hy0,kp0 _ _ _ (ah ..),(by have:=hrow5.app hlast;simpa[fI]using this),aco,rfl,?_,?_,?_,?_,?_⟩<;>simp only[go_sem]
  ·rintro m ρ H ⟨i,y,ys,hy,g1,hrow,hi,rfl,r5,r2,r55,r56,r57⟩
   simp only[go_sem,r56,r57];refine .intro (fun e=>?_) (fun e=>?_)
   ·have hlt:i<c.fields.length:=ack e
    have w1:IntKind.i64.wrap ((i:Int)+1)=((i+1:Nat):Int):=acE;simp only[go_sem,r55,r57];refine .at i acp acz ?_;simp only[go_sem,ace,bz];intro i8 h8;have n81:i1≠i8:=fun e=>acp
    simp only[go_sem];cases d2:decide ((c.fields[i].name.length:Int)≤14)
    ·exact agU
    ·simp only[go_sem,r5]
     have h14:c.fields[i].name.length≤14:=acp;refine⟨by grind [Nat,lim],?_⟩
     refine(dM _ _ _ _ _).pthen ?_;simp only[go_sem];refine(hy.sub (.ak h8)).app (zs:=[zM ⟨3,[102,95]++c.fields[i].name,[c.fields[i].val]⟩ .full]) acr acr (fun k hk=>(Rd.sl (fG _ _) .full:Rd _ 3 _ _).src cA hk) (by rw[cA];exact hrow.sized) (by grind [cA,fG]) (by
      have hln:(fI (c.fields.take i)).length≤i:=aer;simp only[go_sem,hrow.1,List.length_cons,List.length_nil,su,sw,hgl];omega) fun y' H' hy' kp=>?_
     exact ahh
   ·have hge:i=c.fields.length:=by grind
    subst hge;rw[List.take_length]at hrow;obtain⟨q,rfl⟩:=hy.row;simp only[go_sem,r5];exact .mk (bJ (cH c subj)) (show Weak (.sl ys q) _ by rw[qb];exact hrow.weak q) hy.1 ⟨rfl,rfl⟩
theorem Ed{l:List gj}{subj:Txt}{i:Nat}(h:i<l.length)(h1:l[i].subj=subj)(h2:(dj (l.take i) subj).length<16):dj (l.take (i+1)) subj=dj (l.take i) subj++ [idV l[i].role]:=by
 unfold dj at h2⊢;rw[List.take_succ_eq_append_getElem h,List.filter_append,List.map_append]
 grind [List.length_take,idV,List.take_append,List.take_of_length_le]
theorem ze{l:List gj}{subj:Txt}{i:Nat}(h:i<l.length)(h1:l[i].subj≠subj∨¬(dj (l.take i) subj).length<16):dj (l.take (i+1)) subj=dj (l.take i) subj:=by
 grind [dj,List.take_succ_eq_append_getElem,List.take_append,List.length_take]
theorem F2(l:List gj)(subj:Txt):(dj l subj).length≤16:=by grind [dj,List.length_take]
def cS(s:an)(o:OpD):List bp:=[⟨1,idT,[idV o.subj]⟩,⟨1,[114,111,108,101],dj s.roles o.subj⟩,⟨2,[110,97,109,101],[idV (jF o.kind)]⟩]
theorem xZ{s:an}(hf:Few s)(id:Txt):(bw s.cases id).log.length≤1000000∧(bw s.cases id).fields.length≤1000000:=by
 cases e:bZ s.cases id
 ·rw[CJ e];decide
 ·rw[CI e];exact⟨hf.log _ acw,hf.fields _ acw⟩
theorem CD(c:aJ)(subj:Txt):(cH c subj).length≤6+c.fields.length:=by
 grind [qb,ach,sw,fI,acd,List.length_filter_le,su]
theorem ju{h G:Heap}{i:Nat}(hs:Ab.Sub h G)(hi:G i=none):h i=none:=hs.none hi
theorem Cn:(U 30).sz=3:=acF
theorem Qh{h:Heap}{x:AV}{s:an}(hb:RdS h x s)(o:OpD)(hf:Few s)(hk:i64 o.kind):ai Tryz.prog 70 [x,opA o] h fun r h' =>r=bJ (fA s o)∧h' =h:=by
 have hca:=fun(G:Heap) (hG:Ab.Sub h G)=>BM (hb.sub hG) o.case hf
 obtain⟨y1,y2,y3,y4,rfl,⟨xs,hc,hn,hcs⟩,h2,h3,h4⟩:=hb;cases hpp:s.policy with
 |mk pid pset palg ptgt prules pkids pobls=>
 have hcC:fV (.mk pid pset palg ptgt prules pkids pobls)= [.s pid,.b pset,.i palg,aS ptgt,.sl (prules.map aA) .no,.sl (pkids.map aK) .no,ay pobls]:=afq;rw[hpp,hcC]at hca;simp only[List.cons_append,List.nil_append]at hca;have hfr:=hf.roles;refine acn Tryz.func70 99 [.tmp 4] fun hwf=>?_
 simp only[go_sem,hcC,opA,opC,List.cons_append,List.nil_append];intro i1 h1;simp only[go_sem];intro i2 h2';have n21:=aH h2';have n2:=aC h2';simp only[go_sem,aj,n21.symm,h4.len,acd];obtain⟨H,eH⟩:∃H,upd (upd h i1 (some (.obj [.i s.tick,y1,y2,y3,y4,.s pid,.b pset,.i palg,aS ptgt,.sl (prules.map aA) .no,.sl (pkids.map aK) .no,ay pobls,.i s.version] 67))) i2 (some (.obj (opC o) 32))=H:=⟨_,rfl⟩;have hH:Ab.Sub h H:=adq;have g1:H i1=some (.obj [.i s.tick,y1,y2,y3,y4,.s pid,.b pset,.i palg,aS ptgt,.sl (prules.map aA) .no,.sl (pkids.map aK) .no,ay pobls,.i s.version] 67):=adY;have g2:H i2=some (.obj (opC o) 32):=adR;simp only[opC]at eH g2;rw[eH];clear eH;refine .intro (fun m ρ G=>∃(i:Nat) (y:AV),Acc U 30 H G y ((dj (s.roles.take i) o.subj).map aU)∧i≤s.roles.length∧m=s.roles.length - i∧lk ρ 5=some y∧lk ρ 2=some (.ptr i1 0)∧lk ρ 3=some (.ptr i2 0)∧lk ρ 12=some y4∧lk ρ 13=some (.i s.roles.length)∧lk ρ 14=some (.i i)) s.roles.length ?_ ?_
 ·refine⟨0,_,.full (.refl _),aco,rfl,?_,?_,?_,?_,?_,?_⟩<;>simp only[go_sem,dj,List.take_zero,List.filter_nil,List.map_nil]
 ·rintro m ρ G ⟨i,y,hy,hi,rfl,r5,r2,r3,r12,r13,r14⟩
  have k1:=hy.1 _ _ g1;have k2:=hy.1 _ _ g2;simp only[go_sem,r13,r14];refine .intro (fun e=>?_) (fun e=>?_)
  ·have hlt:i<s.roles.length:=ack e
   have w1:=acj i aco;simp only[go_sem,r12,r14];refine(h4.sub (hH.trans hy.1)).idx (e:=149) i rfl acN HS acr fun p hp1=>?_
   have hld:=hp1.all (U:=U) (ty:=149) acA (by rw[HS,ace];rfl) ac3
   simp only[go_sem,hld,ace,cY];intro i7 h7;have n71:i1≠i7:=fun e=>by rw[←e,k1]at h7;cases h7
   have n72:i2≠i7:=fun e=>by rw[←e,k2]at h7;cases h7
   simp only[go_sem,aj,n72,k2,r3];have hy7:=hy.sub (.ak h7 (k:=some (.obj [.s s.roles[i].subj,.s s.roles[i].role] 149)));have lr:=F2 (s.roles.take i) o.subj;cases d1:(s.roles[i].subj==o.subj)
   ·have p1:s.roles[i].subj≠o.subj:=by simpa using d1
    simp only[go_sem,r14,w1];refine⟨_,?_,i+1,y,by rw[ze hlt (.inl p1)];exact hy7,aco,rfl,?_,?_,?_,?_,?_,?_⟩
    ·omega
    all_goals simp only[go_sem,r5,r2,r3,r12,r13]
   ·have p1:s.roles[i].subj=o.subj:=by simpa using d1
    simp only[go_sem,r5,hy.len,acd];cases d2:decide (((dj (s.roles.take i) o.subj).length:Int)<16)
    ·have p2:¬(dj (s.roles.take i) o.subj).length<16:=by have:=acg d2;omega
     simp only[go_sem,r14,w1];refine⟨_,?_,i+1,y,by rw[ze hlt (.inr p2)];exact hy7,aco,rfl,?_,?_,?_,?_,?_,?_⟩
     ·omega
     all_goals simp only[go_sem,r5,r2,r3,r12,r13]
    ·have p2:(dj (s.roles.take i) o.subj).length<16:=by have:=acf d2;omega
     simp only[go_sem,r5];refine(rR _ _).pthen ?_;simp only[go_sem,aU,idV];refine hy7.app (zs:=[aU (idV s.roles[i].role)]) (by rw[Cn];decide) acu (fun k hk=>(Rd.sl (fun z hz=>afh) .full:Rd _ 3 _ _).src Cn hk) (by rw[Cn];exact br (f:=aU) (fun _=>rfl) _) (by rw[Cn];exact br (f:=aU) (fun _=>rfl) [idV s.roles[i].role]) adF fun y' H' hy' kp=>?_
     simp only[go_sem,r14,w1];refine⟨_,?_,i+1,y',by rw[Ed hlt p1 p2,List.map_append];exact hy',aco,rfl,?_,?_,?_,?_,?_,?_⟩
     ·omega
     all_goals simp only[go_sem,r2,r3,r12,r13]
  ·have hge:i=s.roles.length:=by have:=acg e;omega
   subst hge;rw[List.take_length]at hy;simp only[go_sem];obtain⟨q5,rfl⟩:=hy.row;refine .quiet acs ?_;simp only[go_sem,k2,r3];refine⟨_,rR _ _,?_⟩;simp only[go_sem,aU,idV];refine⟨_,dM _ _ _ _ _,?_⟩;simp only[go_sem,r5];refine⟨_,dM _ _ _ _ _,?_⟩;simp only[go_sem,k2,r3];refine⟨_,Am _ hk _,?_⟩;simp only[go_sem];refine⟨_,rR _ _,?_⟩;simp only[go_sem,aU,idV];refine⟨_,dM _ _ _ _ _,?_⟩;simp only[go_sem,k2,r3];have hak:=fun(G:Heap)=>ET (h:=G) (bw s.cases o.case) o.subj (xZ hf o.case).1 (xZ hf o.case).2
   simp only[cr,mT,gu,sB]at hak;have hakl:=CD (bw s.cases o.case) o.subj;have hakf:=(xZ hf o.case).2;have hr0:GRow [.agg [.i 1,.s [105,100],.sl [.agg [.i 5,.i 0,.s o.subj]] .full],.agg [.i 1,.s [114,111,108,101],.sl ((dj s.roles o.subj).map aU) q5],.agg [.i 2,.s [110,97,109,101],.sl [.agg [.i 5,.i 0,.s (jF o.kind)]] .full]] (cS s o):=(GRow.one ⟨1,idT,[idV o.subj]⟩ .full).app ((GRow.one ⟨1,[114,111,108,101],dj s.roles o.subj⟩ q5).app (GRow.one ⟨2,[110,97,109,101],[idV (jF o.kind)]⟩ .full))
   by_cases pf:o.field= []
   ·have df:(o.field==([]:Txt))=true:=by simp[pf]
    simp only[go_sem,k2,r3,df]
    by_cases pt:o.to= []
    ·have dt:(o.to==([]:Txt))=true:=by simp[pt]
     simp only[go_sem,k1,r2,dt];refine(dM _ _ _ _ _).pthen ?_;simp only[go_sem];refine .accs hy.1 fun y1 G1 hy1 kp1=>?_
     have k1_1:=kp1 _ _ _ k1;have k2_1:=kp1 _ _ _ k2;have hr1:=hr0.app (GRow.one (⟨4,[110,111,119],[⟨4,s.tick,[]⟩]⟩:bp) .full);simp only[go_sem,k1_1,k2_1,r2,r3];refine(hca _ (hH.trans hy1.1)).pthen ?_;simp only[go_sem,cr,mT,gu,sB];intro i20 h20;have n21:i1≠i20:=fun e=>by rw[←e,k1_1]at h20;cases h20
     have n22:i2≠i20:=fun e=>by rw[←e,k2_1]at h20;cases h20
     simp only[go_sem];obtain⟨q2,eq2⟩:=hy1.row;cases dth:bZ s.cases o.case
     ·simp only[go_sem]
      exact .mk (bJ (fA s o)) (show Weak y1 _ by rw[eq2,show fA s o=(cS s o++ [(⟨4,[110,111,119],[⟨4,s.tick,[]⟩]⟩:bp)]) by simp[fA,cS,dth,pf,pt]];exact hr1.weak q2) ((hH.trans hy1.1).put (ju (hH.trans hy1.1) h20) _) ⟨rfl,rfl⟩
     ·simp only[go_sem,aj,n22,k2_1,r3]
      by_cases p6:o.kind=6
      ·have d6:(o.kind !=6)=false:=by simp[p6]
       simp only[go_sem,d6];exact .mk (bJ (fA s o)) (show Weak y1 _ by rw[eq2,show fA s o=(cS s o++ [(⟨4,[110,111,119],[⟨4,s.tick,[]⟩]⟩:bp)]) by simp[fA,cS,dth,p6,pf,pt]];exact hr1.weak q2) ((hH.trans hy1.1).put (ju (hH.trans hy1.1) h20) _) ⟨rfl,rfl⟩
      ·have d6:(o.kind !=6)=true:=by simp[p6]
       simp only[go_sem,aj,n22,k2_1,r3,d6];refine(hak _).pthen ?_;simp only[go_sem,bJ];refine(hy1.sub (.ak h20)).app (zs:=(cH (bw s.cases o.case) o.subj).map kX) aeF acu (fun k hk=>(eJ kX 3 (fun _=>rfl) _ _).src cA hk) (by rw[cA];exact hr1.sized) ad1 adk fun yz Gz hyz kpz=>?_
       simp only[go_sem];obtain⟨qz,eqz⟩:=hyz.row;exact .mk (bJ (fA s o)) (show Weak yz _ by rw[eqz,show fA s o=(cS s o++ [(⟨4,[110,111,119],[⟨4,s.tick,[]⟩]⟩:bp)])++cH (bw s.cases o.case) o.subj by simp[fA,cS,dth,p6,pf,pt]];exact(hr1.app (GRow.givs _)).weak qz) (hH.trans hyz.1) ⟨rfl,rfl⟩
    ·have dt:(o.to==([]:Txt))=false:=by simp[pt]
     simp only[go_sem,k2,r3,dt];refine(rR _ _).pthen ?_;simp only[go_sem,aU,idV];refine(dM _ _ _ _ _).pthen ?_;simp only[go_sem];refine .accs hy.1 fun y3 G3 hy3 kp3=>?_
     have k1_3:=kp3 _ _ _ k1;have k2_3:=kp3 _ _ _ k2;have hr3:=hr0.app (GRow.one (⟨2,[116,111],[idV o.to]⟩:bp) .full);simp only[go_sem,k1_3,r2];refine(dM _ _ _ _ _).pthen ?_;simp only[go_sem];refine hy3.app (zs:=[zM (⟨4,[110,111,119],[⟨4,s.tick,[]⟩]⟩) .full]) aeF acu (fun k hk=>(Rd.sl (fG _ _) .full:Rd _ 3 _ _).src cA hk) (by rw[cA];exact hr3.sized) afQ ads fun y4 G4 hy4 kp4=>?_
     have k1_4:=kp4 _ _ _ k1_3;have k2_4:=kp4 _ _ _ k2_3;have hr4:=hr3.app (GRow.one (⟨4,[110,111,119],[⟨4,s.tick,[]⟩]⟩:bp) .full);simp only[go_sem,k1_4,k2_4,r2,r3];refine(hca _ (hH.trans hy4.1)).pthen ?_;simp only[go_sem,cr,mT,gu,sB];intro i50 h50;have n51:i1≠i50:=fun e=>by rw[←e,k1_4]at h50;cases h50
     have n52:i2≠i50:=fun e=>by rw[←e,k2_4]at h50;cases h50
     simp only[go_sem];obtain⟨q5,eq5⟩:=hy4.row;cases dth:bZ s.cases o.case
     ·simp only[go_sem]
      exact .mk (bJ (fA s o)) (show Weak y4 _ by rw[eq5,show fA s o=((cS s o++ [(⟨2,[116,111],[idV o.to]⟩:bp)])++ [(⟨4,[110,111,119],[⟨4,s.tick,[]⟩]⟩:bp)]) by simp[fA,cS,dth,pf,pt]];exact hr4.weak q5) ((hH.trans hy4.1).put (ju (hH.trans hy4.1) h50) _) ⟨rfl,rfl⟩
     ·simp only[go_sem,aj,n52,k2_4,r3]
      by_cases p6:o.kind=6
      ·have d6:(o.kind !=6)=false:=by simp[p6]
       simp only[go_sem,d6];exact .mk (bJ (fA s o)) (show Weak y4 _ by rw[eq5,show fA s o=((cS s o++ [(⟨2,[116,111],[idV o.to]⟩:bp)])++ [(⟨4,[110,111,119],[⟨4,s.tick,[]⟩]⟩:bp)]) by simp[fA,cS,dth,p6,pf,pt]];exact hr4.weak q5) ((hH.trans hy4.1).put (ju (hH.trans hy4.1) h50) _) ⟨rfl,rfl⟩
      ·have d6:(o.kind !=6)=true:=by simp[p6]
       simp only[go_sem,aj,n52,k2_4,r3,d6];refine(hak _).pthen ?_;simp only[go_sem,bJ];refine(hy4.sub (.ak h50)).app (zs:=(cH (bw s.cases o.case) o.subj).map kX) aeF acu (fun k hk=>(eJ kX 3 (fun _=>rfl) _ _).src cA hk) (by rw[cA];exact hr4.sized) ad1 adk fun yz Gz hyz kpz=>?_
       simp only[go_sem];obtain⟨qz,eqz⟩:=hyz.row;exact .mk (bJ (fA s o)) (show Weak yz _ by rw[eqz,show fA s o=((cS s o++ [(⟨2,[116,111],[idV o.to]⟩:bp)])++ [(⟨4,[110,111,119],[⟨4,s.tick,[]⟩]⟩:bp)])++cH (bw s.cases o.case) o.subj by simp[fA,cS,dth,p6,pf,pt]];exact(hr4.app (GRow.givs _)).weak qz) (hH.trans hyz.1) ⟨rfl,rfl⟩
   ·have df:(o.field==([]:Txt))=false:=by simp[pf]
    simp only[go_sem,k2,r3,df];refine(rR _ _).pthen ?_;simp only[go_sem,aU,idV];refine(dM _ _ _ _ _).pthen ?_;simp only[go_sem];refine .accs hy.1 fun y6 G6 hy6 kp6=>?_
    have k1_6:=kp6 _ _ _ k1;have k2_6:=kp6 _ _ _ k2;have hr6:=hr0.app (GRow.one (⟨2,[102,105,101,108,100],[idV o.field]⟩:bp) .full);simp only[go_sem,k2_6,r3]
    by_cases pt:o.to= []
    ·have dt:(o.to==([]:Txt))=true:=by simp[pt]
     simp only[go_sem,k1_6,r2,dt];refine(dM _ _ _ _ _).pthen ?_;simp only[go_sem];refine hy6.app (zs:=[zM (⟨4,[110,111,119],[⟨4,s.tick,[]⟩]⟩) .full]) aeF acu (fun k hk=>(Rd.sl (fG _ _) .full:Rd _ 3 _ _).src cA hk) (by rw[cA];exact hr6.sized) afQ ads fun y7 G7 hy7 kp7=>?_
     have k1_7:=kp7 _ _ _ k1_6;have k2_7:=kp7 _ _ _ k2_6;have hr7:=hr6.app (GRow.one (⟨4,[110,111,119],[⟨4,s.tick,[]⟩]⟩:bp) .full);simp only[go_sem,k1_7,k2_7,r2,r3];refine(hca _ (hH.trans hy7.1)).pthen ?_;simp only[go_sem,cr,mT,gu,sB];intro i80 h80;have n81:i1≠i80:=fun e=>by rw[←e,k1_7]at h80;cases h80
     have n82:i2≠i80:=fun e=>by rw[←e,k2_7]at h80;cases h80
     simp only[go_sem];obtain⟨q8,eq8⟩:=hy7.row;cases dth:bZ s.cases o.case
     ·simp only[go_sem]
      exact .mk (bJ (fA s o)) (show Weak y7 _ by rw[eq8,show fA s o=((cS s o++ [(⟨2,[102,105,101,108,100],[idV o.field]⟩:bp)])++ [(⟨4,[110,111,119],[⟨4,s.tick,[]⟩]⟩:bp)]) by simp[fA,cS,dth,pf,pt]];exact hr7.weak q8) ((hH.trans hy7.1).put (ju (hH.trans hy7.1) h80) _) ⟨rfl,rfl⟩
     ·simp only[go_sem,aj,n82,k2_7,r3]
      by_cases p6:o.kind=6
      ·have d6:(o.kind !=6)=false:=by simp[p6]
       simp only[go_sem,d6];exact .mk (bJ (fA s o)) (show Weak y7 _ by rw[eq8,show fA s o=((cS s o++ [(⟨2,[102,105,101,108,100],[idV o.field]⟩:bp)])++ [(⟨4,[110,111,119],[⟨4,s.tick,[]⟩]⟩:bp)]) by simp[fA,cS,dth,p6,pf,pt]];exact hr7.weak q8) ((hH.trans hy7.1).put (ju (hH.trans hy7.1) h80) _) ⟨rfl,rfl⟩
      ·have d6:(o.kind !=6)=true:=by simp[p6]
       simp only[go_sem,aj,n82,k2_7,r3,d6];refine(hak _).pthen ?_;simp only[go_sem,bJ];refine(hy7.sub (.ak h80)).app (zs:=(cH (bw s.cases o.case) o.subj).map kX) aeF acu (fun k hk=>(eJ kX 3 (fun _=>rfl) _ _).src cA hk) (by rw[cA];exact hr7.sized) ad1 adk fun yz Gz hyz kpz=>?_
       simp only[go_sem];obtain⟨qz,eqz⟩:=hyz.row;exact .mk (bJ (fA s o)) (show Weak yz _ by rw[eqz,show fA s o=((cS s o++ [(⟨2,[102,105,101,108,100],[idV o.field]⟩:bp)])++ [(⟨4,[110,111,119],[⟨4,s.tick,[]⟩]⟩:bp)])++cH (bw s.cases o.case) o.subj by simp[fA,cS,dth,p6,pf,pt]];exact(hr7.app (GRow.givs _)).weak qz) (hH.trans hyz.1) ⟨rfl,rfl⟩
    ·have dt:(o.to==([]:Txt))=false:=by simp[pt]
     simp only[go_sem,k2_6,r3,dt];refine(rR _ _).pthen ?_;simp only[go_sem,aU,idV];refine(dM _ _ _ _ _).pthen ?_;simp only[go_sem];refine hy6.app (zs:=[zM (⟨2,[116,111],[idV o.to]⟩) .full]) aeF acu (fun k hk=>(Rd.sl (fG _ _) .full:Rd _ 3 _ _).src cA hk) (by rw[cA];exact hr6.sized) afQ ads fun y9 G9 hy9 kp9=>?_
     have k1_9:=kp9 _ _ _ k1_6;have k2_9:=kp9 _ _ _ k2_6;have hr9:=hr6.app (GRow.one (⟨2,[116,111],[idV o.to]⟩:bp) .full);simp only[go_sem,k1_9,r2];refine(dM _ _ _ _ _).pthen ?_;simp only[go_sem];refine hy9.app (zs:=[zM (⟨4,[110,111,119],[⟨4,s.tick,[]⟩]⟩) .full]) aeF acu (fun k hk=>(Rd.sl (fG _ _) .full:Rd _ 3 _ _).src cA hk) (by rw[cA];exact hr9.sized) afQ ads fun y10 G10 hy10 kp10=>?_
     have k1_10:=kp10 _ _ _ k1_9;have k2_10:=kp10 _ _ _ k2_9;have hr10:=hr9.app (GRow.one (⟨4,[110,111,119],[⟨4,s.tick,[]⟩]⟩:bp) .full);simp only[go_sem,k1_10,k2_10,r2,r3];refine(hca _ (hH.trans hy10.1)).pthen ?_;simp only[go_sem,cr,mT,gu,sB];intro i110 h110;have n111:i1≠i110:=fun e=>by rw[←e,k1_10]at h110;cases h110
     have n112:i2≠i110:=fun e=>by rw[←e,k2_10]at h110;cases h110
     simp only[go_sem];obtain⟨q11,eq11⟩:=hy10.row;cases dth:bZ s.cases o.case
     ·simp only[go_sem]
      exact .mk (bJ (fA s o)) (show Weak y10 _ by rw[eq11,show fA s o=(((cS s o++ [(⟨2,[102,105,101,108,100],[idV o.field]⟩:bp)])++ [(⟨2,[116,111],[idV o.to]⟩:bp)])++ [(⟨4,[110,111,119],[⟨4,s.tick,[]⟩]⟩:bp)]) by simp[fA,cS,dth,pf,pt]];exact hr10.weak q11) ((hH.trans hy10.1).put (ju (hH.trans hy10.1) h110) _) ⟨rfl,rfl⟩
     ·simp only[go_sem,aj,n112,k2_10,r3]
      by_cases p6:o.kind=6
      ·have d6:(o.kind !=6)=false:=by simp[p6]
       simp only[go_sem,d6];exact .mk (bJ (fA s o)) (show Weak y10 _ by rw[eq11,show fA s o=(((cS s o++ [(⟨2,[102,105,101,108,100],[idV o.field]⟩:bp)])++ [(⟨2,[116,111],[idV o.to]⟩:bp)])++ [(⟨4,[110,111,119],[⟨4,s.tick,[]⟩]⟩:bp)]) by simp[fA,cS,dth,p6,pf,pt]];exact hr10.weak q11) ((hH.trans hy10.1).put (ju (hH.trans hy10.1) h110) _) ⟨rfl,rfl⟩
      ·have d6:(o.kind !=6)=true:=by simp[p6]
       simp only[go_sem,aj,n112,k2_10,r3,d6];refine(hak _).pthen ?_;simp only[go_sem,bJ];refine(hy10.sub (.ak h110)).app (zs:=(cH (bw s.cases o.case) o.subj).map kX) aeF acu (fun k hk=>(eJ kX 3 (fun _=>rfl) _ _).src cA hk) (by rw[cA];exact hr10.sized) ad1 adk fun yz Gz hyz kpz=>?_
       simp only[go_sem];obtain⟨qz,eqz⟩:=hyz.row;exact .mk (bJ (fA s o)) (show Weak yz _ by rw[eqz,show fA s o=(((cS s o++ [(⟨2,[102,105,101,108,100],[idV o.field]⟩:bp)])++ [(⟨2,[116,111],[idV o.to]⟩:bp)])++ [(⟨4,[110,111,119],[⟨4,s.tick,[]⟩]⟩:bp)])++cH (bw s.cases o.case) o.subj by simp[fA,cS,dth,p6,pf,pt]];exact(hr10.app (GRow.givs _)).weak qz) (hH.trans hyz.1) ⟨rfl,rfl⟩
end Go.Proofs.YtcochaoekecfdaaGreatDoor
