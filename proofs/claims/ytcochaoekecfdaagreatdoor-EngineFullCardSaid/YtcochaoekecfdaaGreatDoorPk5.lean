/- The law EngineFull: pack 5 of its texts. -/
import Derived.Lib.ItoaLen
import Derived.WalkKit
import Derived.Lib.Walk
import Derived.Lib.SliceRun
import Derived.Lib.AppendZerosOnto
import Derived.Test.YtcochaoekecfdaaGreatDoorPk1
import Derived.Test.YtcochaoekecfdaaGreatDoorPk2
import Derived.Test.YtcochaoekecfdaaGreatDoorPk3
import Derived.Test.YtcochaoekecfdaaGreatDoorPk4
set_option linter.unusedSimpArgs false
set_option linter.unusedVariables false
set_option maxRecDepth 100000
namespace Go.Bf
open Go Go.Ab
def jH(a b:bM):Bool:=a.attr.cat==b.attr.cat && (a.attr.name==b.attr.name && (a.attr.must==b.attr.must && (a.op==b.op && (a.val.kind==b.val.kind && (a.val.n==b.val.n && a.val.s==b.val.s)))))
def oA(a b:aM):Bool:=a.op==b.op && (a.val.kind==b.val.kind && (a.val.n==b.val.n && (a.val.s==b.val.s && (a.attr.cat==b.attr.cat && (a.attr.name==b.attr.name && a.attr.must==b.attr.must)))))
def qu(a b:cD):Bool:=a.on==b.on && (a.kind==b.kind && a.arg==b.arg)
def eqL{α:Type}(f:α→α→Bool):List α→List α→Bool
 | [],[]=>true
 |x::a,y::b=>f x y && eqL f a b
 |_,_=>false
theorem cV{α:Type}{f:α→α→Bool}:∀ {a b:List α},a.length=b.length→(∀j (h1:j<a.length) (h2:j<b.length),f a[j] b[j]=true)→eqL f a b=true
 | [],[],_,_=>rfl
 |x::a,y::b,hl,h=>by
  simp only[eqL,Bool.and_eq_true];exact⟨h 0 acw acw,cV acp fun j h1 h2=>h (j+1) acp acp⟩
theorem gT{α:Type}{f:α→α→Bool}:∀ {a b:List α},a.length≠b.length→eqL f a b=false
 | [],[],h=>aco
 | [],_::_,_=>rfl
 |_::_,[],_=>rfl
 |x::a,y::b,h=>by
  simp only[eqL];rw[gT acp,Bool.and_false]
theorem jh{α:Type}{f:α→α→Bool}:∀ {a b:List α} (j:Nat) (h1:j<a.length) (h2:j<b.length),f a[j] b[j]=false→eqL f a b=false
 |x::a,y::b,0,_,_,h=>by grind [eqL]
 |x::a,y::b,j+1,h1,h2,h=>by
  simp only[eqL];rw[jh j acp acp acp,Bool.and_false]
theorem si{α:Type}{f:α→α→Bool}(hf:∀x y,f x y=true↔x=y):∀ {a b:List α},eqL f a b=true↔a=b
 | [],[]=>by simp[eqL]
 | [],_::_=>by simp[eqL]
 |_::_,[]=>by simp[eqL]
 |x::a,y::b=>by simp[eqL,hf,si hf]
theorem Ff(a b:bM):jH a b=true↔a=b:=by
 obtain⟨⟨a1,a2,a3⟩,a4,a5,a6,a7⟩:=a;obtain⟨⟨b1,b2,b3⟩,b4,b5,b6,b7⟩:=b;simp[jH,and_assoc]
theorem Iu(a b:aM):oA a b=true↔a=b:=by
 obtain⟨a4,⟨a5,a6,a7⟩,⟨a1,a2,a3⟩⟩:=a;obtain⟨b4,⟨b5,b6,b7⟩,⟨b1,b2,b3⟩⟩:=b;simp[oA,and_assoc]
theorem C1(a b:cD):qu a b=true↔a=b:=by cases a;cases b;simp[qu]
end Go.Bf
namespace Go.Proofs.YtcochaoekecfdaaGreatDoor
open Go Go.Ab Go.Bf
theorem Ci(a b:List bM)(h:Heap):ai Tryz.prog 186 [fP a,fP b] h fun r h' =>r= .b (eqL jH a b)∧h' =h:=by
 refine acn Tryz.func186 26 [.tmp 4] fun hwf=>?_
 cases d1:((a.length:Int) !=(b.length:Int))
 case true=>
  have e1:a.length≠b.length:=by
   grind
  simp only[go_sem,fP,acd,d1];exact .same (.refl _) ⟨aeG,rfl⟩
 have e1:a.length=b.length:=acp;simp only[go_sem,fP,acd,d1];refine .intro (fun m ρ h' =>Ab.Sub h h'∧∃i:Nat,i≤a.length∧m=a.length - i∧(∀j (h1:j<a.length) (h2:j<b.length),j<i→jH a[j] b[j]=true)∧lk ρ 0=some (.sl (a.map cP) .no)∧lk ρ 1=some (.sl (b.map cP) .no)∧lk ρ 5=some (.i i)) a.length ?_ ?_
 ·exact agJ
 ·rintro m ρ h' ⟨hs,i,hi,rfl,hc,r0,r1,r5⟩
  simp only[go_sem,r0,r1,r5,acd];refine .intro (fun e=>?_) (fun e=>?_)
  ·have hlt:i<a.length:=ack e
   have hlt2:i<b.length:=aco;have w1:IntKind.i64.wrap ((i:Int)+1)=((i+1:Nat):Int):=by
    have:=hwf (fP a) acw;simp only[fP,wfA,wf1,lim,acd]at this;rw[aY _ aco];omega
   simp only[go_sem,r0,r1,r5,acd];refine⟨.of acs,?_⟩;refine .at i acp acz ?_;simp only[go_sem,r0,r1,r5,ace,cP];refine .at i acp acz ?_;simp only[go_sem,r0,r1,r5,ace,cP];cases d3:jH a[i] b[i]
   ·have d4:=d3
    simp only[jH]at d4;exact aid
   ·have d4:=d3
    simp only[jH]at d4;exact ahn
  ·exact ahE
theorem zg(a b:List cD)(h:Heap):ai Tryz.prog 93 [ay a,ay b] h fun r h' =>r= .b (eqL qu a b)∧h' =h:=by
 refine acn Tryz.func93 26 [.tmp 4] fun hwf=>?_
 cases d1:((a.length:Int) !=(b.length:Int))
 case true=>
  have e1:a.length≠b.length:=by
   grind
  simp only[go_sem,ay,acd,d1];exact .same (.refl _) ⟨aeG,rfl⟩
 have e1:a.length=b.length:=acp;simp only[go_sem,ay,acd,d1];refine .intro (fun m ρ h' =>Ab.Sub h h'∧∃i:Nat,i≤a.length∧m=a.length - i∧(∀j (h1:j<a.length) (h2:j<b.length),j<i→qu a[j] b[j]=true)∧lk ρ 0=some (.sl (a.map aW) .no)∧lk ρ 1=some (.sl (b.map aW) .no)∧lk ρ 5=some (.i i)) a.length ?_ ?_
 ·exact agJ
 ·rintro m ρ h' ⟨hs,i,hi,rfl,hc,r0,r1,r5⟩
  simp only[go_sem,r0,r5,acd];refine .intro (fun e=>?_) (fun e=>?_)
  ·have hlt:i<a.length:=ack e
   have hlt2:i<b.length:=aco;have w1:IntKind.i64.wrap ((i:Int)+1)=((i+1:Nat):Int):=by
    have:=hwf (ay a) acw;simp only[ay,wfA,wf1,lim,acd]at this;rw[aY _ aco];omega
   simp only[go_sem,r0,r5];refine⟨.of acs,?_⟩;refine .at i acp acz ?_;simp only[go_sem,r1,r5,ace,aW];refine .at i acp acz ?_;simp only[go_sem,ace,aW];cases d3:qu a[i] b[i]
   ·have d4:=d3
    simp only[qu]at d4;exact agQ
   ·have d4:=d3
    simp only[qu]at d4;exact agE
  ·exact agL
theorem Eh(a b:List aM)(h:Heap):ai Tryz.prog 148 [dL a,dL b] h fun r h' =>r= .b (eqL oA a b)∧h' =h:=by
 refine acn Tryz.func148 26 [.tmp 4] fun hwf=>?_
 cases d1:((a.length:Int) !=(b.length:Int))
 case true=>
  have e1:a.length≠b.length:=by
   grind
  simp only[go_sem,dL,acd,d1];exact .same (.refl _) ⟨aeG,rfl⟩
 have e1:a.length=b.length:=acp;simp only[go_sem,dL,acd,d1];refine .intro (fun m ρ h' =>Ab.Sub h h'∧∃i:Nat,i≤a.length∧m=a.length - i∧(∀j (h1:j<a.length) (h2:j<b.length),j<i→oA a[j] b[j]=true)∧lk ρ 0=some (.sl (a.map cJ) .no)∧lk ρ 1=some (.sl (b.map cJ) .no)∧lk ρ 5=some (.i i)) a.length ?_ ?_
 ·exact agJ
 ·rintro m ρ h' ⟨hs,i,hi,rfl,hc,r0,r1,r5⟩
  simp only[go_sem,r0,r1,r5,acd];refine .intro (fun e=>?_) (fun e=>?_)
  ·have hlt:i<a.length:=ack e
   have hlt2:i<b.length:=aco;have w1:IntKind.i64.wrap ((i:Int)+1)=((i+1:Nat):Int):=by
    have:=hwf (dL a) acw;simp only[dL,wfA,wf1,lim,acd]at this;rw[aY _ aco];omega
   simp only[go_sem,r0,r1,r5,acd];refine⟨.of acs,?_⟩;refine .at i acp acz ?_;simp only[go_sem,r0,r1,r5,ace,cJ];refine .at i acp acz ?_;simp only[go_sem,r0,r1,r5,ace,cJ];cases d3:oA a[i] b[i]
   ·have d4:=d3
    simp only[oA]at d4;exact aid
   ·have d4:=d3
    simp only[oA]at d4;exact ahn
  ·exact ahE
end Go.Proofs.YtcochaoekecfdaaGreatDoor
namespace Go.Bf
open Go Go.Ab
def lS(a b:gj):Bool:=a.subj==b.subj && a.role==b.role
def iT(a b:cM):Bool:=a.name==b.name && (a.val.kind==b.val.kind && (a.val.n==b.val.n && a.val.s==b.val.s))
def nE(a b:uy):Bool:=a.tick==b.tick && (a.actor==b.actor && a.what==b.what)
def oD(a b:oo):Bool:=a.id==b.id && (a.tick==b.tick && (a.subj==b.subj && (a.case==b.case && (a.action==b.action && (a.reason==b.reason && a.isOpen==b.isOpen)))))
def oC(a b:Cu):Bool:=a.tick==b.tick && (a.case==b.case && a.arg==b.arg)
end Go.Bf
namespace Go.Proofs.YtcochaoekecfdaaGreatDoor
open Go Go.Ab Go.Bf
theorem Ei(a b:List gj)(q1 q2:Perm)(h:Heap):ai Tryz.prog 83 [.sl (a.map cY) q1,.sl (b.map cY) q2] h fun r h' =>r= .b (eqL lS a b)∧h' =h:=by
 refine acn Tryz.func83 26 [.tmp 4] fun hwf=>?_
 cases d1:((a.length:Int) !=(b.length:Int))
 case true=>
  exact agP
 have e1:a.length=b.length:=acp;simp only[go_sem,acd,d1];refine .intro (fun m ρ h' =>Ab.Sub h h'∧∃i:Nat,i≤a.length∧m=a.length - i∧(∀j (h1:j<a.length) (h2:j<b.length),j<i→lS a[j] b[j]=true)∧lk ρ 0=some (.sl (a.map cY) q1)∧lk ρ 1=some (.sl (b.map cY) q2)∧lk ρ 5=some (.i i)) a.length ?_ ?_
 ·exact agJ
 ·rintro m ρ h' ⟨hs,i,hi,rfl,hc,r0,r1,r5⟩
  simp only[go_sem,r0,r5,acd];refine .intro (fun e=>?_) (fun e=>?_)
  ·have hlt:i<a.length:=ack e
   have hlt2:i<b.length:=aco;have w1:IntKind.i64.wrap ((i:Int)+1)=((i+1:Nat):Int):=by
    have:=hwf (.sl (a.map cY) q1) acw;exact ahe
   simp only[go_sem,r0,r5];refine⟨.of acs,?_⟩;refine .at i acp acz ?_;simp only[go_sem,r1,r5,ace,cY];refine .at i acp acz ?_;simp only[go_sem,ace,cY];cases d3:lS a[i] b[i]
   ·have d4:=d3
    simp only[lS]at d4;exact agQ
   ·have d4:=d3
    simp only[lS]at d4;exact agE
  ·exact agL
theorem Ch(a b:List cM)(q1 q2:Perm)(h:Heap):ai Tryz.prog 145 [.sl (a.map bz) q1,.sl (b.map bz) q2] h fun r h' =>r= .b (eqL iT a b)∧h' =h:=by
 refine acn Tryz.func145 26 [.tmp 4] fun hwf=>?_
 cases d1:((a.length:Int) !=(b.length:Int))
 case true=>
  exact agP
 have e1:a.length=b.length:=acp;simp only[go_sem,acd,d1];refine .intro (fun m ρ h' =>Ab.Sub h h'∧∃i:Nat,i≤a.length∧m=a.length - i∧(∀j (h1:j<a.length) (h2:j<b.length),j<i→iT a[j] b[j]=true)∧lk ρ 0=some (.sl (a.map bz) q1)∧lk ρ 1=some (.sl (b.map bz) q2)∧lk ρ 5=some (.i i)) a.length ?_ ?_
 ·exact agJ
 ·rintro m ρ h' ⟨hs,i,hi,rfl,hc,r0,r1,r5⟩
  simp only[go_sem,r0,r5,acd];refine .intro (fun e=>?_) (fun e=>?_)
  ·have hlt:i<a.length:=ack e
   have hlt2:i<b.length:=aco;have w1:IntKind.i64.wrap ((i:Int)+1)=((i+1:Nat):Int):=by
    have:=hwf (.sl (a.map bz) q1) acw;exact ahe
   simp only[go_sem,r0,r5];refine⟨.of acs,?_⟩;refine .at i acp acz ?_;simp only[go_sem,r1,r5,ace,bz];refine .at i acp acz ?_;simp only[go_sem,ace,bz];cases d3:iT a[i] b[i]
   ·have d4:=d3
    simp only[iT]at d4;exact agQ
   ·have d4:=d3
    simp only[iT]at d4;exact agE
  ·exact agL
theorem F3(a b:List uy)(q1 q2:Perm)(h:Heap):ai Tryz.prog 146 [.sl (a.map fU) q1,.sl (b.map fU) q2] h fun r h' =>r= .b (eqL nE a b)∧h' =h:=by
 refine acn Tryz.func146 26 [.tmp 4] fun hwf=>?_
 cases d1:((a.length:Int) !=(b.length:Int))
 case true=>
  exact agP
 have e1:a.length=b.length:=acp;simp only[go_sem,acd,d1];refine .intro (fun m ρ h' =>Ab.Sub h h'∧∃i:Nat,i≤a.length∧m=a.length - i∧(∀j (h1:j<a.length) (h2:j<b.length),j<i→nE a[j] b[j]=true)∧lk ρ 0=some (.sl (a.map fU) q1)∧lk ρ 1=some (.sl (b.map fU) q2)∧lk ρ 5=some (.i i)) a.length ?_ ?_
 ·exact agJ
 ·rintro m ρ h' ⟨hs,i,hi,rfl,hc,r0,r1,r5⟩
  simp only[go_sem,r0,r5,acd];refine .intro (fun e=>?_) (fun e=>?_)
  ·have hlt:i<a.length:=ack e
   have hlt2:i<b.length:=aco;have w1:IntKind.i64.wrap ((i:Int)+1)=((i+1:Nat):Int):=by
    have:=hwf (.sl (a.map fU) q1) acw;exact ahe
   simp only[go_sem,r0,r5];refine⟨.of acs,?_⟩;refine .at i acp acz ?_;simp only[go_sem,r1,r5,ace,fU];refine .at i acp acz ?_;simp only[go_sem,ace,fU];cases d3:nE a[i] b[i]
   ·have d4:=d3
    simp only[nE]at d4;exact agQ
   ·have d4:=d3
    simp only[nE]at d4;exact agE
  ·exact agL
theorem F5(a b:List oo)(q1 q2:Perm)(h:Heap):ai Tryz.prog 81 [.sl (a.map fY) q1,.sl (b.map fY) q2] h fun r h' =>r= .b (eqL oD a b)∧h' =h:=by
 refine acn Tryz.func81 26 [.tmp 4] fun hwf=>?_
 cases d1:((a.length:Int) !=(b.length:Int))
 case true=>
  exact agP
 have e1:a.length=b.length:=acp;simp only[go_sem,acd,d1];refine .intro (fun m ρ h' =>Ab.Sub h h'∧∃i:Nat,i≤a.length∧m=a.length - i∧(∀j (h1:j<a.length) (h2:j<b.length),j<i→oD a[j] b[j]=true)∧lk ρ 0=some (.sl (a.map fY) q1)∧lk ρ 1=some (.sl (b.map fY) q2)∧lk ρ 5=some (.i i)) a.length ?_ ?_
 ·exact agJ
 ·rintro m ρ h' ⟨hs,i,hi,rfl,hc,r0,r1,r5⟩
  simp only[go_sem,r0,r5,acd];refine .intro (fun e=>?_) (fun e=>?_)
  ·have hlt:i<a.length:=ack e
   have hlt2:i<b.length:=aco;have w1:IntKind.i64.wrap ((i:Int)+1)=((i+1:Nat):Int):=by
    have:=hwf (.sl (a.map fY) q1) acw;exact ahe
   simp only[go_sem,r0,r5];refine⟨.of acs,?_⟩;refine .at i acp acz ?_;simp only[go_sem,r1,r5,ace,fY];refine .at i acp acz ?_;simp only[go_sem,ace,fY];cases d3:oD a[i] b[i]
   ·have d4:=d3
    simp only[oD]at d4;exact agQ
   ·have d4:=d3
    simp only[oD]at d4;exact agE
  ·exact agL
theorem F4(a b:List Cu)(q1 q2:Perm)(h:Heap):ai Tryz.prog 82 [.sl (a.map jO) q1,.sl (b.map jO) q2] h fun r h' =>r= .b (eqL oC a b)∧h' =h:=by
 refine acn Tryz.func82 26 [.tmp 4] fun hwf=>?_
 cases d1:((a.length:Int) !=(b.length:Int))
 case true=>
  exact agP
 have e1:a.length=b.length:=acp;simp only[go_sem,acd,d1];refine .intro (fun m ρ h' =>Ab.Sub h h'∧∃i:Nat,i≤a.length∧m=a.length - i∧(∀j (h1:j<a.length) (h2:j<b.length),j<i→oC a[j] b[j]=true)∧lk ρ 0=some (.sl (a.map jO) q1)∧lk ρ 1=some (.sl (b.map jO) q2)∧lk ρ 5=some (.i i)) a.length ?_ ?_
 ·exact agJ
 ·rintro m ρ h' ⟨hs,i,hi,rfl,hc,r0,r1,r5⟩
  simp only[go_sem,r0,r5,acd];refine .intro (fun e=>?_) (fun e=>?_)
  ·have hlt:i<a.length:=ack e
   have hlt2:i<b.length:=aco;have w1:IntKind.i64.wrap ((i:Int)+1)=((i+1:Nat):Int):=by
    have:=hwf (.sl (a.map jO) q1) acw;exact ahe
   simp only[go_sem,r0,r5];refine⟨.of acs,?_⟩;refine .at i acp acz ?_;simp only[go_sem,r1,r5,ace,jO];refine .at i acp acz ?_;simp only[go_sem,ace,jO];cases d3:oC a[i] b[i]
   ·have d4:=d3
    simp only[oC]at d4;exact agQ
   ·have d4:=d3
    simp only[oC]at d4;exact agE
  ·exact agL
end Go.Proofs.YtcochaoekecfdaaGreatDoor
namespace Go.Bf
open Go Go.Ab
theorem any_succ{α:Type}{q:α→Bool}{l:List α}{i:Nat}(h:i<l.length):(l.take (i+1)).any q=((l.take i).any q||q l[i]):=by
 grind [List.take_succ_eq_append_getElem]
end Go.Bf
namespace Go.Proofs.YtcochaoekecfdaaGreatDoor
open Go
def Ca:List Value:=Lib.pow10Tab.map fun z=>Value.int .u64 z
end Go.Proofs.YtcochaoekecfdaaGreatDoor
namespace Go.Bf
def Tj:Txt:=[97,110,110]
end Go.Bf
namespace Go.Proofs.YtcochaoekecfdaaGreatDoor
open Go Go.Ab Go.Bf
def Rv(ev:Value):Heap:=wW [(3,Ca),(2,[ev])]
theorem JI{ev:Value}(hev:ev= .nilIface∨∃te pe,ev= .iface te pe):kR (Rv ev):=⟨ev,hev,1,rfl⟩
end Go.Proofs.YtcochaoekecfdaaGreatDoor
namespace Go.Bf
open Go Go.Ab
def Jk(o:OpD):OpD:={o with subj:=o.subj.take 20,case:=o.case.take 20,field:=o.field.take 20,to:=o.to.take 20,val:={o.val with s:=o.val.s.take 70},reason:=o.reason.take 70,text:=if o.text.length≤4096 then o.text.take 1000 else o.text}
def rH(m:Int)(b:Nat):Nat:=(if m.tmod (b+1)<0 then m.tmod (b+1)+(b+1)else m.tmod (b+1)).toNat
theorem Gs(m:Int)(b:Nat):rH m b≤b:=by
 have t1:=Int.tmod_lt_of_pos m (show(0:Int)<b+1 by omega)
 unfold rH;split<;>omega
end Go.Bf
namespace Go.Proofs.YtcochaoekecfdaaGreatDoor
open Go Go.Ab Go.Bf
theorem mJ(s:Txt)(n:Nat)(hn:n≤1000000)(h:Heap):ai Tryz.prog 50 [.s s,.i n] h fun r h' =>r= .s (s.take n)∧h' =h:=by
 refine acn Tryz.func50 11 [.tmp 4] fun hwf=>?_
 have e:(if(n:Int)<(s.length:Int)then(n:Int)else(s.length:Int))=((min n s.length:Nat):Int):=aco
 simp only[go_sem,e];refine⟨aco,aco,aco,?_⟩;simp only[go_sem,Option.isSome_none,Option.isSome_some,tc,Int.toNat_natCast];exact .same (.refl _) ⟨by rw[List.take_eq_take_min (i:=n) (l:=s)];rfl,rfl⟩
theorem JY(m:Int)(b:Nat)(h:Heap)(hm' : -9223372036854775808≤m∧m≤9223372036854775807)(hb:b≤1099511627776):
  ai Tryz.prog 25 [.i m,.i 0,.i b] h fun r h' =>r= .i (rH m b)∧h' =h:=by
 have w0:IntKind.i64.wrap ((b:Int) - 0)=b:=IntWalk.i64_in _ aco;have w1:IntKind.i64.wrap (b:Int)=b:=IntWalk.i64_in _ aco;have w2:IntKind.i64.wrap ((b:Int)+1)=(b:Int)+1:=IntWalk.i64_in _ aco;have t1:=Int.tmod_lt_of_pos m (show 0<(b:Int)+1 by omega)
 have t2:=Int.lt_tmod_of_pos m (show 0<(b:Int)+1 by omega)
 have hd:(rH m b:Int)=if m.tmod (b+1)<0 then m.tmod (b+1)+(b+1)else m.tmod (b+1):=by
  grind [rH]
 generalize hq:m.tmod ((b:Int)+1)=q at t1 t2 hd;have w3:IntKind.i64.wrap (q+b)=q+b:=IntWalk.i64_in _ aco;have w4:IntKind.i64.wrap (q+b - 0)=q+b:=acp;have w5:IntKind.i64.wrap (q+b+1)=q+b+1:=IntWalk.i64_in _ aco;refine acn Tryz.func25 24 [.tmp 6] fun hwf=>?_
 simp only[go_sem,w1,w2,hq,Int.sub_zero];refine⟨aco,.intro (fun e=>?_) (fun e=>?_)⟩
 ·have e:=acf e
  rw[if_pos e]at hd;simp only[go_sem,w3,w5,Int.sub_zero];have w6:IntKind.i64.wrap (0+(q+b+1))=q+b+1:=acp;have w7:IntKind.i64.wrap (q+b+1)=q+b+1:=IntWalk.i64_in _ aco;simp only[go_sem,w7,Int.zero_add];exact .same (.refl _) ⟨by grind [au,Int.add_assoc],rfl⟩
 ·have e:=acg e
  rw[if_neg e]at hd;have w7:IntKind.i64.wrap q=q:=IntWalk.i64_in q aco;have w6:IntKind.i64.wrap (0+q)=q:=acp;simp only[go_sem,w7,Int.zero_add];exact .same (.refl _) ⟨by rw[hd];rfl,rfl⟩
theorem Rh(o:OpD)(h:Heap):ai Tryz.prog 21 [opA o] h fun r h' =>r=opA (Jk o)∧h' =h:=by
 refine acn Tryz.func21 38 [.cell 2 32] fun hwf=>?_
 simp only[go_sem,opA,opC];intro i1 h1;simp only[go_sem];intro i2 h2;have n21:=aH h2;have n2:=aC h2;simp only[go_sem];have hns:∀G,Ab.Sub cQ G:=fun G _ _ e=>acR
 have hs:∀a b,Ab.Sub h (upd (upd h i1 a) i2 b):=fun a b=>((Sub.refl h).put h1 a).put n2 b
 refine .stage (pick (upd (upd h i1 (some (.obj [.i o.kind,.s o.subj,.s o.case,.s o.field,.s o.to,.i o.val.kind,.i o.val.n,.s o.val.s,.i o.review,.s o.text,.s o.reason,.b o.glass] 32))) i2 _) [i1]) [0,1,3,4,6,7,9,10,2,12,5,8,11] [13,14,15,16,17,18,19] bx acs ?_;simp only[go_sem,bC (show i1∈ [i1] by simp),aj,n21.symm]
 refine(show ai Tryz.prog 50 [_,.i ((20:Nat):Int)] _ _ from(mJ _ 20 acr _).mono fun r h' ⟨e1,e2⟩=>?_)
 subst e1;subst e2
 refine⟨bx,?_⟩;simp only[go_sem];refine(show ai Tryz.prog 50 [_,.i ((20:Nat):Int)] _ _ from(mJ _ 20 acr _).mono fun r h' ⟨e1,e2⟩=>?_)
 subst e1;subst e2
 refine⟨bx,?_⟩;simp only[go_sem];refine(show ai Tryz.prog 50 [_,.i ((20:Nat):Int)] _ _ from(mJ _ 20 acr _).mono fun r h' ⟨e1,e2⟩=>?_)
 subst e1;subst e2
 refine⟨bx,?_⟩;simp only[go_sem];refine(show ai Tryz.prog 50 [_,.i ((20:Nat):Int)] _ _ from(mJ _ 20 acr _).mono fun r h' ⟨e1,e2⟩=>?_)
 subst e1;subst e2
 refine⟨bx,?_⟩;simp only[go_sem];refine⟨cQ,hns _,?_⟩;simp only[go_sem,aj,n21.symm];refine⟨hns _,hns _,hns _,hns _,?_⟩;refine .stage (pick _ [i1]) [0,1,2,4,5,3,7,8,6] [9,10,11] bx acs ?_;simp only[go_sem,bC (show i1∈ [i1] by simp)]
 refine(show ai Tryz.prog 50 [_,.i ((70:Nat):Int)] _ _ from(mJ _ 70 acr _).mono fun r h' ⟨e1,e2⟩=>?_)
 subst e1;subst e2
 refine⟨bx,?_⟩;simp only[go_sem];refine(show ai Tryz.prog 50 [_,.i ((70:Nat):Int)] _ _ from(mJ _ 70 acr _).mono fun r h' ⟨e1,e2⟩=>?_)
 subst e1;subst e2
 refine⟨bx,?_⟩;simp only[go_sem];refine⟨cQ,hns _,?_⟩;simp only[go_sem];refine⟨hns _,hns _,?_⟩;cases d1:decide ((o.text.length:Int)≤4096)
 ·have p1:¬o.text.length≤4096:=by grind
  exact ahQ
 ·have p1:o.text.length≤4096:=by grind
  simp only[go_sem];refine(show ai Tryz.prog 50 [_,.i ((1000:Nat):Int)] _ _ from(mJ _ 1000 acr _).mono fun r h' ⟨e1,e2⟩=>?_)
  subst e1;subst e2
  exact ahQ
end Go.Proofs.YtcochaoekecfdaaGreatDoor
namespace Go.Bf
open Go Go.Ab
def iI(cat:Int)(name:Txt)(g:bp):Bool:=g.cat==cat && g.name==name
def getD(l:List bp)(cat:Int)(name:Txt):List bD:=match l.find? (iI cat name)with
 |some g=>g.bag
 |none=>[]
end Go.Bf
namespace Go.Proofs.YtcochaoekecfdaaGreatDoor
open Go Go.Ab Go.Bf
theorem Le{α:Type}(y:AV)(xs:List AV)(ds:List α)(q:α→Bool)(g:FuncId)(cap:List AV)(h:Heap)(hb:Rd h 3 y xs)(hn:xs.length=ds.length)(hl:xs.length≤1000000000)(hx:∀x∈xs,bA x=true)
  (hp:∀i (h1:i<xs.length) (h2:i<ds.length),ai Tryz.prog g (xs[i]::cap) h fun r h' =>r= .b (q ds[i])∧h' =h):
  ai Tryz.prog 310 [y,.fn g cap] h fun r h' =>r= .i (ixD q ds)∧h' =h:=by
 refine acn Tryz.func310 19 [.tmp 4] fun hwf=>?_
 simp only[go_sem,hb.len];refine .intro (fun m ρ h' =>h' =h∧∃i:Nat,i≤xs.length∧m=xs.length - i∧(∀j (hj:j<i) (h2:j<ds.length),q ds[j]=false)∧lk ρ 0=some y∧lk ρ 1=some (.fn g cap)∧lk ρ 7=some (.i xs.length)∧lk ρ 8=some (.i i)) xs.length ?_ ?_
 ·refine⟨rfl,0,aco,rfl,fun j hj=>aco,?_,?_,?_,?_⟩<;>simp only[go_sem]
 ·rintro m ρ h' ⟨rfl,i,hi,rfl,hc,r0,r1,r7,r8⟩
  simp only[go_sem,r7,r8];refine .intro (fun e=>?_) (fun e=>?_)
  ·have hlt:i<xs.length:=ack e
   have hlt2:i<ds.length:=aco;have w1:IntKind.i64.wrap ((i:Int)+1)=((i+1:Nat):Int):=acE;simp only[go_sem,r0,r1,r8];refine hb.idx (e:=196) i rfl hlt acF acr fun p hp1=>?_
   have hld:=hp1.all (U:=U) (ty:=196) acr adl aeb;simp only[go_sem,hld];refine(show ai Tryz.prog g (xs[i]::cap) _ _ from hp i hlt hlt2).pthen ?_
   cases d1:q ds[i]
   ·simp only[go_sem,r8,w1]
    refine⟨_,?_,rfl,i+1,aco,rfl,fun j hj h2=>?_,?_,?_,?_,?_⟩
    ·omega
    ·grind
    all_goals simp only[go_sem,r0,r1,r7]
   ·simp only[go_sem]
    exact .same (.refl _) ⟨ac6,rfl⟩
  ·have hge:i=xs.length:=by grind
   simp only[go_sem];exact .same (.refl _) ⟨acT,rfl⟩
theorem Jq{h:Heap}(g:bp){k1 k2:Nat}{cat:Int}{name:Txt}(h1:h k1=some (.obj [.i cat] 3))(h2:h k2=some (.obj [.s name] 9)):ai Tryz.prog 311 [kX g,.ptr k1 0,.ptr k2 0] h fun r h' =>r= .b (iI cat name g)∧h' =h:=by
 refine acn Tryz.func311 15 [.tmp 4] fun hwf=>?_
 simp only[go_sem,kX];intro i1 hi1;have n1:k1≠i1:=fun e=>acp
 have n2:k2≠i1:=fun e=>acp
 simp only[go_sem,aj,n1,h1];cases d1:(g.cat==cat)
 ·simp only[go_sem]
  exact .mk _ (.refl _) (.ak hi1) ⟨by simp only[iI,d1];rfl,rfl⟩
 ·simp only[go_sem,aj,n2,h2]
  exact .mk _ (.refl _) (.ak hi1) ⟨by simp only[iI,d1];rfl,rfl⟩
theorem L0(gs:List bp)(cat:Int)(name:Txt)(hl:gs.length≤1000000000)(h:Heap):ai Tryz.prog 282 [bJ gs,.i cat,.s name] h fun r h' =>r= .i (ixD (iI cat name) gs)∧h' =h:=by
 refine acn Tryz.func282 10 [.tmp 6] fun hwf=>?_
 simp only[go_sem,bJ];intro i1 h1;simp only[go_sem];intro i2 h2;have n2:=aC h2;have hs:∀a b,Ab.Sub h (upd (upd h i1 a) i2 b):=fun a b=>((Sub.refl h).put h1 a).put n2 b
 simp only[go_sem];refine(Le _ _ gs (iI cat name) _ [.ptr i1 0,.ptr i2 0] _ (eJ kX 3 (fun _=>rfl) _ gs) acw acp (ou (fun _=>rfl) _) fun i a b=>by
  rw[ace];exact Jq _ (by grind [ag,ah]) (ah ..)).pthen ?_
 simp only[go_sem];exact adZ
theorem get_at{gs:List bp}{cat:Int}{name:Txt}(h:gs.findIdx (iI cat name)<gs.length):getD gs cat name=gs[gs.findIdx (iI cat name)].bag:=by
 unfold getD;rw[show gs.find? (iI cat name)=some gs[gs.findIdx (iI cat name)]from List.find?_eq_some_iff_getElem.2 ⟨List.findIdx_getElem (w:=h),_,h,rfl,fun j hj=>acp⟩]
theorem QM{gs:List bp}{cat:Int}{name:Txt}(h:¬gs.findIdx (iI cat name)<gs.length):getD gs cat name= []:=by
 grind [getD,iI,List.findIdx_le_length,List.find?_eq_none,List.findIdx_eq_length]
end Go.Proofs.YtcochaoekecfdaaGreatDoor
namespace Go.Bf
open Go Go.Ab
def cT:Txt:=[99]
def stC(st:Txt)(log:List uy):aJ:=⟨cT,Tj,st,[],log⟩
def pn:List Txt:=[jy,wJ,Az,gR]
abbrev lt(a b:Txt):Prop:=Op.bytesLess a b=true
theorem lt_irrefl:∀a:Txt,¬lt a a
 | []=>acr
 |a::x=>by
  have:=lt_irrefl x;simp only[lt,Op.bytesLess,Bool.or_eq_true,Bool.and_eq_true,decide_eq_true_eq,beq_self_eq_true,true_and,not_or];exact⟨UInt8.lt_irrefl a,this⟩
theorem lt_trans:∀ {a b c:Txt},lt a b→lt b c→lt a c
 |_,[],_,h,_=>by simp_all [Txt,lt,Op.bytesLess]
 | [],b::y,c,_,h=>by cases c<;>simp[lt,Op.bytesLess]at h⊢
 |a::x,b::y,[],_,h=>by simp[lt,Op.bytesLess]at h
 |a::x,b::y,c::z,h1,h2=>by
  simp only[lt,Op.bytesLess,Bool.or_eq_true,Bool.and_eq_true,decide_eq_true_eq,beq_iff_eq]at h1 h2⊢;rcases h1 with h1|⟨rfl,h1⟩
  ·grind
  ·rcases h2 with h2|⟨rfl,h2⟩
   ·grind
   ·exact .inr ⟨rfl,lt_trans h1 h2⟩
theorem AS:∀a b:Txt,lt a b∨a=b∨lt b a
 | [],[]=>acw
 | [],b::y=> .inl rfl
 |a::x,[]=> .inr (.inr rfl)
 |a::x,b::y=>by
  simp only[lt,Op.bytesLess,Bool.or_eq_true,Bool.and_eq_true,decide_eq_true_eq,beq_iff_eq];rcases UInt8.lt_or_lt_of_ne (a:=a) (b:=b)with h
  by_cases e:a=b
  ·subst e
   rcases AS x y with h|rfl|h
   ·grind
   ·simp
   grind
  grind
def Asc(cs:List aJ):Prop:=cs.Pairwise fun a b=>lt a.id b.id
theorem GO{c:aJ}{cs:List aJ}{id:Txt}(h:¬lt c.id id):findD (c::cs) id=0:=by
 simp_all [Op.bytesLess,false,findD,List.findIdx_cons,geB]
theorem GP{c:aJ}{cs:List aJ}{id:Txt}(h:lt c.id id):findD (c::cs) id=findD cs id+1:=by
 simp_all [Op.bytesLess,true,findD,List.findIdx_cons,geB]
theorem vu:∀ {cs:List aJ},Asc cs→∀id,bZ cs id=cs.any fun c=>c.id==id
 | [],_,id=>rfl
 |c::cs,h,id=>by
  obtain⟨h1,h2⟩:=List.pairwise_cons.1 h
  by_cases hl:lt c.id id
  ·have hne:(c.id==id)=false:=by
    grind [beq_eq_false_iff_ne,lt_irrefl]
   have e:bZ (c::cs) id=bZ cs id:=by
    grind [bZ,GP]
   rw[e,vu h2 id,List.any_cons,hne,Bool.false_or]
  ·have e:bZ (c::cs) id=(c.id==id):=by
    grind [bZ,GO]
   rw[e,List.any_cons];cases hc:(c.id==id)
   ·have hlt:lt id c.id:=by
     rcases AS c.id id with h|h|h
     ·grind
     ·grind
     omega
    grind
   ·simp
theorem GD:∀ {cs:List aJ},Asc cs→∀c:aJ,(cs.any fun d=>d.id==c.id)=false→Asc (cs.take (findD cs c.id)++ [c]++cs.drop (findD cs c.id))
 | [],_,c,_=>by simp[Asc,findD]
 |d::cs,h,c,hn=>by
  obtain⟨h1,h2⟩:=List.pairwise_cons.1 h;simp only[List.any_cons,Bool.or_eq_false_iff]at hn
  by_cases hl:lt d.id c.id
  ·rw[GP hl]
   simp only[List.take_succ_cons,List.drop_succ_cons,List.cons_append];refine List.pairwise_cons.2 ⟨fun e he=>?_,GD h2 c hn.2⟩
   grind
  ·rw[GO hl]
   have hlt:lt c.id d.id:=by
    rcases AS d.id c.id with h|h|h
    ·grind
    ·grind
    omega
   refine List.pairwise_cons.2 ⟨fun e he=>?_,h⟩
   rcases List.mem_cons.1 he with rfl|he
   ·omega
   grind [lt_trans]
def EI(fs:List cM):Prop:=fs.Pairwise fun a b=>lt a.name b.name
theorem Bv(name:Txt)(v:bD):eT [] name v= [⟨name,v⟩]:=rfl
theorem zD{f:cM}{fs:List cM}{name:Txt}{v:bD}(h:lt f.name name):eT (f::fs) name v=f::eT fs name v:=by
 have hb:Op.bytesLess f.name name=true:=h;unfold eT;simp only[List.findIdx_cons,geB,hb,Bool.not_true,cond_false,List.getElem?_cons_succ];generalize hi:fs.findIdx (fun f=> !Op.bytesLess f.name name)=i
 cases e:fs[i]? with
 |none=>simp
 |some g=>
  by_cases hg:g.name=name
  ·simp[hg]
  ·simp[hg]
theorem zB{f:cM}{fs:List cM}{name:Txt}{v:bD}(h:f.name=name):eT (f::fs) name v=⟨f.name,v⟩::fs:=by
 subst h;have hb:Op.bytesLess f.name f.name=false:=by
  grind [Op.bytesLess,lt_irrefl]
 unfold eT;simp[List.findIdx_cons,geB,hb]
theorem zC{f:cM}{fs:List cM}{name:Txt}{v:bD}(h:lt name f.name):eT (f::fs) name v=⟨name,v⟩::f::fs:=by
 have hb:Op.bytesLess f.name name=false:=by
  grind [Op.bytesLess,lt_irrefl,lt_trans]
 have hne:f.name≠name:=fun e=>by rw[e]at h;exact lt_irrefl _ h
 unfold eT;simp[List.findIdx_cons,geB,hb,hne]
theorem vC:∀ {fs:List cM} {name:Txt} {v:bD} {g:cM},g∈eT fs name v→g=⟨name,v⟩∨g∈fs
 | [],name,v,g,h=>by grind [Bv,List.mem_singleton]
 |f::fs,name,v,g,h=>by
  rcases AS f.name name with hl|hl|hl
  ·rw[zD hl]at h
   rcases List.mem_cons.1 h with rfl|h
   ·simp
   ·rcases vC h with h|h
    ·grind
    grind
  ·rw[zB hl]at h
   grind
  ·rw[zC hl]at h
   grind
theorem Bt:∀ {fs:List cM} {name:Txt} {v:bD},EI fs→EI (eT fs name v)
 | [],name,v,_=>by grind [Bv,EI]
 |f::fs,name,v,h=>by
  obtain⟨h1,h2⟩:=List.pairwise_cons.1 h;rcases AS f.name name with hl|hl|hl
  ·rw[zD hl]
   refine List.pairwise_cons.2 ⟨fun g hg=>?_,Bt h2⟩
   rcases vC hg with rfl|hg
   ·omega
   grind
  ·rw[zB hl]
   exact List.pairwise_cons.2 ⟨h1,h2⟩
  ·rw[zC hl]
   refine List.pairwise_cons.2 ⟨fun g hg=>?_,h⟩
   rcases List.mem_cons.1 hg with rfl|hg
   ·omega
   grind [lt_trans]
theorem Bu:∀ {fs:List cM} {name:Txt} {v:bD},EI fs→(eT fs name v).length=if fs.any (fun f=>f.name==name)then fs.length else fs.length+1
 | [],name,v,_=>rfl
 |f::fs,name,v,h=>by
  obtain⟨h1,h2⟩:=List.pairwise_cons.1 h;rcases AS f.name name with hl|hl|hl
  ·have hne:(f.name==name)=false:=by grind [beq_eq_false_iff_ne,lt_irrefl]
   rw[zD hl,List.length_cons,Bu h2,List.any_cons,hne,Bool.false_or];split<;>simp
  ·grind [zB]
  ·have hne:(f.name==name)=false:=by grind [beq_eq_false_iff_ne,lt_irrefl]
   have hno:(fs.any fun f=>f.name==name)=false:=List.any_eq_false.2 fun g hg he=>by
    have:=lt_trans hl (h1 g hg);rw[beq_iff_eq.1 he]at this;exact lt_irrefl _ this
   rw[zC hl,List.any_cons,hne,hno];simp
theorem Fj(f:cM)(fs:List cM)(n:Txt):eC (f::fs) n=if f.name=n then f.val else eC fs n:=by
 grind [eC]
def mkC(who id:Txt):aJ:=⟨id,who,jy,[],[⟨0,who,[110,101,119]⟩]⟩
def WD(cs:List aJ)(id:Txt):Bool:=cs.any fun c=>c.id==id
end Go.Bf
namespace Go.Ab
open Go
section
variable {α : Type}
def dget(l:List (List UInt8×α))(k:List UInt8):Option α:=(l.find? fun p=>p.1==k).map (·.2)
def dset(l:List (List UInt8×α))(k:List UInt8)(v:α):List (List UInt8×α):=if(dget l k).isSome then l.map (fun p=>if p.1==k then(p.1,v)else p)else l++ [(k,v)]
end
end Go.Ab
namespace Go.Bf
open Go Go.Ab Go.Proofs.YtcochaoekecfdaaGreatDoor
structure Own (cs:List aJ) (own:List (Txt×Txt)):Prop where
 asc:Asc cs
 len:cs.length=own.length
 small:cs.length≤64
 mem:∀c∈cs,c=mkC c.owner c.id∧dget own c.id=some c.owner
 has:∀id,WD cs id=(dget own id).isSome
 who:∀id w,dget own id=some w→w≠ []
 keys:∀p∈own,p.1.length≤3
theorem qj:∀ {cs:List aJ},Asc cs→∀ {id:Txt},bZ cs id=true→bw cs id∈cs∧(bw cs id).id=id:=by
 unfold bw
 grind [bZ,List.getElem?_eq_getElem]
end Go.Bf
namespace Go.Proofs.YtcochaoekecfdaaGreatDoor
open Go Go.Ab Go.Bf
theorem Jv(rs:List gj):eqL lS rs rs=true:=cV rfl fun j h1 h2=>by simp[lS]
def pQ(o:OpD):Prop:=i64 o.kind∧i64 o.val.kind∧i64 o.val.n∧i64 o.review
theorem KF{x:AV}(h:Dat U 30 x):∃v,x=aU v∧i64 v.kind∧i64 v.n:=by
 obtain⟨ys,rfl,hys⟩:=h.Bh (show(U 30).k= .strct [(0,3),(1,3),(2,9)] by rfl)
 obtain⟨y0,_,rfl,d0,y1,_,rfl,d1,y2,_,rfl,d2,rfl⟩:=hys;obtain⟨n,rfl,hn⟩:=d0.i64 acF;obtain⟨m,rfl,hm⟩:=d1.i64 acF;obtain⟨s,rfl,_⟩:=d2.pz acF;exact⟨⟨n,m,s⟩,acF,hn,hm⟩
theorem Qs{x:AV}(h:Dat U 32 x):∃o,x=opA o∧pQ o:=by
 obtain⟨ys,rfl,hys⟩:=h.Bh (show(U 32).k= .strct [(0,3),(1,9),(2,9),(3,9),(4,9),(5,30),(8,3),(9,9),(10,9),(11,4)] by rfl)
 obtain⟨y0,_,rfl,d0,y1,_,rfl,d1,y2,_,rfl,d2,y3,_,rfl,d3,y4,_,rfl,d4,y5,_,rfl,d5,y6,_,rfl,d6,y7,_,rfl,d7,y8,_,rfl,d8,y9,_,rfl,d9,rfl⟩:=hys;obtain⟨a,rfl,ha⟩:=d0.i64 acF;obtain⟨b,rfl,_⟩:=d1.pz acF;obtain⟨c,rfl,_⟩:=d2.pz acF;obtain⟨d,rfl,_⟩:=d3.pz acF;obtain⟨e,rfl,_⟩:=d4.pz acF;obtain⟨v,rfl,hv1,hv2⟩:=KF d5;obtain⟨r,rfl,hr⟩:=d6.i64 acF;obtain⟨t,rfl,_⟩:=d7.pz acF;obtain⟨s,rfl,_⟩:=d8.pz acF;obtain⟨g,rfl⟩:=d9.Ks acF;exact⟨⟨a,b,c,d,e,v,r,t,s,g⟩,acF,ha,hv1,hv2,hr⟩
theorem inH{P:Program}{f:FuncId}{args:List AV}{h:Heap}{Q:AV→Heap→Prop}(hh:∀H2,H2=h→ai P f args H2 Q):ai P f args h Q:=hh h rfl
end Go.Proofs.YtcochaoekecfdaaGreatDoor
namespace Go.Bf
open Go Go.Ab Go.Proofs.YtcochaoekecfdaaGreatDoor
def WE(v:Int):bD:=⟨2,v,[]⟩
structure Last (fs:List cM) (last:List (Txt×Int)):Prop where
 asc:EI fs
 len:fs.length=last.length
 small:fs.length≤16
 kind:∀f∈fs,f.val.kind=2
 get:∀n,eC fs n=((dget last n).map WE).getD ax
 keys:∀p∈last,p.1.length=2
end Go.Bf
namespace Go.Bf
open Go Go.Ab
def Fine(n:Nat)(st:PS):Prop:=(st.bad=0∨st.bad=5∨st.bad=6)∧0≤st.place∧st.place≤n
def Bx(n:Nat)(ts:List rJ):Prop:=∀i,0≤(ts.getD i ⟨7,0,0,[]⟩).pos∧(ts.getD i ⟨7,0,0,[]⟩).pos≤n
theorem yb{n:Nat}{st:PS}{e p:Int}(h:Fine n st)(he:e=5∨e=6)(h0:0≤p)(h1:p≤n):Fine n (bI st e p):=by
 unfold bI;split
 ·exact⟨.inr he,h0,h1⟩
 omega
theorem Da{n:Nat}{a b:PS}(h:Rch a b)(ht:Bx n a.ts)(hf:Fine n a):Fine n b:=by
 induction h with
 |refl=>omega
 |wrong e p h1 he hp ih=>
  obtain⟨i,_,rfl⟩:=hp;rw[(rD h1).1];exact yb ih he (ht i).1 (ht i).2
 |next _ _ _ ih=>exact ih
theorem HE{a b:PS}(h:nD a b):b.ts=a.ts:=by
 induction h with
 |refl=>rfl
 |small _ h1 ih=>grind [rD,trans]
 |rule _ _ _ _ ih=>exact ih
theorem IC{n:Nat}{a b:PS}(h:nD a b)(ht:Bx n a.ts)(hf:Fine n a):Fine n b:=by
 induction h with
 |refl=>omega
 |small h1 h2 ih=>grind [Da,HE]
 |rule _ _ _ _ ih=>exact ih
theorem yo{s:Txt}{ts:List rJ}(h:sA s= .ok ts):Bx s.length ts:=by
 obtain⟨pre,rfl,_,h3,_⟩:=AQ h;intro i
 grind
theorem KY{s:Txt}{ts:List rJ}(h:sA s= .ok ts):Fine s.length (pT s (gD 4 ⟨ts,0,0,0,0⟩)):=by
 have h0:Fine s.length ⟨ts,0,0,0,0⟩:=⟨.inl rfl,Int.le_refl _,acw⟩;have hr:=Ce 4 ⟨ts,0,0,0,0⟩;have h1:=IC hr (yo h) h0;have ht:Bx s.length (gD 4 ⟨ts,0,0,0,0⟩).2.ts:=by rw[HE hr];exact yo h
 have h2:Fine s.length (if(aL (gD 4 ⟨ts,0,0,0,0⟩).2).kind=7 then(gD 4 ⟨ts,0,0,0,0⟩).2 else bn (gD 4 ⟨ts,0,0,0,0⟩).2):=by
  grind [Da,kr]
 unfold pT;generalize (if(aL (gD 4 ⟨ts,0,0,0,0⟩).2).kind=7 then(gD 4 ⟨ts,0,0,0,0⟩).2 else bn (gD 4 ⟨ts,0,0,0,0⟩).2)=st1 at h2⊢
 split
 ·exact yb h2 (.inl rfl) aco (Int.le_refl _)
 ·exact agu
theorem DS(s:Txt):(aR s).2.1=0∧(aR s).2.2=0∧gy (aR s).1=0∨
  ((aR s).2.1=5∨(aR s).2.1=6)∧0≤(aR s).2.2∧(aR s).2.2≤s.length∧(aR s).1=om:=by
 unfold aR;cases h:sA s with
 |bad e a=>
  have:=yy h;exact .inr ⟨this.1,this.2.1,this.2.2,rfl⟩
 |ok ts=>
  have hf:=KY h;simp only[yM];split
  ·rename_i hb
   refine .inl ⟨rfl,rfl,?_⟩;simp only;unfold pT at hb;generalize (if(aL (gD 4 ⟨ts,0,0,0,0⟩).2).kind=7 then(gD 4 ⟨ts,0,0,0,0⟩).2 else bn (gD 4 ⟨ts,0,0,0,0⟩).2)=st1 at hb
   split at hb
   ·simp_all [bI,if_pos,absurd,Int]
   omega
  ·rename_i hb
   exact .inr ⟨hf.1.resolve_left hb,hf.2.1,hf.2.2,rfl⟩
end Go.Bf
namespace Go.Bf
open Go Go.Ab Go.Proofs.YtcochaoekecfdaaGreatDoor
theorem qT{p:bB}(h:gy p=0):mH 1 p:=by
 cases hw:ko ⟨[],0⟩ 1 p with
 |bad e=>
  have:=ua 4 1 _ _ e rfl hw;rw[gy,hw]at h;exact(this h).elim
 |ok m=>grind [Hy]
theorem Qg{fs:List cM}(h:∀f∈fs,eqV f.val ax=false)(n:Txt):(fs.any fun f=>f.name==n)= !(eqV (eC fs n) ax):=by
 induction fs with
 |nil=>rfl
 |cons f fs ih=>
  rw[Fj,List.any_cons]
  grind
structure ux (c:aJ):Prop where
 id:bt c.id=true
 owner:bt c.owner=true
 state:c.state∈pn
 asc:EI c.fields
 nfields:c.fields.length≤16
 field:∀f∈c.fields,bt f.name=true∧bL f.val=true∧eqV f.val ax=false
 log1:1≤c.log.length
 log2:c.log.length≤256
 actor:∀x∈c.log,bt x.actor=true∧i64 x.tick
structure dz (k:Nat) (s:an):Prop where
 tick:0≤s.tick∧s.tick≤1099511627776
 asc:Asc s.cases
 ncases:s.cases.length≤64
 case:∀c∈s.cases,ux c
 nrev:s.reviews.length≤1000
 nnot:s.notices.length≤1000
 roles:s.roles.length≤64
 role:∀r∈s.roles,bt r.subj=true∧bt r.role=true
 pol:gy s.policy=0
 ver:0≤s.version∧s.version≤k
theorem dz.few{k:Nat}{s:an}(h:dz k s):Few s:=by
 have h1:=h.ncases;have h2:=h.nrev;have h3:=h.nnot;have h4:=h.roles;refine⟨aco,fun c hc=>?_,fun c hc=>?_,aco,aco,aco⟩
 ·have:=(h.case c hc).nfields;omega
 ·have:=(h.case c hc).log2;omega
theorem dz.mH{k:Nat}{s:an}(h:dz k s):mH 1 s.policy:=qT h.pol
theorem dz.Gl{k:Nat}{s:an}(h:dz k s):i64 s.tick:=by
 have:=h.tick;constructor<;>omega
theorem JK:dz 0 sD:=by
 refine⟨acr,.nil,acr,fun c h=>adj,acr,acr,acr,fun r h=>adj,acF,acr⟩
theorem j8{s:Txt}(h:iP s=true)(hn:s≠ []):bt s=true:=by
 simp_all [iP,Bool.or_eq_true,beq_iff_eq]
structure PT (o:OpD):Prop where
 subj:bt o.subj=true
 kind:1≤o.kind∧o.kind≤8
 case:iP o.case=true
 field:iP o.field=true
 to:iP o.to=true
 val:eqV o.val ax=true∨bL o.val=true
 text:o.text.length≤4096
 ok:okD o=true
theorem tD{o:OpD}(h:eU o=true):PT o:=by
 simp only[eU,Bool.and_eq_true,decide_eq_true_eq,Bool.or_eq_true,dK]at h;obtain⟨⟨⟨⟨⟨⟨⟨h1,h2⟩,h3⟩,h4⟩,h5⟩,h6⟩,h7⟩,⟨⟨h8,h9⟩,h10⟩,h11⟩:=h;exact⟨h1,⟨h8,h9⟩,h4,h5,h6,h7,h3,h10⟩
theorem yd{a b:Txt}(h:mz a b=true):b∈pn:=by
 unfold mz at h;simp only[pn,List.mem_cons,List.not_mem_nil,or_false]
 grind
theorem mem_modify{α:Type}{l:List α}{i:Nat}{f:α→α}{x:α}(h:x∈l.modify i f):x∈l∨∃hi:i<l.length,x=f l[i]:=by
 obtain⟨j,hj,rfl⟩:=List.mem_iff_getElem.1 h
 grind
theorem kg{α β:Type}{l:List α}{i:Nat}{f:α→α}{g:α→β}(h:∀x,g (f x)=g x):(l.modify i f).map g=l.map g:=by
 refine List.ext_getElem acw fun j h1 h2=>?_
 grind
theorem BK{cs cs' :List aJ}(h:cs'.map (·.id)=cs.map (·.id))(ha:Asc cs):Asc cs' :=by
 unfold Asc at*;have h1:(cs.map (·.id)).Pairwise lt:=acp
 rw[←h,List.pairwise_map]at h1;exact h1
theorem N1{cs:List aJ}{i:Nat}{c d:aJ}(h:d∈cs.take i++ [c]++cs.drop i):d=c∨d∈cs:=by
 grind
theorem Mq{k:Nat}{s:an}{o:OpD}(hs:dz k s)(hr:bO s o=0):dz (k+1) (doD aR s o):=by
 have hf:eU o=true:=by
  unfold bO at hr
  grind
 have F:=tD hf;have vk:0≤s.version∧s.version≤((k+1:Nat):Int):=⟨hs.ver.1,by have:=hs.ver.2;omega⟩
 unfold bO at hr;rw[hf]at hr;simp only[Bool.true_eq_false,if_false]at hr;have hok:=F.ok;unfold okD at hok;have t64:=hs.Gl;unfold doD
 by_cases k1:o.kind=1
 ·simp only[k1,if_true]at hr hok⊢
  have hno:bZ s.cases o.case=false:=by
   grind
  rw[hno]at hr;simp only[Bool.false_eq_true,if_false]at hr;have hlt:¬64≤s.cases.length:=fun h=>agf
  have hc:bt o.case=true:=j8 F.case acp;rw[vu hs.asc]at hno;refine {hs with asc:= ?_,ncases:= ?_,case:= ?_,ver:=vk}
  ·exact GD hs.asc (jj s ⟨o.case,o.subj,jy,[],[]⟩ o.subj [110,101,119]) hno
  ·grind
  ·intro c h
   rcases N1 h with rfl|h
   ·exact⟨hc,F.subj,by simp[jj,pn],.nil,agw,fun f h=>adj,agw,agw,fun x h=>by
     simp only[jj,List.nil_append,List.mem_singleton]at h;subst h;exact⟨F.subj,t64⟩⟩
   ·exact hs.case c h
 ·simp only[k1,if_false]at hr hok⊢
  by_cases k3:o.kind=3
  ·have hk:2≤o.kind∧o.kind≤4:=by omega
   simp only[hk,and_self,if_true]at hr;simp only[k3,if_true];have e2:¬(o.kind=2∨o.kind=6):=aco;simp only[k3,if_true,show¬((3:Int)=2∨(3:Int)=6) by decide,if_false,Bool.and_eq_true,Bool.not_eq_true']at hok
   have hth:bZ s.cases o.case=true:=by
    unfold bY at hr
    grind
   unfold bY at hr;rw[hth]at hr;simp only[Bool.true_eq_false,if_false,k3,true_and]at hr;obtain⟨hm,hid⟩:=qj hs.asc hth;have hlt:=jz hth;have hce:bw s.cases o.case=s.cases[findD s.cases o.case]:=by
    simp_all [bw,if_pos]
   rw[hce]at hr hm;generalize hcc:s.cases[findD s.cases o.case]=c at hr hm;have hc:=hs.case c hm;have h16:¬(c.fields.length≥16∧eqV (eC c.fields o.field) ax=true):=fun h=>by simp[h.1,h.2]at hr
   rw[if_neg h16]at hr;have hlg:¬c.log.length≥256:=fun h=>agf
   have hnf:bt o.field=true:=j8 F.field acp;have hvz:eqV o.val ax=false:=hok.2;have hv:bL o.val=true:=F.val.resolve_left acp;refine {hs with asc:= ?_,ncases:= ?_,case:= ?_,ver:=vk}
   ·exact BK (kg fun x=>rfl) hs.asc
   ·simpa using hs.ncases
   ·intro d hd
    rcases mem_modify hd with hd|⟨hi,rfl⟩
    ·exact hs.case d hd
    ·rw[hcc]
     have hany:=Qg (fun f hf=>(hc.field f hf).2.2) o.field
     have hlen:=Bu (v:=o.val) (name:=o.field) hc.asc;refine⟨hc.id,hc.owner,hc.state,Bt hc.asc,?_,?_,agw,?_,?_⟩
     ·simp only[jj]
      rw[hlen,hany];have:=hc.nfields;cases he:eqV (eC c.fields o.field) ax
      ·simp;omega
      ·rw[he]at h16;simp at h16⊢;omega
     ·intro f hf
      rcases vC hf with rfl|hf
      ·grind
      ·exact hc.field f hf
     ·grind [jj,ach,List.length_singleton]
     ·intro x hx
      exact ahI
  ·simp only[k3,if_false]at hok⊢
   by_cases k4:o.kind=4
   ·have hk:2≤o.kind∧o.kind≤4:=by omega
    simp only[hk,and_self,if_true]at hr;simp only[k4,if_true];have hth:bZ s.cases o.case=true:=by
     unfold bY at hr
     grind
    unfold bY at hr;rw[hth]at hr;simp only[Bool.true_eq_false,if_false,k4]at hr;obtain⟨hm,hid⟩:=qj hs.asc hth;have hlt:=jz hth;have hce:bw s.cases o.case=s.cases[findD s.cases o.case]:=by
     simp_all [bw,if_pos]
    rw[hce]at hr hm;generalize hcc:s.cases[findD s.cases o.case]=c at hr hm;have hc:=hs.case c hm;simp only[show¬((4:Int)=3) by decide,false_and,if_false,show((4:Int)≠2) by decide,ne_eq,not_false_eq_true,true_and,false_or]at hr
    have hlg:¬c.log.length≥256:=fun h=>agf
    rw[if_neg hlg]at hr;have hfo:mz c.state o.to=true:=by
     grind
    refine {hs with asc:= ?_,ncases:= ?_,case:= ?_,ver:=vk}
    ·exact BK (kg fun x=>rfl) hs.asc
    ·simpa using hs.ncases
    ·intro d hd
     rcases mem_modify hd with hd|⟨hi,rfl⟩
     ·exact hs.case d hd
     ·rw[hcc]
      refine⟨hc.id,hc.owner,yd hfo,hc.asc,hc.nfields,hc.field,agw,?_,?_⟩
      ·grind [jj,ach,List.length_singleton]
      ·intro x hx
       exact ahI
   ·simp only[k4,if_false]at hok⊢
    by_cases k5:o.kind=5
    ·simp only[k5,if_true]
     refine {hs with nrev:= ?_,ver:=vk}
     simpa using hs.nrev
    ·simp only[k5,if_false]at hok⊢
     by_cases k6:o.kind=6
     ·have hk:¬(2≤o.kind∧o.kind≤4):=by omega
      simp only[k6,if_true]at hr;simp only[k6,if_true];simp only[k6,or_true,if_true,Bool.and_eq_true]at hok;have hc:bt o.case=true:=j8 F.case acp;have hfd:bt o.field=true:=j8 F.field acp;cases hh:yh s.roles ⟨o.case,o.field⟩with
      |true=>simp only[if_true];exact {hs with ver:=vk}
      |false=>
       rw[hh]at hr;have hlt:¬s.roles.length≥64:=fun h=>agf
       simp only[Bool.false_eq_true,if_false];refine {hs with roles:= ?_,role:= ?_,ver:=vk}
       ·grind
       ·intro r h
        rcases List.mem_append.1 h with h|h
        ·exact hs.role r h
        grind
     ·simp only[k6,if_false]
      by_cases k7:o.kind=7
      ·simp only[k7,if_true]
       by_cases hp:(aR o.text).2.1=0
       ·simp only[hp,if_true]
        have hr0:gy (aR o.text).1=0:=by
         grind [DS,absurd]
        refine {hs with pol:=hr0,ver:= ?_}
        have:=hs.ver;constructor
        ·grind
        grind
       ·simp only[hp,if_false]
        exact {hs with ver:=vk}
      ·simp only[k7,if_false]
       by_cases k8:o.kind=8
       ·simp only[k8,if_true]
        have hk:¬(2≤o.kind∧o.kind≤4):=aco;simp only[k8,if_true]at hr;have hlt:¬s.tick>1099511627776 - o.review:=fun h=>agf
        simp only[k8,show¬((8:Int)=2∨(8:Int)=6) by decide,if_false,if_true,Bool.and_eq_true,decide_eq_true_eq]at hok
        refine {hs with tick:= ?_,ver:=vk}
        have:=hs.tick;constructor
        ·grind
        grind
       ·simp only[k8,if_false]
        exact {hs with ver:=vk}
theorem pq{k:Nat}{s:an}(o:OpD)(hs:dz k s):dz (k+1) (dP aR s o):=by
 unfold dP
 by_cases h:bO s o=0
 ·simp_all [if_pos,Mq]
 ·rw[if_neg h]
  exact {hs with ver:=⟨hs.ver.1,by have:=hs.ver.2;omega⟩}
def kH(a b:aJ):Bool:=a.id==b.id && (a.owner==b.owner && (a.state==b.state && (eqL iT a.fields b.fields && eqL nE a.log b.log)))
def sE(l:List OpD)(n:Nat):List OpD:=(l.take n).map Jk
theorem fc.eq{xs:List AV}{sz:Nat}(j:Nat)(hj:j<xs.length)(hz:xs[j].cells.length=sz)(k:AV→Prop):fc xs (j:Int) sz k=k (.pe xs[j] 0):=propext ⟨fun h=>by
 obtain⟨_,b,hb,_,hk⟩:=h;have:xs[j]? =some xs[j]:=acw;rw[show((j:Int).toNat)=j by simp,this]at hb
 cases hb;exact hk,fun h=>fc.at j hj hz h⟩
end Go.Bf
namespace Go.Proofs.YtcochaoekecfdaaGreatDoor
open Go Go.Ab Go.Bf
def CRow(x:AV)(c:aJ):Prop:=∃qf ql,x= .agg [.s c.id,.s c.owner,.s c.state,.sl (c.fields.map bz) qf,.sl (c.log.map fU) ql]
def CRows(xs:List AV)(cs:List aJ):Prop:=xs.length=cs.length∧∀i (h1:i<xs.length) (h2:i<cs.length),CRow xs[i] cs[i]
theorem crows(cs:List aJ):CRows (cs.map cr) cs:=⟨acw,fun i h1 h2=>by rw[ace];exact⟨_,_,rfl⟩⟩
theorem Kx{xs ys:List AV}{cs ds:List aJ}(h1:CRows xs cs)(h2:CRows ys ds)(q1 q2:Perm)(h:Heap):ai Tryz.prog 80 [.sl xs q1,.sl ys q2] h fun r h' =>r= .b (eqL kH cs ds)∧h' =h:=by
 refine acn Tryz.func80 82 [.tmp 4] fun hwf=>?_
 cases d1:((xs.length:Int) !=(ys.length:Int))
 ·have e1:xs.length=ys.length:=by grind
  have e2:cs.length=ds.length:=by rw[←h1.1,←h2.1,e1]
  simp -implicitDefEqProofs only[go_sem,d1];refine sS.wf fun hw=>?_
  have hxl:=hw 11 (.sl xs q1) acF;simp only[wfA,wf1,lim]at hxl;refine .intro (fun m ρ h' =>h' =h∧∃i:Nat,i≤xs.length∧m=xs.length - i∧(∀j (a:j<cs.length) (b:j<ds.length),j<i→kH cs[j] ds[j]=true)∧lk ρ 0=some (.sl xs q1)∧lk ρ 1=some (.sl ys q2)∧lk ρ 12=some (.i xs.length)∧lk ρ 13=some (.i i)) xs.length ?_ ?_
  ·refine⟨rfl,0,aco,rfl,fun j _ _ hj=>aco,?_,?_,?_,?_⟩<;>simp -implicitDefEqProofs only[go_sem]
  ·rintro m ρ h' ⟨rfl,i,hi,rfl,hc,r0,r1,r12,r13⟩
   cases e3:decide ((i:Int)<(xs.length:Int))
   ·have hge:i=xs.length:=by grind
    simp -implicitDefEqProofs only[go_sem,r12,r13,e3];exact .same (.refl _) ⟨by rw[cV e2 fun j a b=>hc j a b (by rw[hge,h1.1];exact a)];rfl,rfl⟩
   ·have hlt:i<xs.length:=ack e3
    have hlt2:i<ys.length:=aco;have hlt3:i<cs.length:=by rw[←h1.1];omega
    have hlt4:i<ds.length:=aco;have w1:IntKind.i64.wrap ((i:Int)+1)=((i+1:Nat):Int):=acE;obtain⟨qf,ql,ex⟩:=h1.2 i hlt hlt3;obtain⟨qf',ql',ey⟩:=h2.2 i hlt2 hlt4;have ix:=fun k=>fc.eq (sz:=5) i hlt (by rw[ex];rfl) k
    have iy:=fun k=>fc.eq (sz:=5) i hlt2 afS k
    rw[ex]at ix;rw[ey]at iy;have hno:kH cs[i] ds[i]=false→eqL kH cs ds=false:=fun e=>jh i hlt3 hlt4 e
    have hdef:kH cs[i] ds[i]=(cs[i].id==ds[i].id && (cs[i].owner==ds[i].owner && (cs[i].state==ds[i].state && (eqL iT cs[i].fields ds[i].fields && eqL nE cs[i].log ds[i].log)))):=rfl;have hst:=hc;obtain⟨c,ec⟩:∃c,cs[i]=c:=⟨_,rfl⟩;obtain⟨d,ed⟩:∃d,ds[i]=d:=⟨_,rfl⟩;rw[ec,ed]at hdef hno;rw[ec]at ix;rw[ed]at iy;simp -implicitDefEqProofs only[go_sem,r12,r13,e3];simp only[List.append];simp -implicitDefEqProofs only[go_sem];refine .quiet acs ?_;simp -implicitDefEqProofs only[go_sem,r0,r1,ix,iy,and_self];cases a1:(c.id==d.id)
    case false=>
     exact ag0
    simp -implicitDefEqProofs only[go_sem,r0,r1,ix,iy,and_self];cases a2:(c.owner==d.owner)
    case false=>
     exact ag0
    simp -implicitDefEqProofs only[go_sem,r0,r1,ix,iy,and_self];cases a3:(c.state==d.state)
    case false=>
     exact ag0
    simp -implicitDefEqProofs only[go_sem,r0,r1,ix,iy,and_self];refine⟨_,Ch c.fields d.fields qf qf' _,?_⟩;cases a4:eqL iT c.fields d.fields
    ·exact ag0
    simp -implicitDefEqProofs only[go_sem,r0,r1,ix,iy,and_self];refine⟨_,F3 c.log d.log ql ql' _,?_⟩;cases a5:eqL nE c.log d.log
    ·exact ag0
    simp -implicitDefEqProofs only[go_sem,r13,w1];refine⟨_,?_,rfl,i+1,aco,rfl,fun j a b hj=>?_,?_,?_,?_,?_⟩
    ·omega
    ·grind
    all_goals simp -implicitDefEqProofs only[go_sem,r0,r1,r12]
 ·have e2:cs.length≠ds.length:=by
   rw[←h1.1,←h2.1]
   grind
  simp -implicitDefEqProofs only[go_sem,d1];exact .same (.refl _) ⟨by rw[gT e2];rfl,rfl⟩
theorem Ri(l:List OpD)(n:Nat)(hn:n≤1000)(h:Heap):ai Tryz.prog 27 [.sl (l.map opA) .no,.i n] h fun r h' =>r= .sl ((sE l n).map opA) .no∧h' =h:=by
 refine acn Tryz.func27 27 [.tmp 4] fun hwf=>?_
 simp -implicitDefEqProofs only[go_sem];have hsz:(U 32).sz=12:=acF;refine sS.wf fun hw=>?_
 refine .intro (fun m ρ H=>∃(i:Nat) (y:AV),Acc U 32 h H y ((sE (l.take i) n).map opA)∧i≤l.length∧i≤n∧m=l.length - i∧lk ρ 0=some (.sl (l.map opA) .no)∧lk ρ 1=some (.i n)∧lk ρ 5=some y∧lk ρ 6=some (.i i)) l.length ?_ ?_
 ·refine⟨0,.sl [] .full,by simpa[sE]using Acc.full (.refl _),aco,aco,rfl,?_,?_,?_,?_⟩<;>simp -implicitDefEqProofs only[go_sem]
 ·rintro m ρ H ⟨i,y,hy,hi,hin,rfl,r0,r1,r5,r6⟩
  obtain⟨q,eq⟩:=hy.row;subst eq
  by_cases hgo:i<l.length∧i<n
  ·have d1:decide ((i:Int)<(l.length:Int))=true:=decide_eq_true aco
   have d2:decide ((i:Int)<(n:Int))=true:=decide_eq_true aco;have w1:IntKind.i64.wrap ((i:Int)+1)=((i+1:Nat):Int):=acE;have hsn:sE (l.take (i+1)) n=sE (l.take i) n++ [Jk l[i]]:=by
    grind [sE,Nat.min_eq_right,List.take_append_getElem]
   simp -implicitDefEqProofs only[go_sem,r0,r1,r5,r6,acd,d1,d2];refine .at i acp acz ?_;have hok:=fun(G:Heap)=>Rh l[i] G
   simp only[opA,opC]at hok;simp -implicitDefEqProofs only[go_sem,ace,opA,opC];refine(hok _).pthen ?_;simp -implicitDefEqProofs only[go_sem];refine Acc.app hy (zs:=[opA (Jk l[i])]) aco acr (fun k hk=>hk) (by rw[hsz];exact br (f:=opA) (fun _=>rfl) _) (by rw[hsz];intro z hz;rw[List.mem_singleton.1 hz];rfl) (by simp only[go_sem,sE,acd,List.length_take,List.length_cons,List.length_nil]<;>omega) fun yz Gz hyz kpz=>?_
   simp -implicitDefEqProofs only[go_sem,r6,w1];refine⟨_,?_,i+1,yz,acp,aco,aco,rfl,?_,?_,?_,?_⟩
   ·omega
   all_goals simp -implicitDefEqProofs only[go_sem,r0,r1]
  ·have hall:sE (l.take i) n=sE l n:=by
    grind [sE,Nat.lt_or_ge,Nat.min_self,List.take_of_length_le]
   rw[hall]at hy;cases d1:decide ((i:Int)<(l.length:Int))
   ·simp -implicitDefEqProofs only[go_sem,r0,r5,r6,acd,d1]
    exact .mk _ (by rw[hall];exact .sl _ _) hy.1 ⟨rfl,rfl⟩
   ·have d2:decide ((i:Int)<(n:Int))=false:=decide_eq_false fun h3=>hgo ⟨acp,aco⟩
    simp -implicitDefEqProofs only[go_sem,r0,r1,r5,r6,acd,d1,d2];exact .mk _ (by rw[hall];exact .sl _ _) hy.1 ⟨rfl,rfl⟩
end Go.Proofs.YtcochaoekecfdaaGreatDoor
namespace Go.Bf
open Go Go.Ab Go.Proofs.YtcochaoekecfdaaGreatDoor
def Ag(l:List bD):Prop:=l.length≤16∧∀v∈l,bL v=true∧∀w∈l.head?,v.kind=w.kind
structure OO (gs:List bp):Prop where
 len:gs.length≤64
 each:∀g∈gs,1≤g.cat∧g.cat≤4∧bt g.name=true∧Ag g.bag
 dist:gs.Pairwise fun a b=>iI b.cat b.name a=false
def wO(g:bp):Int×Txt:=(g.cat,g.name)
theorem KH(gs:List bp):(gs.Pairwise fun a b=>iI b.cat b.name a=false)↔(gs.map wO).Nodup:=by
 simp[List.Nodup,List.pairwise_map,bp,iI,false,wO]
theorem jc{v:bD}(h:bL v=true):Ag [v]:=⟨acw,fun w hw=>acp⟩
theorem oP{s:Txt}(h:bt s=true):bL (idV s)=true:=by grind [bL,idV]
theorem Ib{l:List gj}(h:∀r∈l,bt r.role=true)(s:Txt):Ag (dj l s):=by
 have hv:∀v∈dj l s,bL v=true∧v.kind=5:=fun v hv=>by
  have:=List.mem_of_mem_take hv;obtain⟨r,hr,rfl⟩:=List.mem_map.1 this;exact⟨oP acp,rfl⟩
 refine⟨by grind [dj,List.length_take],fun v hm=>⟨(hv v hm).1,fun w hw=>?_⟩⟩
 grind
theorem Ky{c:UInt8}{i j:Nat}(h:sZ c j=true)(hi:i≠0):sZ c i=true:=by
 simp only[sZ,Bool.or_eq_true,Bool.and_eq_true,decide_eq_true_eq]at h⊢
 grind
theorem Fl{n:Txt}(h:bt n=true)(hl:n.length≤14):bt ([102,95]++n)=true:=by
 simp only[bt,Bool.and_eq_true,decide_eq_true_eq]at h⊢;obtain⟨⟨h1,h2⟩,h3⟩:=h;refine⟨⟨?_,acw⟩,acp⟩;unfold vL at h1⊢;rw[List.all_eq_true]at h1⊢
 rintro⟨c,i⟩ hp
 rw[List.mk_mem_zipIdx_iff_getElem?]at hp
 match i,hp with
 |0,hp=>cases hp;rfl
 |1,hp=>cases hp;rfl
 |i+2,hp=>
  exact Ky (h1 (c,i) (List.mk_mem_zipIdx_iff_getElem?.2 hp)) aco
theorem Gh{s:Txt}(h:s∈pn):bt s=true:=by
 simp only[pn,List.mem_cons,List.not_mem_nil,or_false]at h;rcases h with rfl|rfl|rfl|rfl<;>kernel_rfl
theorem Cy(k:Int)(h:1≤k∧k≤8):bt (jF k)=true:=by
 have:(List.range 9).all (fun n=>bt (jF n))=true:=acF
 have h2:=List.all_eq_true.1 this k.toNat acp
 rwa [show((k.toNat:Nat):Int)=k by omega]at h2
theorem Mx(l:List uy)(s:Txt):bL (uq l s)=true:=by
 unfold uq;cases l.any fun x=>x.actor==s<;>rfl
theorem Ii{c:aJ}(hc:ux c)(s:Txt):∀g∈cH c s,g.cat=3∧bt g.name=true∧Ag g.bag:=by
 intro g hg;simp only[cH,List.mem_append,List.mem_cons,List.not_mem_nil,or_false]at hg;rcases hg with((rfl|rfl|rfl|rfl|rfl)|hg)|hg
 ·exact⟨rfl,acF,jc (oP hc.id)⟩
 ·exact⟨rfl,acF,jc (oP hc.owner)⟩
 ·exact⟨rfl,acF,jc (oP (Gh hc.state))⟩
 ·exact⟨rfl,acF,jc acF⟩
 ·exact⟨rfl,acF,jc (Mx _ _)⟩
 ·cases hl:c.log.getLast? with
  |none=>grind
  |some x=>
   rw[hl]at hg;rw[List.mem_singleton.1 hg];exact⟨rfl,acF,jc (oP (hc.actor x (List.mem_of_getLast? hl)).1)⟩
 ·obtain⟨f,hf,rfl⟩:=List.mem_map.1 hg
  obtain⟨hf1,hf2⟩:=List.mem_filter.1 hf;have hf2:f.name.length≤14:=acp;obtain⟨h1,h2,_⟩:=hc.field f hf1;exact⟨rfl,Fl h1 hf2,jc h2⟩
theorem Ih{c:aJ}(hc:ux c)(s:Txt):((cH c s).map wO).Nodup:=by
 have hfn:(((c.fields.filter fun f=>decide (f.name.length≤14)).map fun f=>(⟨3,[102,95]++f.name,[f.val]⟩:bp)).map wO).Nodup:=by
  rw[List.map_map,List.Nodup,List.pairwise_map];refine((List.Pairwise.filter _ hc.asc).imp fun {a b} hab he=>?_)
  simp_all [Function.comp,wO,Prod.mk.injEq,true_and,List.append_cancel_left_eq,lt_irrefl]
 have hff:∀x∈((c.fields.filter fun f=>decide (f.name.length≤14)).map fun f=>(⟨3,[102,95]++f.name,[f.val]⟩:bp)).map wO,∃t,x=(3,102::t):=by
  intro x hx;obtain⟨g,hg,rfl⟩:=List.mem_map.1 hx;obtain⟨f,hf,rfl⟩:=List.mem_map.1 hg;exact⟨_,rfl⟩
 unfold cH;rw[List.map_append,List.nodup_append];refine⟨?_,hfn,?_⟩
 ·cases c.log.getLast? with
  |none=>simp[wO,idT]
  |some x=>simp[wO,idT]
 ·intro a ha b hb
  obtain⟨t,rfl⟩:=hff b hb;intro e;cases hl:c.log.getLast? with
  |none=>
   simp_all [wO,idT]
  |some x=>
   simp_all [wO,idT]
theorem Ia{k:Nat}{s:an}{o:OpD}(hs:dz k s)(hf:eU o=true):OO (fA s o):=by
 have F:=tD hf;have hcs:∀g∈(if bZ s.cases o.case=true∧o.kind≠6 then cH (bw s.cases o.case) o.subj else []),g.cat=3∧bt g.name=true∧Ag g.bag:=by
  intro g hg;split at hg
  ·rename_i ht
   exact Ii (hs.case _ (qj hs.asc ht.1).1) _ g hg
  ·cases hg
 have hcd:((if bZ s.cases o.case=true∧o.kind≠6 then cH (bw s.cases o.case) o.subj else []).map wO).Nodup:=by
  split
  ·rename_i ht
   exact Ih (hs.case _ (qj hs.asc ht.1).1) _
  ·exact .nil
 have hcl:(if bZ s.cases o.case=true∧o.kind≠6 then cH (bw s.cases o.case) o.subj else []).length≤22:=by
  split
  ·rename_i ht
   have hc:=hs.case _ (qj hs.asc ht.1).1;have h16:=hc.nfields;have:((bw s.cases o.case).fields.filter fun f=>decide (f.name.length≤14)).length≤(bw s.cases o.case).fields.length:=List.length_filter_le _ _
   simp only[cH,ach,acd,List.length_cons,List.length_nil];cases (bw s.cases o.case).log.getLast? <;>simp<;>omega
  ·simp
 unfold fA;generalize (if bZ s.cases o.case=true∧o.kind≠6 then cH (bw s.cases o.case) o.subj else [])=C at hcs hcd hcl⊢
 have e1:(if o.field= []then []else [(⟨2,[102,105,101,108,100],[idV o.field]⟩:bp)])=if o.field= []then []else [(⟨2,[102,105,101,108,100],[idV o.field]⟩:bp)]:=rfl
 have hro:Ag (dj s.roles o.subj):=Ib (fun r hr=>(hs.role r hr).2) _
 have htk:bL ⟨4,s.tick,[]⟩=true:=by
  have:=hs.tick;simp[bL,this]
 have hac:=oP (Cy o.kind F.kind);have hsu:=oP F.subj;refine⟨?_,?_,?_⟩
 ·by_cases p1:o.field= []<;>by_cases p2:o.to= []<;>simp[p1,p2]<;>omega
 ·intro g hg
  simp only[List.mem_append,List.mem_cons,List.not_mem_nil,or_false]at hg;rcases hg with((((rfl|rfl|rfl)|hg)|hg)|rfl)|hg
  ·exact⟨acw,acw,acs,jc hsu⟩
  ·exact⟨acw,acw,acs,hro⟩
  ·exact⟨acw,acw,acs,jc hac⟩
  ·split at hg
   ·cases hg
   ·rename_i hne
    rw[List.mem_singleton.1 hg];exact⟨acw,acw,acs,jc (oP (j8 F.field hne))⟩
  ·split at hg
   ·cases hg
   ·rename_i hne
    rw[List.mem_singleton.1 hg];exact⟨acw,acw,acs,jc (oP (j8 F.to hne))⟩
  ·exact⟨acw,acw,acs,jc htk⟩
  ·obtain⟨h1,h2,h3⟩:=hcs g hg
   exact⟨aco,aco,h2,h3⟩
 ·rw[KH,List.map_append,List.nodup_append]
  refine⟨?_,hcd,?_⟩
  ·by_cases p1:o.field= []<;>by_cases p2:o.to= []<;>simp[p1,p2,wO,idT]
  ·intro a ha b hb e
   subst e;obtain⟨g,hg,rfl⟩:=List.mem_map.1 hb;have h3:=(hcs g hg).1;have hne:∀x∈([⟨1,idT,[idV o.subj]⟩,⟨1,[114,111,108,101],dj s.roles o.subj⟩,⟨2,[110,97,109,101],[idV (jF o.kind)]⟩]++(if o.field= []then []else [⟨2,[102,105,101,108,100],[idV o.field]⟩])++(if o.to= []then []else [⟨2,[116,111],[idV o.to]⟩])++ [⟨4,[110,111,119],[⟨4,s.tick,[]⟩]⟩]:List bp),x.cat≠3:=by
    intro x hx;simp only[List.mem_append,List.mem_cons,List.not_mem_nil,or_false]at hx;rcases hx with(((rfl|rfl|rfl)|hx)|hx)|rfl
    ·simp
    ·simp
    ·simp
    ·split at hx
     ·cases hx
     ·rw[List.mem_singleton.1 hx];simp
    ·split at hx
     ·cases hx
     ·rw[List.mem_singleton.1 hx];simp
    ·simp
   obtain⟨x,hx,he⟩:=List.mem_map.1 ha;have:x.cat=g.cat:=congrArg Prod.fst he;exact hne x hx (by rw[this,h3])
def sL:an→List AV
 |⟨tick,cs,rv,nt,ro,.mk pid set alg tgt rules kids obls,ver⟩=>[.i tick,fk cs,ja rv,jw nt,dI ro,.s pid,.b set,.i alg,aS tgt,.sl (rules.map aA) .no,.sl (cy kids) .no,ay obls,.i ver]
theorem oc(s:an):cg s= .agg (sL s):=by
 obtain⟨tick,cs,rv,nt,ro,⟨pid,set,alg,tgt,rules,kids,obls⟩,ver⟩:=s;rfl
theorem C0(c:aJ):kH c c=true:=by
 have h1:eqL iT c.fields c.fields=true:=cV rfl fun j _ _=>by simp[iT]
 have h2:eqL nE c.log c.log=true:=cV rfl fun j _ _=>by simp[nE]
 simp[kH,h1,h2]
theorem EX(cs:List aJ):eqL kH cs cs=true:=cV rfl fun j _ _=>C0 _
end Go.Bf
namespace Go.Proofs.YtcochaoekecfdaaGreatDoor
open Go Go.Ab Go.Bf
theorem Nu{x:AV}(h:Dat U 54 x):∃l:List OpD,x= .sl (l.map opA) .no∧l.length≤maxLen∧∀o∈l,pQ o:=h.list acF fun y hy=>Qs hy
theorem Uq{l:List OpD}{n:Nat}(h:∀o∈l,pQ o):∀o∈sE l n,pQ o:=fun o ho=>by
 obtain⟨a,ha,rfl⟩:=List.mem_map.1 ho;exact h a acp
end Go.Proofs.YtcochaoekecfdaaGreatDoor
namespace Go.Bf
open Go Go.Ab Go.Proofs.YtcochaoekecfdaaGreatDoor
structure Stays (cs cs' :List aJ) (id:Txt):Prop where
 len:cs'.length≤cs.length+1
 ids:∀c∈cs,∃d∈cs',d.id=c.id
 rest:∀c∈cs,c.id≠id→c∈cs'
abbrev aT:=Nat×Nat
def naM:aT:=(0,0)
def bl:aT:=(2,0)
def cI:aT:=(0,2)
def AO:aT:=(1,0)
def AN:aT:=(0,1)
def oQ:aT:=(1,1)
def uZ:List aT:=[naM,bl,cI,AO,AN,oQ]
abbrev jE:=aT×List cD
def gK(m:aT):aT:=if m=bl then AO else if m=cI then AN else m
def nU(a b:aT):aT:=(max a.1 b.1,max a.2 b.2)
def Ey(m:aT):aT:=(m.2,m.1)
def qO(j:aT):aT:=
 if j.2=2 then cI else if j.2=1∧1≤j.1 then oQ else if j.2=1 then AN else if j.1=2 then bl else if j.1=1 then AO else naM
def xe(l:List aT):aT:=l.foldl nU naM
def firstM(l:List aT):aT:=(l.find? fun m=>decide (m≠naM)).getD naM
def zo(m:aT):Bool:=decide (m=naM∨m=bl∨m=cI)
def nZ:List aT→aT→aT
 | [],j=>j
 |m::r,j=>if zo m=false then oQ else nZ r (if j=naM then m else if m≠naM then oQ else j)
def gS(alg:Int)(l:List aT):aT:=
 if alg=1 then qO (xe l)
 else if alg=2 then Ey (qO (Ey (xe l)))
 else if alg=3 then firstM l
 else if alg=4 then nZ l naM
 else if alg=5 then(if bl∈l then bl else cI)
 else if alg=6 then(if cI∈l then cI else bl)
 else naM
def xF(gs:List bp)(a:pW):List bD:=getD gs a.cat a.name
def mX(a b:bD):Option Bool:=
 if bL a=false∨bL b=false∨a.kind≠b.kind∨a.kind=1 then none
 else if a.kind=3∨a.kind=5 then some (Op.bytesLess a.s b.s)else some (decide (a.n<b.n))
def cU(m:bM)(v:bD):Option Bool:=
 if m.op=1 then(if v.kind=m.val.kind then some (eqV v m.val)else none)
 else if m.op=2 then mX v m.val else mX m.val v
def jN(gs:List bp)(m:bM):Nat:=
 if xF gs m.attr= []∧m.attr.must=true then 1
 else if(xF gs m.attr).any fun v=>cU m v==some true then 2
 else if(xF gs m.attr).any fun v=>cU m v==none then 1 else 0
def CA(gs:List bp)(l:List bM):Nat:=l.foldl (fun a m=>min a (jN gs m)) 2
def zH(gs:List bp)(l:List (List bM)):Nat:=l.foldl (fun a x=>max a (CA gs x)) 0
def mG(gs:List bp)(t:fO):Nat:=t.foldl (fun a x=>min a (zH gs x)) 2
structure js where
 bag:List bD
 v:bD
 e:Int
def eS(b:Bool):bD:=⟨1,if b then 1 else 0,[]⟩
def iR(b:Bool):js:=⟨[],eS b,0⟩
def isI(x:js)(n:Int):Bool:=x.e==0 && eqV x.v ⟨1,n,[]⟩
abbrev w64(n:Int):Int:=IntKind.i64.wrap n
def Kb(a b:Int):Bool:=decide (0<b) && decide (w64 (9223372036854775807 - b)<a)||decide (b<0) && decide (a<w64 (-9223372036854775808 - b))
def Mr(a b:Int):Bool:=decide (0<b) && decide (a<w64 (-9223372036854775808+b))||decide (b<0) && decide (w64 (9223372036854775807+b)<a)
def Jf(a b:Int):Bool:=a== -1 && b== -9223372036854775808||b== -1 && a== -9223372036854775808||a !=0 && w64 ((w64 (a*b)).tdiv a) !=b
def nF(e:Int):bD×Int:=(ax,e)
def zS(o:Bool)(n:Int):bD×Int:=if o then nF 3 else(⟨2,w64 n,[]⟩,0)
def gQ(op:Int)(l:List bD):bD×Int:=
 if¬(6≤op∧op≤13)∨l.length≠(if op=11 then 1 else 2)∨(l.all bL)=false then nF 1
 else
  let a:=l.getD 0 ax;let b:=l.getD 1 ax
  if op=6 then(if a.kind=b.kind then(eS (eqV a b),0)else nF 2)
  else if op=7 then(match mX a b with
   |some x=>(eS x,0)
   |none=>nF 2)
  else if op=8∨op=9∨op=10 then
   (if l.all fun v=>v.kind==2 then(if op=8 then zS (Kb a.n b.n) (a.n+b.n)else if op=9 then zS (Mr a.n b.n) (a.n - b.n)else zS (Jf a.n b.n) (a.n*b.n))else nF 2)
  else if(l.all fun v=>v.kind==1)=false then nF 2
  else if op=11 then(eS (a.n==0),0)
  else if op=12 then(eS (a.n==1 && b.n==1),0)
  else(eS (a.n==1||b.n==1),0)
def opsOf(op:Int):Nat:=if op=1∨op=2 then 0 else if op=3∨op=4∨op=11 then 1 else 2
def Ae(r:bD×Int):js:=⟨[],r.1,r.2⟩
def lf(gs:List bp)(n:aM)(l:List js):js:=
 if n.op=1 then⟨[],n.val,0⟩
 else if n.op=2 then(if xF gs n.attr= []∧n.attr.must=true then⟨[],ax,4⟩else⟨xF gs n.attr,ax,0⟩)
 else if(n.op=12∨n.op=13)∧(l.any fun x=>isI x (n.op - 12))=true then iR (n.op==13)
 else match l.find? fun x=>x.e !=0 with
  |some x=>⟨[],ax,x.e⟩
  |none=>
   if n.op=3 then(match (l.headD ⟨[],ax,0⟩).bag with
    | [v]=>⟨[],v,0⟩
    |_=>⟨[],ax,4⟩)
   else if n.op=4 then⟨[],⟨2,(l.headD ⟨[],ax,0⟩).bag.length,[]⟩,0⟩
   else if n.op=5 then iR ((l.headD ⟨[],ax,0⟩).bag.any fun v=>eqV v (l.getD 1 ⟨[],ax,0⟩).v)
   else Ae (gQ n.op (l.map (·.v)))
def zn(gs:List bp)(st:List js)(n:aM):List js:=st.take (st.length - opsOf n.op)++ [lf gs n (st.drop (st.length - opsOf n.op))]
def we(gs:List bp)(l:List aM):js:=if l= []then Ae (nF 1)else(l.foldl (zn gs) []).headD (Ae (nF 1))
def qp(gs:List bp)(l:List aM):Nat:=if l.isEmpty then 2 else if isI (we gs l) 1 then 2 else if isI (we gs l) 0 then 0 else 1
def ew(l:List cD)(m:aT):List cD:=l.filter fun o=>o.on==1 && m==bl||o.on==2 && m==cI
def mV(r:cN)(t c:Nat):jE:=
 let m:=if r.deny then cI else bl
 if t=0∨t=2∧c=0 then(naM,[])else if t=1∨c=1 then(gK m,[])else(m,ew r.obls m)
def gY(gs:List bp)(r:cN):jE:=mV r (mG gs r.tgt) (qp gs r.cond)
def eD(alg:Int)(m:aT)(parts:List jE):List cD:=
 if alg=3 then((parts.find? fun x=>x.1==m).map (·.2)).getD []else((parts.filter fun x=>x.1==m).map (·.2)).flatten
def pL(alg:Int)(obls:List cD)(t:Nat)(parts:List jE):jE:=
 let m:=gS alg (parts.map (·.1))
 if t=0 then(naM,[])else if t=1 then(gK m,[])else if m≠bl∧m≠cI then(m,[])
 else(m,eD alg m parts++ew obls m)
mutual
def fu(gs:List bp):bB→jE
 |.mk id set alg tgt rules kids obls=>if mG gs tgt=0 then(naM,[])else pL alg obls (mG gs tgt) (rules.map (gY gs)++mw gs kids)
def mw(gs:List bp):List bB→List jE
 | []=>[]
 |k::r=>fu gs k::mw gs r
end
theorem tu(gs:List bp):∀l:List bB,mw gs l=l.map (fu gs)
 | []=>acF
 |k::r=>by simp[mw,tu gs r]
def sI:bB→fO
 |.mk _ _ _ t _ _ _=>t
def nV:fO→Option bM
 | []=>none
 | [l]::r=>match l.find? fun m=>m.op==1 && !m.attr.must with
  |some m=>some m
  |none=>nV r
 |_::r=>nV r
def sC(gs:List bp)(p:bB):Bool:=match nV (sI p)with
 |none=>true
 |some m=>decide (jN gs m≠0)
mutual
def lg(gs:List bp):bB→bB
 |.mk id set alg tgt rules kids obls=> .mk id set alg tgt rules (j3 gs kids) obls
def j3(gs:List bp):List bB→List bB
 | []=>[]
 |k::r=>if sC gs k then lg gs k::j3 gs r else j3 gs r
end
end Go.Bf
namespace Go.Bf
open Go Go.Ab
def vB:Nat→Nat→Txt
 |0,_=>[]
 |f+1,u=>if u<128 then [UInt8.ofNat u]else UInt8.ofNat (u % 128+128)::vB f (u / 128)
def zig(n:Int):Nat:=if 0≤n then 2*n.toNat else 2*(-n).toNat - 1
def oV(n:Int):Txt:=vB 10 (zig n)
def fy(s:Txt):Txt:=oV s.length++s
def zy(v:bD):Txt:=oV v.kind++(if v.kind=3∨v.kind=5 then fy v.s else oV v.n)
def lJ(o:OpD):Txt:=oV o.kind++(fy o.subj++(fy o.case++(fy o.field++(fy o.to++(zy o.val++(oV o.review++(fy o.text++(fy o.reason++zy (eS o.glass)))))))))
theorem RT{n:Int}(h:i64 n):zig n<128 ^ 10:=by
 grind [i64,zig,Nat]
structure Wa (v:bD):Prop where
 kind:i64 v.kind
 n:i64 v.n
 s:v.s.length≤1000000
 one:(v.kind=3∨v.kind=5→v.n=0)∧(¬(v.kind=3∨v.kind=5)→v.s= [])
structure OpC (o:OpD):Prop where
 kind:i64 o.kind
 subj:o.subj.length≤1000000
 case:o.case.length≤1000000
 field:o.field.length≤1000000
 to:o.to.length≤1000000
 val:Wa o.val
 review:i64 o.review
 text:o.text.length≤1000000
 reason:o.reason.length≤1000000
structure RS where
 b:Txt
 at_:Nat
 bad:Bool
def unzig(u:Nat):Int:=if u % 2=1 then -((u / 2:Nat):Int) - 1 else((u / 2:Nat):Int)
def vn:Nat→Nat→Nat→Txt→Int×Nat
 |0,_,_,_=>(0,0)
 |_+1,_,_,[]=>(0,0)
 |f+1,i,u,c::r=>
  if(i=9∧1<c.toNat)∨(0<i∧c.toNat=0)then(0,0)
  else if c.toNat<128 then(unzig (u+c.toNat*128 ^ i),i+1)
  else vn f (i+1) (u+c.toNat % 128*128 ^ i) r
def lP(s:RS)(a:Nat):RS:=if s.bad=false∧a≤s.at_ then {s with at_:=a,bad:=true} else s
def rIn(s:RS)(lo hi:Int):Int×RS:=
 if s.bad then(0,s)else
 let x:=vn 10 0 0 (s.b.drop s.at_)
 if x.2=0∨x.1<lo∨hi<x.1 then(0,lP s s.at_)else(x.1,{s with at_:=s.at_+x.2})
def gx(s:RS):Int×RS:=rIn s (-9223372036854775808) 9223372036854775807
def bX(s:RS)(most:Int):Txt×RS:=
 let x:=rIn s 0 most
 if x.2.bad∨(x.2.b.length:Int) - x.2.at_<x.1 then([],lP x.2 s.at_)else((x.2.b.drop x.2.at_).take x.1.toNat,{x.2 with at_:=x.2.at_+x.1.toNat})
def tJ(k:Int):Bool:=k==3||k==5
def rM(s:RS):bD×RS:=
 let x:=rIn s 1 5
 let y:bD×RS:=if tJ x.1 then(let t:=bX x.2 64;(⟨x.1,0,t.1⟩,t.2))else(let t:=gx x.2;(⟨x.1,t.1,[]⟩,t.2))
 if y.2.bad then(ax,y.2)else if bL y.1=false then(ax,lP y.2 s.at_)else y
def rL(s:RS):bD×RS:=
 if s.at_<s.b.length∧s.b.getD s.at_ 0=0 then(ax,(rIn (rIn s 0 0).2 0 0).2)else rM s
def rOp(b:Txt):OpD×RS:=
 let k:=gx ⟨b,0,false⟩
 let s1:=bX k.2 16
 let s2:=bX s1.2 16
 let s3:=bX s2.2 16
 let s4:=bX s3.2 16
 let v:=rL s4.2
 let r:=gx v.2
 let t:=bX r.2 4096
 let w:=bX t.2 64
 let g:=rM w.2
 (⟨k.1,s1.1,s2.1,s3.1,s4.1,v.1,r.1,t.1,w.1,eqV g.1 (eS true)⟩,g.2)
def L5(s:RS):Bool:=decide (s.b.length≤s.at_) && !s.bad
def pU(b:Txt):Option OpD:=if L5 (rOp b).2 && eU (rOp b).1 && decide (lJ (rOp b).1=b)then some (rOp b).1 else none
theorem MQ{n:Int}(h:i64 n):zig n<18446744073709551616:=by
 grind [i64,zig]
theorem OH:∀(f v:Nat),0<f→vB f v≠ []
 |0,_,h=>aco
 |f+1,v,_=>by grind [vB]
end Go.Bf
namespace Go.Bf
open Go Go.Ab Go.Proofs.YtcochaoekecfdaaGreatDoor
theorem Bn{v:bD}(h:bL v=true)(hk:v.kind=3∨v.kind=5):v.n=0∧v.s.length≤64:=by
 unfold bL at h;rcases hk with e|e
 ·grind
 ·rw[if_neg aco,if_neg aco,if_neg aco,if_neg aco,if_pos e]at h
  simp only[bt,Bool.and_eq_true,beq_iff_eq,decide_eq_true_eq]at h;omega
theorem JU{v:bD}(h:bL v=true)(hk:¬(v.kind=3∨v.kind=5)):v.s= []:=by
 unfold bL at h
 grind
theorem uF{t:Txt}(h:iP t=true):t.length≤16:=by
 unfold iP at h;simp only[Bool.or_eq_true,beq_iff_eq]at h;rcases h with rfl|h
 ·simp
 simp_all [bt,Bool.and_eq_true,decide_eq_true_eq]
structure OpF (o:OpD):Prop where
 subj:o.subj.length≤16
 case:o.case.length≤16
 field:o.field.length≤16
 to:o.to.length≤16
 val:o.val=ax∨bL o.val=true
 text:o.text.length≤4096
 reason:o.reason.length≤64
theorem oI{o:OpD}(h:eU o=true):OpF o:=by
 simp only[eU,Bool.and_eq_true,decide_eq_true_eq]at h;obtain⟨⟨⟨⟨⟨⟨⟨h1,h2⟩,h3⟩,h4⟩,h5⟩,h6⟩,h7⟩,h8⟩:=h;simp only[bt,Bool.and_eq_true,decide_eq_true_eq]at h1;refine⟨h1.2,uF h4,uF h5,uF h6,?_,h3,?_⟩
 ·simp only[Bool.or_eq_true]at h7
  rcases h7 with h7|h7
  ·left
   generalize o.val=v at h7;obtain⟨k,n,s⟩:=v;simp only[eqV,ax,Bool.and_eq_true,beq_iff_eq]at h7;obtain⟨rfl,rfl,rfl⟩:=h7;rfl
  grind
 ·unfold lV at h2
  grind
theorem My(b:Bool):bL (eS b)=true:=by cases b<;>rfl
theorem get_some{b:Txt}{o:OpD}(h:pU b=some o):eU o=true∧lJ o=b:=by
 unfold pU at h
 grind
theorem tC{α:Type}(f:α→Nat):∀(l:List α) (a:Nat),l.foldl (fun a x=>min a (f x)) a≤a∧∀x∈l,l.foldl (fun a x=>min a (f x)) a≤f x
 | [],a=>acw
 |y::l,a=>by
  obtain⟨h1,h2⟩:=tC f l (min a (f y))
  grind
theorem NR{gs:List bp}:∀ {t:fO} {m:bM},nV t=some m→jN gs m=0→mG gs t=0:=by
 intro t;have main:∀(t:fO) (m:bM),nV t=some m→jN gs m=0→∃x∈t,zH gs x=0:=by
  intro t
  induction t with
  |nil=>intro m h;cases h
  |cons x r ih=>
   intro m h h0
   match x,h with
   | [],h=>obtain⟨y,hy,e⟩:=ih m h h0;exact⟨y,List.mem_cons_of_mem _ hy,e⟩
   | [l],h=>
    simp only[nV]at h;cases hf:l.find? fun m=>m.op==1 && !m.attr.must with
    |none=>rw[hf]at h;obtain⟨y,hy,e⟩:=ih m h h0;exact⟨y,List.mem_cons_of_mem _ hy,e⟩
    |some k=>
     rw[hf]at h;cases h;have hm:=List.mem_of_find?_eq_some hf;have hall:CA gs l=0:=by
      have:=(tC (jN gs) l 2).2 _ hm;rw[h0]at this;exact Nat.le_zero.1 this
     exact⟨[l],List.mem_cons_self ..,by grind [zH]⟩
   |a::b::c,h=>obtain⟨y,hy,e⟩:=ih m h h0;exact⟨y,List.mem_cons_of_mem _ hy,e⟩
 intro m h h0;obtain⟨x,hx,e⟩:=main t m h h0;have:=(tC (zH gs) t 2).2 x hx;rw[e]at this;exact Nat.le_zero.1 this
theorem N4{gs:List bp}{p:bB}(h:sC gs p=false):fu gs p=(naM,[]):=by
 obtain⟨id,set,alg,tgt,rules,kids,obls⟩:=p;unfold sC at h;simp only[sI]at h;cases hk:nV tgt with
 |none=>grind
 |some m=>
  simp_all [jN,fu,NR,if_true]
theorem NO(j:aT):nU j naM=j:=by simp[nU,naM]
inductive Drop:List jE→List jE→Prop
 |nil:Drop [] []
 |keep (x:jE) {a b:List jE} (h:Drop a b):Drop (x::a) (x::b)
 |skip {a b:List jE} (h:Drop a b):Drop a ((naM,[])::b)
theorem Drop.app{a b c:List jE}(h:Drop a b):Drop (c++a) (c++b):=by
 induction c with
 |nil=>exact h
 |cons x c ih=>grind [keep]
theorem Drop.join{a b:List jE}(h:Drop a b):∀j,(a.map (·.1)).foldl nU j=(b.map (·.1)).foldl nU j:=by
 induction h with
 |nil=>simp
 |keep x h ih=>grind
 |skip h ih=>grind [NO]
theorem Drop.first{a b:List jE}(h:Drop a b):firstM (a.map (·.1))=firstM (b.map (·.1)):=by
 unfold firstM
 congr 1
 induction h with
 |nil=>rfl
 |keep x h ih=>grind
 |skip h ih=>simpa using ih
theorem Drop.only{a b:List jE}(h:Drop a b):∀j,nZ (a.map (·.1)) j=nZ (b.map (·.1)) j:=by
 induction h with
 |nil=>simp
 |keep x h ih=>grind [nZ]
 |skip h ih=>
  intro j;have hs:zo naM=true:=acr;simp only[List.map_cons,nZ,hs,Bool.true_eq_false,if_false];rw[←ih]
  congr 1
  simp
theorem Drop.mem{a b:List jE}(h:Drop a b){m:aT}(hm:m≠naM):m∈a.map (·.1)↔m∈b.map (·.1):=by
 exact ahC
theorem Drop.comb{a b:List jE}(h:Drop a b)(alg:Int):gS alg (a.map (·.1))=gS alg (b.map (·.1)):=by
 unfold gS xe;rw[h.join,h.first,h.only];simp only[h.mem (show bl≠naM by decide),h.mem (show cI≠naM by decide)]
theorem Drop.parts{a b:List jE}(h:Drop a b)(alg:Int){m:aT}(hm:m≠naM):eD alg m a=eD alg m b:=by
 have h1:(a.find? fun x=>x.1==m)=b.find? fun x=>x.1==m:=by
  exact ahC
 have h2:(a.filter fun x=>x.1==m)=b.filter fun x=>x.1==m:=by
  clear h1;exact ahC
 simp only[eD,h1,h2]
theorem Drop.pL{a b:List jE}(h:Drop a b)(alg:Int)(obls:List cD)(t:Nat):pL alg obls t a=pL alg obls t b:=by
 unfold Go.Bf.pL;simp only[h.comb alg]
 by_cases hp:gS alg (b.map (·.1))=bl
 ·rw[hp,h.parts alg acr]
 ·by_cases hd:gS alg (b.map (·.1))=cI
  ·rw[hd,h.parts alg acr]
  grind
mutual
theorem AY(gs:List bp):∀p:bB,fu gs (lg gs p)=fu gs p
 |.mk id set alg tgt rules kids obls=>by
  simp only[lg,fu]
  by_cases h:mG gs tgt=0
  ·simp only[h,if_true]
  ·simp only[h,if_false]
   exact(AZ gs kids).app.pL alg obls _
theorem AZ(gs:List bp):∀l:List bB,Drop (mw gs (j3 gs l)) (mw gs l)
 | []=>by simp only[j3,mw];exact .nil
 |k::r=>by
  have ih1:=AY gs k;have ih2:=AZ gs r;simp only[j3,mw]
  by_cases h:sC gs k=true
  ·simp only[h,if_true,mw,ih1]
   exact .keep _ ih2
  ·have h:sC gs k=false:=by simpa using h
   simp only[h,Bool.false_eq_true,if_false,N4 h];exact .skip ih2
end
structure j5 where
 err:Int
 mark:aT
 glass:Bool
 val:bD
 hidden:Bool
 at_:Int
structure pX where
 op:OpD
 version:Int
 mark:aT
 glass:Bool
 obls:List cD
def OL:OpD:=⟨0,[],[],[],[],ax,0,[],[],false⟩
def xp:pX:=⟨OL,0,naM,false,[]⟩
def BX:Txt:=[103,108,97,115,115]
def qP(s:an)(r:oo):Bool:=r.isOpen && decide (100≤s.tick - r.tick)
def Lt(s:an)(subj:Txt):Bool:=s.reviews.any fun r=>r.subj==subj && qP s r
def sY(s:an)(o:OpD)(m:aT):Bool:=o.glass && (m==cI||m==naM) && yh s.roles ⟨o.subj,BX⟩ && !Lt s o.subj
def Bb(s:an)(o:OpD)(reason:Txt):oo:=⟨(s.reviews.length:Int)+1,s.tick,o.subj,o.case,jF o.kind,reason,true⟩
def ck(s:an)(o:OpD)(reason:Txt):an:={s with reviews:=s.reviews++ [Bb s o reason]}
def jK(l:List cD)(field:Txt):Bool:=l.any fun x=>x.kind==2 && x.arg==field
def iF(cs:List aJ)(id:Txt):Nat:=cs.findIdx fun c=>c.id==id
def iK(s:an)(o:OpD)(what:Txt):an:=
 if iF s.cases o.case<s.cases.length∧o.kind≠6 then {s with cases:=s.cases.modify (iF s.cases o.case) fun c=>jj s c o.subj what} else s
def fq(o:OpD)(done:Bool)(s:an)(x:cD):an:=
 if x.kind=1∧done=true then iK s o x.arg
 else if x.kind=3 then ck s o x.arg
 else if x.kind=4 then {s with notices:=s.notices++ [⟨s.tick,o.case,x.arg⟩]}
 else s
def dF(s:an)(o:OpD)(l:List cD)(done:Bool):an:=l.foldl (fq o done) s
def rT(s:an):Bool:=decide (256<s.reviews.length)||decide (256<s.notices.length)||s.cases.any fun c=>decide (256<c.log.length)
def gv(s:an)(o:OpD):jE:=fu (fA s o) s.policy
def jX(s:an)(o:OpD):Int×Int:=if bO s o=0∧o.kind=7 then((aR o.text).2.1,(aR o.text).2.2)else(bO s o,0)
def fB(s:an)(o:OpD):Bool:=sY s o (gv s o).1
def td(s:an)(o:OpD):Bool:=decide ((gv s o).1=bl)||fB s o
def di(s:an)(o:OpD):an:=
 let s1:=if fB s o then ck s o o.reason else s
 dF (if td s o then dP aR s1 o else s1) o (gv s o).2 (td s o)
def o8(s:an)(o:OpD):j5:=
 ⟨if td s o then 0 else 12,(gv s o).1,fB s o,if td s o && o.kind==2 && !jK (gv s o).2 o.field then eC (bw s.cases o.case).fields o.field else ax,td s o && o.kind==2 && jK (gv s o).2 o.field,0⟩
def aV(s:an)(o:OpD):an×j5×pX×Int:=
 if(jX s o).1≠0 then(s,⟨(jX s o).1,naM,false,ax,false,(jX s o).2⟩,xp,(jX s o).1)
 else if rT (di s o)then(s,⟨6,naM,false,ax,false,0⟩,xp,6)
 else(di s o,o8 s o,⟨o,s.version,(gv s o).1,fB s o,(gv s o).2⟩,0)
theorem yD(s:an)(o:OpD)(w:Txt):(iK s o w).tick=s.tick∧(iK s o w).roles=s.roles∧(iK s o w).policy=s.policy∧(iK s o w).version=s.version∧(iK s o w).reviews=s.reviews∧(iK s o w).notices=s.notices:=by
 grind [iK]
theorem CZ(o:OpD)(done:Bool)(s:an)(x:cD):(fq o done s x).tick=s.tick∧(fq o done s x).roles=s.roles∧(fq o done s x).policy=s.policy∧(fq o done s x).version=s.version:=by
 unfold fq;split
 ·grind [yD]
 ·split
  ·exact⟨rfl,rfl,rfl,rfl⟩
  grind
theorem Fa(o:OpD)(done:Bool):∀(l:List cD) (s:an),(dF s o l done).tick=s.tick∧(dF s o l done).roles=s.roles∧(dF s o l done).policy=s.policy∧(dF s o l done).version=s.version
 | [],s=>⟨rfl,rfl,rfl,rfl⟩
 |x::l,s=>by
  obtain⟨a1,a2,a3,a4⟩:=CZ o done s x;obtain⟨b1,b2,b3,b4⟩:=Fa o done l (fq o done s x);exact⟨b1.trans a1,b2.trans a2,b3.trans a3,b4.trans a4⟩
def gJ(o:OpD)(a b:List oo):Prop:=∃c,b=a++c∧∀i (h:i<c.length),c[i].id=((a.length+i+1:Nat):Int)∧c[i].isOpen=true∧c[i].subj=o.subj
theorem gJ.refl(o:OpD)(a:List oo):gJ o a a:=⟨[],acw,fun i h=>adj⟩
theorem gJ.trans{o:OpD}{a b c:List oo}(h1:gJ o a b)(h2:gJ o b c):gJ o a c:=by
 obtain⟨x,rfl,hx⟩:=h1;obtain⟨y,rfl,hy⟩:=h2;refine⟨x++y,acw,fun i h=>?_⟩
 grind
theorem gJ.open(s:an)(o:OpD)(w:Txt):gJ o s.reviews (ck s o w).reviews:=⟨[Bb s o w],rfl,fun i h=>by
 have:i=0:=acp;subst this;exact⟨acF,rfl,rfl⟩⟩
theorem gJ.duties(o:OpD)(done:Bool):∀(l:List cD) (s:an),gJ o s.reviews (dF s o l done).reviews
 | [],s=> .refl o _
 |x::l,s=>by
  have:gJ o s.reviews (fq o done s x).reviews:=by
   unfold fq;split
   ·grind [yD,refl]
   ·split
    ·exact .open s o _
    grind [refl]
  exact this.trans (gJ.duties o done l _)
structure Gv (c:aJ):Prop where
 id:bt c.id=true
 owner:bt c.owner=true
 state:c.state∈pn
 asc:EI c.fields
 nfields:c.fields.length≤16
 field:∀f∈c.fields,bt f.name=true∧bL f.val=true∧eqV f.val ax=false
 log1:1≤c.log.length
 actor:∀x∈c.log,bt x.actor=true∧i64 x.tick
theorem ux.w{c:aJ}(h:ux c):Gv c:=⟨h.id,h.owner,h.state,h.asc,h.nfields,h.field,h.log1,h.actor⟩
theorem Gv.ok{c:aJ}(h:Gv c)(hl:c.log.length≤256):ux c:=⟨h.id,h.owner,h.state,h.asc,h.nfields,h.field,h.log1,hl,h.actor⟩
structure lF (k:Nat) (s:an):Prop where
 tick:0≤s.tick∧s.tick≤1099511627776
 asc:Asc s.cases
 ncases:s.cases.length≤64
 case:∀c∈s.cases,Gv c
 roles:s.roles.length≤64
 role:∀r∈s.roles,bt r.subj=true∧bt r.role=true
 pol:gy s.policy=0
 ver:0≤s.version∧s.version≤k
theorem dz.w{k:Nat}{s:an}(h:dz k s):lF k s:=⟨h.tick,h.asc,h.ncases,fun c hc=>(h.case c hc).w,h.roles,h.role,h.pol,h.ver⟩
theorem lF.ok{k:Nat}{s:an}(h:lF k s)(ho:rT s=false):dz k s:=by
 unfold rT at ho;simp only[Bool.or_eq_false_iff,decide_eq_false_iff_not]at ho;refine⟨h.tick,h.asc,h.ncases,fun c hc=>(h.case c hc).ok ?_,aco,aco,h.roles,h.role,h.pol,h.ver⟩
 grind
theorem Gk{k:Nat}{s:an}(o:OpD)(w:Txt)(h:lF k s):lF k (ck s o w):={h with}
theorem Gj{k:Nat}{s:an}{o:OpD}(hn:bt o.subj=true)(w:Txt)(h:lF k s):lF k (iK s o w):=by
 unfold iK;split
 ·refine {h with asc:=BK (kg fun x=>rfl) h.asc,ncases:=by simpa using h.ncases,case:= ?_}
  intro d hd;rcases mem_modify hd with hd|⟨hi,rfl⟩
  ·exact h.case d hd
  ·have hc:=h.case _ (aci hi)
   refine⟨hc.id,hc.owner,hc.state,hc.asc,hc.nfields,hc.field,agw,?_⟩;intro x hx;simp only[jj,List.mem_append,List.mem_singleton]at hx;rcases hx with hx|rfl
   ·exact hc.actor x hx
   ·exact⟨hn,by have:=h.tick;constructor<;>simp only<;>omega⟩
 omega
theorem Gi{k:Nat}{o:OpD}(hn:bt o.subj=true)(done:Bool){s:an}(x:cD)(h:lF k s):lF k (fq o done s x):=by
 unfold fq;split
 ·grind [Gj]
 ·split
  ·grind [Gk]
  ·split
   ·exact {h with}
   omega
theorem uj{k:Nat}{o:OpD}(hn:bt o.subj=true)(done:Bool):∀(l:List cD) {s:an},lF k s→lF k (dF s o l done)
 | [],s,h=>h
 |x::l,s,h=>uj hn done l (Gi hn done x h)
theorem B8{k:Nat}{s:an}(o:OpD)(w:Txt)(h:dz k s)(hr:s.reviews.length≤999):dz k (ck s o w):={h with nrev:=by grind [ck]}
structure jC (k:Nat) (s:an):Prop extends dz k s where
 ids:∀i (h:i<s.reviews.length),s.reviews[i].id=((i+1:Nat):Int)
 nr:s.reviews.length≤256
 nn:s.notices.length≤256
theorem IW:jC 0 sD:={JK with ids:=fun i h=>adj,nr:=acr,nn:=acr}
theorem uc{s:an}{o:OpD}(h:(jX s o).1=0):bO s o=0∧eU o=true∧(o.kind=7→(aR o.text).2.1=0):=by
 unfold jX at h;have hr:bO s o=0:=by
  grind
 have hf:eU o=true:=by
  unfold bO at hr
  grind
 exact⟨hr,hf,fun hk=>acp⟩
theorem Kp{k:Nat}{s:an}{o:OpD}(h:jC k s)(hp:(jX s o).1=0):lF (k+1) (di s o):=by
 have hn:=(tD (uc hp).2.1).subj;have h1:dz k (if fB s o then ck s o o.reason else s):=by
  split
  ·exact B8 o _ h.todz (by have:=h.nr;omega)
  ·exact h.todz
 refine uj hn _ _ ?_;split
 ·exact(pq o h1).w
 ·have:=h1.w
  exact {this with ver:=⟨this.ver.1,by have:=this.ver.2;omega⟩}
def shut(r:oo):oo:={r with isOpen:=false}
theorem uE(par:Txt→bB×Int×Int)(s:an)(o:OpD):(dP par s o).reviews=if bO s o=0∧o.kind=5 then s.reviews.modify (o.review - 1).toNat shut else s.reviews:=by
 unfold dP
 by_cases hr:bO s o=0
 ·rw[if_pos hr]
  unfold doD
  by_cases k1:o.kind=1
  ·grind
  ·by_cases k3:o.kind=3
   ·grind
   ·by_cases k4:o.kind=4
    ·grind
    ·by_cases k5:o.kind=5
     ·simp[k5,hr];rfl
     grind
 grind
theorem ye{o:OpD}(h:eU o=true)(hg:o.glass=true):1≤o.kind∧o.kind≤4:=by
 simp_all [eU,Bool.and_eq_true,lV,if_true,ve,decide_eq_true_eq]
theorem Df{s:an}{o:OpD}(h:fB s o=true):o.glass=true:=by
 simp_all [fB,sY,Bool.and_eq_true]
structure EL (s:an) (o:OpD) (t:an) (r:j5) (e:Int):Prop where
 len:s.reviews.length≤t.reviews.length
 old:∀i (h:i<s.reviews.length) (h' :i<t.reviews.length),(e=0∧r.err=0∧o.kind=5∧o.review=((i+1:Nat):Int)→o.subj≠s.reviews[i].subj∧s.reviews[i].isOpen=true∧t.reviews[i].isOpen=false∧t.reviews[i].id=s.reviews[i].id)∧
  (¬(e=0∧r.err=0∧o.kind=5∧o.review=((i+1:Nat):Int))→t.reviews[i]=s.reviews[i])
 new:∀i (h:i<t.reviews.length),s.reviews.length≤i→t.reviews[i].id=((i+1:Nat):Int)∧t.reviews[i].isOpen=true∧t.reviews[i].subj=o.subj
 glass:r.glass=true→∃h:s.reviews.length<t.reviews.length,t.reviews[s.reviews.length].reason=o.reason
theorem EL.same(s:an)(o:OpD)(e:Int)(r:j5)(he:e≠0)(hg:r.glass=false):EL s o s r e:=
 ⟨Nat.le_refl _,fun i h h' =>⟨fun hc=>(he hc.1).elim,fun _=>rfl⟩,fun i h h' =>aco,fun h=>acp⟩
theorem Hu{o:OpD}{a b:List oo}(h:gJ o a b):a.length≤b.length∧(∀i (h1:i<a.length) (h2:i<b.length),b[i]=a[i])∧∀i (h1:i<b.length),a.length≤i→b[i].id=((i+1:Nat):Int)∧b[i].isOpen=true∧b[i].subj=o.subj:=by
 obtain⟨c,rfl,hc⟩:=h;refine⟨acw,fun i h1 h2=>acp,fun i h1 h2=>?_⟩
 grind
theorem CN{s:an}{o:OpD}(hr:bO s o=0)(hf:eU o=true)(hk:o.kind=5):1≤o.review∧∃h:(o.review - 1).toNat<s.reviews.length,s.reviews[(o.review - 1).toNat].isOpen=true∧s.reviews[(o.review - 1).toNat].subj≠o.subj:=by
 have F:=tD hf;have hok:=F.ok;unfold okD at hok;simp only[hk,show¬(5:Int)=1 by decide,show¬((5:Int)=2∨(5:Int)=6) by decide,show¬(5:Int)=3 by decide,show¬(5:Int)=4 by decide,if_false,if_true,decide_eq_true_eq]at hok
 unfold bO at hr;simp only[hk,Bool.true_eq_false,show¬(5:Int)=1 by decide,show¬(2≤(5:Int)∧(5:Int)≤4) by decide,if_false,if_true]at hr
 unfold fM wA at hr;rw[if_pos (by omega:1≤o.review)]at hr
 refine⟨aco,?_⟩;cases hx:s.reviews[(o.review - 1).toNat]? with
 |none=>simp_all
 |some r=>
  rw[hx]at hr;obtain⟨h,rfl⟩:=List.getElem?_eq_some_iff.1 hx;refine⟨h,?_,?_⟩
  ·grind
  ·intro e
   simp only[e,if_true]at hr;omega
theorem F0{k:Nat}{s:an}{o:OpD}(h:jC k s):EL s o (aV s o).1 (aV s o).2.1 (aV s o).2.2.2:=by
 unfold aV
 by_cases hp:(jX s o).1=0
 ·rw[if_neg aco]
  by_cases ho:rT (di s o)=true
  ·rw[if_pos ho];exact .same _ _ _ _ acw rfl
  ·rw[if_neg ho]
   obtain⟨hr,hf,_⟩:=uc hp;simp only
   by_cases hk:o.kind=5
   ·have hg:fB s o=false:=by
     cases hg:fB s o with
     |false=>rfl
     |true=>have:=ye hf (Df hg);omega
    obtain⟨hv1,hlt,hop,hsu⟩:=CN hr hf hk
    by_cases hd:td s o=true
    ·have hb:di s o=dF (dP aR s o) o (gv s o).2 true:=by
      grind [di]
     have hrev:(dP aR s o).reviews=s.reviews.modify (o.review - 1).toNat shut:=by
      simp_all [uE,if_pos]
     have hon:=gJ.duties o true (gv s o).2 (dP aR s o);rw[←hb,hrev]at hon;obtain⟨a1,a2,a3⟩:=Hu hon;have hlm:(s.reviews.modify (o.review - 1).toNat shut).length=s.reviews.length:=acw;rw[hlm]at a1;refine⟨a1,fun i h1 h2=>⟨fun hc=>?_,fun hc=>?_⟩,fun i h1 h2=>a3 i h1 aco,fun hgl=>?_⟩
     ·have hi:(o.review - 1).toNat=i:=by omega
      subst hi;rw[a2 _ aco h2,List.getElem_modify,if_pos rfl];exact⟨fun e=>hsu e.symm,hop,rfl,rfl⟩
     ·have hi:(o.review - 1).toNat≠i:=fun e=>hc ⟨rfl,by simp[o8,hd],hk,aco⟩
      rw[a2 _ aco h2,List.getElem_modify,if_neg hi]
     simp_all [o8]
    ·have hd:td s o=false:=by grind
     have hb:di s o=dF s o (gv s o).2 false:=by
      grind [di]
     have hon:=gJ.duties o false (gv s o).2 s;rw[←hb]at hon;obtain⟨a1,a2,a3⟩:=Hu hon;refine⟨a1,fun i h1 h2=>⟨fun hc=>?_,fun hc=>a2 i h1 h2⟩,a3,fun hgl=>?_⟩
     ·simp_all [o8]
     simp_all [o8]
   ·have hs1:gJ o s.reviews (if fB s o then ck s o o.reason else s).reviews:=by
     split
     ·exact .open s o _
     ·exact .refl o _
    have hs2:(if td s o then dP aR (if fB s o then ck s o o.reason else s) o else(if fB s o then ck s o o.reason else s)).reviews=(if fB s o then ck s o o.reason else s).reviews:=by
     split
     ·simp_all [uE,if_neg]
     ·rfl
    have hd:=gJ.duties o (td s o) (gv s o).2 (if td s o then dP aR (if fB s o then ck s o o.reason else s) o else(if fB s o then ck s o o.reason else s))
    rw[hs2]at hd;have hon:gJ o s.reviews (di s o).reviews:=hs1.trans hd;obtain⟨a1,a2,a3⟩:=Hu hon;refine⟨a1,fun i h1 h2=>⟨fun hc=>(hk hc.2.2.1).elim,fun hc=>a2 i h1 h2⟩,a3,fun hgl=>?_⟩
    have hg:fB s o=true:=hgl;have hd' :=hd;simp only[hg,↓reduceIte]at hd';obtain⟨b1,b2,_⟩:=Hu hd';have hb:(di s o)=dF (if td s o then dP aR (ck s o o.reason) o else ck s o o.reason) o (gv s o).2 (td s o):=by
     grind [di]
    rw[←hb]at b1 b2;have hl:(ck s o o.reason).reviews.length=s.reviews.length+1:=by simp[ck]
    refine⟨aco,?_⟩
    grind [ck,Bb]
 ·rw[if_pos aco]
  exact .same _ _ _ _ aco rfl
theorem jC.up{k:Nat}{s:an}(h:jC k s):jC (k+1) s:={h with ver:=⟨h.ver.1,by have:=h.ver.2;omega⟩}
theorem Fw{k:Nat}{s:an}(o:OpD)(h:jC k s):jC (k+1) (aV s o).1:=by
 have hrl:=F0 (o:=o) h;unfold aV at hrl⊢
 by_cases hp:(jX s o).1=0
 ·rw[if_neg aco]at hrl⊢
  by_cases ho:rT (di s o)=true
  ·rw[if_pos ho];exact h.up
  ·rw[if_neg ho]at hrl⊢
   have ho:rT (di s o)=false:=acp;have hw:=(Kp h hp).ok ho;unfold rT at ho;refine {hw with ids:=fun i hi=>?_,nr:=acp,nn:=acp}
   by_cases hlt:i<s.reviews.length
   ·obtain⟨h1,h2⟩:=hrl.old i hlt hi
    by_cases hc:(0:Int)=0∧(o8 s o).err=0∧o.kind=5∧o.review=((i+1:Nat):Int)
    ·rw[(h1 hc).2.2.2];exact h.ids i hlt
    ·rw[h2 hc];exact h.ids i hlt
   ·exact(hrl.new i hi aco).1
 ·rw[if_pos aco];exact h.up
structure U1 (s:an) (o:OpD):Prop where
 err:(aV s o).2.2.2≠0→(aV s o).1=s∧(aV s o).2.1.err=(aV s o).2.2.2∧(aV s o).2.1.mark=naM
 ok:(aV s o).2.2.2=0→(aV s o).2.1.mark=(gv s o).1∧(aV s o).2.2.1=⟨o,s.version,(gv s o).1,fB s o,(gv s o).2⟩∧(aV s o).2.1.glass=fB s o∧(aV s o).1=di s o∧(aV s o).2.1=o8 s o
theorem xR(o:OpD)(done:Bool):∀(l:List cD) (s:an),(dF s o l done).cases.length=s.cases.length
 | [],s=>rfl
 |x::l,s=>by
  have:(fq o done s x).cases.length=s.cases.length:=by
   unfold fq;split
   ·grind [iK]
   ·split
    ·rfl
    grind
  exact(xR o done l _).trans this
end Go.Bf
namespace Go.Ab
open Go
section
variable {U : TypeId → TI} {ρ : Env} {h0 h h' : Heap} {sz id : Nat} {tb : TypeId} {y : AV} {xs : List AV} {e : TypeId} {K : AV → Prop} {x : IntKind} {m : Int}
theorem uJ(xs:List AV)(j:Nat):aq xs=aq (xs.take j)++aq (xs.drop j):=afK
theorem OwE.cut(hw:OwE tb h0 h sz y xs){hi:Operand}(j:Nat)(hm:ev ρ hi=some (.v (.int x m)))(hj:m=j)(hl:j≤xs.length)(hz:(U tb).sz=sz)(h1:sz≠0)
  (hk:∀z,OwE tb h0 h sz z (xs.take j)→(z=y∨∃id l l' c,y= .ob id 0 l c sz∧z= .ob id 0 l' c sz)→K z):gL U ρ y none (some hi) none K (.slice tb):=by
 subst hj;subst hz
 rcases hw with⟨rfl,rfl⟩|⟨id,h2,cap,rest,rfl,h3,h4,h5,h6⟩
 ·rw[qV,fF,hm]
  refine⟨h1,?_⟩;have:j=0:=acp;subst this;refine⟨aco,acw,?_⟩;exact hk _ (.inl ⟨rfl,rfl⟩) (.inl rfl)
 ·rw[Be]
  refine⟨h1,rfl,?_⟩;simp only[mg,fF,hm,dD,mW];refine⟨aco,aco,aco,?_⟩;simp only[Int.toNat_natCast,Nat.zero_mul,Nat.add_zero,Nat.sub_zero,show(((0:Nat):Int)).toNat=0 from rfl]
  have e1:(xs.take j).length=j:=acp;have hs:Sized (U tb).sz (xs.drop j):=fun z hz=>h6 z (List.mem_of_mem_drop hz)
  refine hk _ (.inr ⟨id,h2,cap,aq (xs.drop j)++rest,by rw[e1],by grind [uJ,List.append_assoc],?_,aco,fun z hz=>h6 z (List.mem_of_mem_take hz)⟩) (.inr ⟨id,_,_,cap,rfl,rfl⟩)
  rw[ach,bf hs,h4,List.length_drop,e1,←Nat.add_mul]
  grind
theorem OwE.from(hw:OwE tb h0 h sz y xs){lo:Operand}(j:Nat)(hm:ev ρ lo=some (.v (.int x m)))(hj:m=j)(hl:j≤xs.length)(hz:(U tb).sz=sz)(h1:sz≠0)
  (hk:∀z,Rd h sz z (xs.drop j)→K z):gL U ρ y (some lo) none none K (.slice tb):=by
 subst hj;subst hz
 rcases hw with⟨rfl,rfl⟩|⟨id,h2,cap,rest,rfl,h3,h4,h5,h6⟩
 ·have:j=0:=by grind
  subst this;rw[qW,fF,hm];refine⟨h1,by simp[Sized],?_⟩
  exact⟨aco,acw,acw,hk _ (.sl (by intro z hz;grind [ov]) _)⟩
 ·rw[Be]
  refine⟨h1,rfl,?_⟩;simp only[mg,fF,hm,dD,mW];refine⟨aco,aco,aco,?_⟩;simp only[Int.toNat_natCast,Nat.zero_add];have e1:(xs.drop j).length=xs.length - j:=acw;have hs:Sized (U tb).sz (xs.drop j):=fun z hz=>h6 z acp
  have ht:Sized (U tb).sz (xs.take j):=fun z hz=>h6 z acp
  have e2:=bf hs;have e3:=bf ht;refine hk _ ⟨hs,.inr ⟨id,j*(U tb).sz,cap - j,_,tb,by rw[e1],h3,?_,?_⟩⟩
  ·grind [uJ,ach]
  grind [uJ,List.append_assoc,List.drop_left,List.take_left]
end
end Go.Ab
namespace Go.Bf
open Go Go.Ab Go.Proofs.YtcochaoekecfdaaGreatDoor
def hbit:Nat→Nat
 |0=>0
 |1=>4602678819172646912
 |_=>4607182418800017408
def aQ(m:aT):AV:=.v (.complex .f64 (hbit m.1) (hbit m.2))
def M9(m:aT):Prop:=m.1≤2∧m.2≤2
def M6(m:aT):Prop:=m∈uZ
instance (m:aT):Decidable (M9 m):=inferInstanceAs (Decidable (_∧_))
instance (m:aT):Decidable (M6 m):=inferInstanceAs (Decidable (m∈uZ))
theorem M6.m9{m:aT}(h:M6 m):M9 m:=by
 exact ahc
theorem le2{n:Nat}(h:n≤2):n=0∨n=1∨n=2:=aco
theorem Pd{a b:Nat}(ha:a≤2)(hb:b≤2):Op.floatEq .f64 (hbit a) (hbit b)=(a==b):=by
 rcases le2 ha with rfl|rfl|rfl<;>rcases le2 hb with rfl|rfl|rfl<;>rfl
theorem NZ(m n:aT):(m==n)=(m.1==n.1 && m.2==n.2):=rfl
theorem KN{m n:aT}(hmm:M9 m)(hn:M9 n):eqC (aQ m) (aQ n)=(m==n):=by
 simp only[aQ,eqC,Pd hmm.1 hn.1,Pd hmm.2 hn.2,NZ]
theorem yJ{m n:aT}(hmm:M9 m)(hn:M9 n)(K:AV→Prop):gr .eql (.complex .f64 (hbit m.1) (hbit m.2)) (.complex .f64 (hbit n.1) (hbit n.2)) K=K (.b (m==n)):=
 nY (fun P ty w=>by
  exact ag9) K
theorem DF{m n:aT}(hmm:M9 m)(hn:M9 n)(K:AV→Prop):gr .neq (.complex .f64 (hbit m.1) (hbit m.2)) (.complex .f64 (hbit n.1) (hbit n.2)) K=K (.b (!(m==n))):=
 nY (fun P ty w=>by
  exact ag9) K
structure Nb (m:aT):Prop where
 na:∀K,gr .eql (.complex .f64 (hbit m.1) (hbit m.2)) (.complex .f64 0 0) K=K (.b (m==naM))
 pe:∀K,gr .eql (.complex .f64 (hbit m.1) (hbit m.2)) (.complex .f64 4607182418800017408 0) K=K (.b (m==bl))
 de:∀K,gr .eql (.complex .f64 (hbit m.1) (hbit m.2)) (.complex .f64 0 4607182418800017408) K=K (.b (m==cI))
 ip:∀K,gr .eql (.complex .f64 (hbit m.1) (hbit m.2)) (.complex .f64 4602678819172646912 0) K=K (.b (m==AO))
 id:∀K,gr .eql (.complex .f64 (hbit m.1) (hbit m.2)) (.complex .f64 0 4602678819172646912) K=K (.b (m==AN))
 ib:∀K,gr .eql (.complex .f64 (hbit m.1) (hbit m.2)) (.complex .f64 4602678819172646912 4602678819172646912) K=K (.b (m==oQ))
 nna:∀K,gr .neq (.complex .f64 (hbit m.1) (hbit m.2)) (.complex .f64 0 0) K=K (.b (!(m==naM)))
 npe:∀K,gr .neq (.complex .f64 (hbit m.1) (hbit m.2)) (.complex .f64 4607182418800017408 0) K=K (.b (!(m==bl)))
 nde:∀K,gr .neq (.complex .f64 (hbit m.1) (hbit m.2)) (.complex .f64 0 4607182418800017408) K=K (.b (!(m==cI)))
theorem nb{m:aT}(h:M9 m):Nb m:=
 ⟨yJ (n:=naM) h acr,yJ (n:=bl) h acr,yJ (n:=cI) h acr,yJ (n:=AO) h acr,yJ (n:=AN) h acr,yJ (n:=oQ) h acr,
  DF (n:=naM) h acr,DF (n:=bl) h acr,DF (n:=cI) h acr⟩
theorem Pk{a b:Nat}(ha:a≤2)(hb:b≤2)(k:AV→Prop):zP [.v (.float .f64 (hbit a)),.v (.float .f64 (hbit b))] k=k (.v (.float .f64 (hbit (max a b)))):=
 FL (fun P ts ty w=>by
  rcases le2 ha with rfl|rfl|rfl<;>rcases le2 hb with rfl|rfl|rfl<;>rfl) k
structure Fb (a:Nat):Prop where
 one:∀K,gr .eql (.float .f64 (hbit a)) (.float .f64 4607182418800017408) K=K (.b (a==2))
 half:∀K,gr .eql (.float .f64 (hbit a)) (.float .f64 4602678819172646912) K=K (.b (a==1))
 ge:∀K,gr .geq (.float .f64 (hbit a)) (.float .f64 4602678819172646912) K=K (.b (decide (1≤a)))
theorem fb{a:Nat}(h:a≤2):Fb a:=by
 rcases le2 h with rfl|rfl|rfl<;>
  exact⟨nY fun P ty w=>rfl,nY fun P ty w=>rfl,nY fun P ty w=>rfl⟩
end Go.Bf
namespace Go.Proofs.YtcochaoekecfdaaGreatDoor
open Go Go.Ab Go.Bf
theorem B4(m:aT)(hmm:M6 m)(h:Heap):ai Tryz.prog 275 [aQ m] h fun r h' =>r= .b true∧h' =h:=by
 have hn:ai Tryz.prog 150 [aQ m] h fun r h' =>(∃c l,r= .s (c::l))∧h' =h:=by
  obtain⟨n1,n2,n3,n4,n5,n6⟩:=nb hmm.m9;refine acn Tryz.func150 16 [.tmp 2] fun hwf=>?_
  cases d1:(m==naM)
  case true=>simp only[go_sem,aQ,n1,d1];exact .same (.refl _) ⟨⟨_,_,rfl⟩,rfl⟩
  cases d2:(m==bl)
  case true=>simp only[go_sem,aQ,n1,n2,d1,d2];exact .same (.refl _) ⟨⟨_,_,rfl⟩,rfl⟩
  cases d3:(m==cI)
  case true=>simp only[go_sem,aQ,n1,n2,n3,d1,d2,d3];exact .same (.refl _) ⟨⟨_,_,rfl⟩,rfl⟩
  cases d4:(m==AO)
  case true=>simp only[go_sem,aQ,n1,n2,n3,n4,d1,d2,d3,d4];exact .same (.refl _) ⟨⟨_,_,rfl⟩,rfl⟩
  cases d5:(m==AN)
  case true=>simp only[go_sem,aQ,n1,n2,n3,n4,n5,d1,d2,d3,d4,d5];exact .same (.refl _) ⟨⟨_,_,rfl⟩,rfl⟩
  have d6:(m==oQ)=true:=by
   unfold M6 uZ at hmm
   grind
  simp only[go_sem,aQ,n1,n2,n3,n4,n5,n6,d1,d2,d3,d4,d5,d6];exact .same (.refl _) ⟨⟨_,_,rfl⟩,rfl⟩
 refine acn Tryz.func275 6 [.tmp 2] fun hwf=>?_
 simp only[go_sem];refine hn.mono ?_
 rintro r h' ⟨⟨c,l,rfl⟩,rfl⟩
 exact ag2
theorem yp(m:aT)(hmm:M9 m)(h:Heap):ai Tryz.prog 248 [aQ m] h fun r h' =>r=aQ (gK m)∧h' =h:=by
 obtain⟨n1,n2,n3,n4,n5,n6⟩:=nb hmm;refine acn Tryz.func248 9 [.tmp 2] fun hwf=>?_
 cases d2:(m==bl)
 case true=>simp only[go_sem,aQ,n2,d2];exact .same (.refl _) ⟨by rw[gK,if_pos acp];rfl,rfl⟩
 cases d3:(m==cI)
 case true=>simp only[go_sem,aQ,n2,n3,d2,d3];exact .same (.refl _) ⟨by rw[gK,if_neg acp,if_pos acp];rfl,rfl⟩
 simp only[go_sem,aQ,n2,n3,d2,d3];exact .same (.refl _) ⟨by rw[gK,if_neg acp,if_neg acp];rfl,rfl⟩
theorem tY(m:aT)(h:Heap):ai Tryz.prog 303 [aQ m] h fun r h' =>r= .tup [.v (.float .f64 (hbit m.1)),.v (.float .f64 (hbit m.2))]∧h' =h:=by
 refine acn Tryz.func303 10 [.tmp 2,.tmp 3] fun hwf=>?_
 simp only[go_sem,aQ];exact acD
theorem Pr(a b:Nat)(h:Heap):ai Tryz.prog 304 [.v (.float .f64 (hbit a)),.v (.float .f64 (hbit b))] h fun r h' =>r=aQ (a,b)∧h' =h:=by
 refine acn Tryz.func304 8 [.tmp 4] fun hwf=>?_
 exact ag2
theorem OA(m:aT)(h:Heap):ai Tryz.prog 278 [aQ m] h fun r h' =>r=aQ (Ey m)∧h' =h:=by
 refine acn Tryz.func278 13 [.tmp 2] fun hwf=>?_
 simp only[go_sem];refine(tY m _).pthen ?_;simp only[go_sem];refine(Pr m.2 m.1 _).pthen ?_;exact ag2
theorem NP(a b:aT)(ha:M9 a)(hb:M9 b)(h:Heap):ai Tryz.prog 276 [aQ a,aQ b] h fun r h' =>r=aQ (nU a b)∧h' =h:=by
 have m1:=Pk ha.1 hb.1;have m2:=Pk ha.2 hb.2;refine acn Tryz.func276 26 [.tmp 4] fun hwf=>?_
 simp only[go_sem];refine(tY a _).pthen ?_;simp only[go_sem];refine(tY b _).pthen ?_;simp only[go_sem,m1,m2];refine(Pr _ _ _).pthen ?_;exact ag2
theorem M9.join{a b:aT}(ha:M9 a)(hb:M9 b):M9 (nU a b):=⟨Nat.max_le.2 ⟨ha.1,hb.1⟩,Nat.max_le.2 ⟨ha.2,hb.2⟩⟩
theorem Hw(j:aT):M6 (qO j):=by
 unfold qO
 repeat' split
 all_goals decide
theorem Hx(j:aT)(hj:M9 j)(h:Heap):ai Tryz.prog 277 [aQ j] h fun r h' =>r=aQ (qO j)∧h' =h:=by
 obtain⟨p1,p2,p3⟩:=fb hj.1;obtain⟨q1,q2,q3⟩:=fb hj.2;refine acn Tryz.func277 29 [.tmp 2] fun hwf=>?_
 simp only[go_sem];refine(tY j _).pthen ?_;cases d1:(j.2==2)
 case true=>simp only[go_sem,q1,d1];exact .same (.refl _) ⟨by rw[qO,if_pos acp];rfl,rfl⟩
 have e1:¬j.2=2:=acp;cases d2:(j.2==1)
 case true=>
  have e2:j.2=1:=acp;cases d3:decide (1≤j.1)
  ·simp only[go_sem,p3,q1,q2,d1,d2,d3];exact .same (.refl _) ⟨by rw[qO,if_neg e1,if_neg acp,if_pos e2];rfl,rfl⟩
  ·simp only[go_sem,p3,q1,q2,d1,d2,d3];exact .same (.refl _) ⟨by rw[qO,if_neg e1,if_pos ⟨e2,acf d3⟩];rfl,rfl⟩
 have e2:¬j.2=1:=acp;cases d4:(j.1==2)
 case true=>simp only[go_sem,p1,q1,q2,d1,d2,d4];exact .same (.refl _) ⟨by rw[qO,if_neg e1,if_neg (fun h=>e2 h.1),if_neg e2,if_pos acp];rfl,rfl⟩
 cases d5:(j.1==1)
 case true=>simp only[go_sem,p1,p2,q1,q2,d1,d2,d4,d5];exact .same (.refl _) ⟨by rw[qO,if_neg e1,if_neg (fun h=>e2 h.1),if_neg e2,if_neg acp,if_pos acp];rfl,rfl⟩
 simp only[go_sem,p1,p2,q1,q2,d1,d2,d4,d5];exact .same (.refl _) ⟨by rw[qO,if_neg e1,if_neg (fun h=>e2 h.1),if_neg e2,if_neg acp,if_neg acp];rfl,rfl⟩
def OwR(h0 h:Heap)(y:AV)(rs:List gj):Prop:=y=dI rs∨OwE 149 h0 h 2 y (rs.map cY)
theorem OwR.rd{h0 h:Heap}{y:AV}{rs:List gj}(hr:OwR h0 h y rs):Rd h 2 y (rs.map cY):=by
 rcases hr with rfl|hr
 ·exact eJ cY 2 (fun _=>rfl) h rs
 ·exact hr.rd
theorem OwR.nid{h0 h:Heap}{y:AV}{rs:List gj}(hr:OwR h0 h y rs){k:Nat}(e:Ab.nid y=some k):h0 k=none∧h k≠none:=by
 rcases hr with rfl|hr
 ·cases e
 ·exact⟨(hr.nid e).1,(hr.nid e).2.1⟩
theorem OwR.keep{h0 h h' :Heap}{y:AV}{rs:List gj}(hr:OwR h0 h y rs)(hk:∀id,Ab.nid y=some id→h' id=h id):OwR h0 h' y rs:=by
 rcases hr with hr|hr
 ·exact .inl hr
 ·exact .inr (hr.keep hk)
theorem OwR.bN{g h0 h:Heap}{y:AV}{rs:List gj}(hr:OwR h0 h y rs)(hg:∀i,h0 i=none→g i=none):OwR g h y rs:=by
 rcases hr with hr|hr
 ·exact .inl hr
 ·exact .inr (hr.bN hg)
theorem OwR.frz{g h:Heap}{y:AV}{rs:List gj}(hr:OwR g h y rs):Frz g h y (dI rs):=by
 rcases hr with rfl|hr
 ·exact .pure (by simp only[dI,cR];exact bu (fun _=>rfl) _)
 ·exact hr.frz (bu (fun _=>rfl) _)
structure iD (h0 h:Heap) (y1 y2 y3 y4:AV) (s:an) (j:Nat):Prop where
 cs:lQ h0 h [y1,y2,y3,y4] y1 s.cases j
 rv:OwE 143 h0 h 7 y2 (s.reviews.map fY)
 nt:OwE 146 h0 h 3 y3 (s.notices.map jO)
 rl:OwR h0 h y4 s.roles
 a12:apart y1 y2
 a13:apart y1 y3
 a14:apart y1 y4
 a23:apart y2 y3
 a24:apart y2 y4
 a34:apart y3 y4
def stC(s:an)(y1 y2 y3 y4:AV):List AV:=[.i s.tick,y1,y2,y3,y4]++fV s.policy++ [.i s.version]
theorem sU.parts{h0 h:Heap}{x:AV}{s:an}{j:Nat}(ho:sU h0 h x s j):∃y1 y2 y3 y4,x= .agg (stC s y1 y2 y3 y4)∧iD h0 h y1 y2 y3 y4 s j:=by
 obtain⟨y1,y2,y3,y4,e,a,b,c,d,r1,r2,r3,r4,r5,r6⟩:=ho;exact⟨y1,y2,y3,y4,e,a,b,c,.inr d,r1,r2,r3,r4,r5,r6⟩
theorem iD.rd{h0 h:Heap}{y1 y2 y3 y4:AV}{s:an}{j:Nat}(ho:iD h0 h y1 y2 y3 y4 s j):RdS h (.agg (stC s y1 y2 y3 y4)) s:=
 ⟨y1,y2,y3,y4,rfl,ho.cs.rd,ho.rv.rd,ho.nt.rd,ho.rl.rd⟩
theorem iD.frz{g h:Heap}{y1 y2 y3 y4:AV}{s:an}{j:Nat}(ho:iD g h y1 y2 y3 y4 s j):Frz g h (.agg (stC s y1 y2 y3 y4)) (cg s):=
 uL (ho.cs.frz (.refl _)) (ho.rv.frz (bu (fun _=>rfl) _)) (ho.nt.frz (bu (fun _=>rfl) _)) ho.rl.frz
theorem iD.bN{g h0 h:Heap}{y1 y2 y3 y4:AV}{s:an}{j:Nat}(ho:iD h0 h y1 y2 y3 y4 s j)(hg:∀i,h0 i=none→g i=none):iD g h y1 y2 y3 y4 s j:=
 {ho with cs:=ho.cs.bN hg,rv:=ho.rv.bN hg,nt:=ho.nt.bN hg,rl:=ho.rl.bN hg}
theorem iD.keep{h0 h h' :Heap}{y1 y2 y3 y4:AV}{s:an}{j:Nat}(ho:iD h0 h y1 y2 y3 y4 s j)(hk:∀id,h0 id=none→h id≠none→h' id=h id):iD h0 h' y1 y2 y3 y4 s j:=
 {ho with cs:=ho.cs.keepb hk,rv:=ho.rv.keepb hk,nt:=ho.nt.keepb hk,rl:=ho.rl.keep fun id e=>hk id (ho.rl.nid e).1 (ho.rl.nid e).2}
theorem iD.mem{h0 h:Heap}{y1 y2 y3 y4:AV}{s:an}{j:Nat}(ho:iD h0 h y1 y2 y3 y4 s j){w:AV}(hw:w∈ [y1,y2,y3,y4]){k:Nat}(e:Ab.nid w=some k):h0 k=none∧h k≠none:=by
 obtain⟨xs,a,_⟩:=ho.cs;simp only[List.mem_cons,List.not_mem_nil,or_false]at hw;rcases hw with rfl|rfl|rfl|rfl
 ·exact⟨(a.nid e).1,(a.nid e).2.1⟩
 ·exact⟨(ho.rv.nid e).1,(ho.rv.nid e).2.1⟩
 ·exact⟨(ho.nt.nid e).1,(ho.nt.nid e).2.1⟩
 ·exact ho.rl.nid e
theorem iD.revs{h0 h h' :Heap}{y1 y2 y3 y4 z:AV}{s:an}{j:Nat}{rs:List oo}(ho:iD h0 h y1 y2 y3 y4 s j)(hz:OwE 143 h0 h' 7 z (rs.map fY))(hn:∀k,Ab.nid z=some k→h k=none∨Ab.nid y2=some k)
  (hk:∀id,h0 id=none→h id≠none→Ab.nid y2≠some id→h' id=h id):iD h0 h' y1 z y3 y4 {s with reviews:=rs} j:=by
 obtain⟨hcs,hrv,hnt,hrl,a12,a13,a14,a23,a24,a34⟩:=id ho;have ap:∀ {w:AV},w∈ [y1,y2,y3,y4]→apart w y2→apart w z:=fun hw ha k e1 e2=>(hn k e2).elim (fun h=>(ho.mem hw e1).2 h) (fun h=>ha k e1 h)
 refine⟨hcs.move (z:=y2) acw a12 hk fun w hw k e=>?_,hz,hnt.keep fun id e=>hk id (hnt.nid e).1 (hnt.nid e).2.1 fun e1=>a23 id e1 e,hrl.keep fun id e=>hk id (hrl.nid e).1 (hrl.nid e).2 fun e1=>a24 id e1 e,ap acw a12,a13,a14,(ap acw a23.symm).symm,(ap acw a24.symm).symm,a34⟩
 grind
theorem iD.nots{h0 h h' :Heap}{y1 y2 y3 y4 z:AV}{s:an}{j:Nat}{rs:List Cu}(ho:iD h0 h y1 y2 y3 y4 s j)(hz:OwE 146 h0 h' 3 z (rs.map jO))(hn:∀k,Ab.nid z=some k→h k=none∨Ab.nid y3=some k)
  (hk:∀id,h0 id=none→h id≠none→Ab.nid y3≠some id→h' id=h id):iD h0 h' y1 y2 z y4 {s with notices:=rs} j:=by
 obtain⟨hcs,hrv,hnt,hrl,a12,a13,a14,a23,a24,a34⟩:=id ho;have ap:∀ {w:AV},w∈ [y1,y2,y3,y4]→apart w y3→apart w z:=fun hw ha k e1 e2=>(hn k e2).elim (fun h=>(ho.mem hw e1).2 h) (fun h=>ha k e1 h)
 refine⟨hcs.move (z:=y3) acw a13 hk fun w hw k e=>?_,hrv.keep fun id e=>hk id (hrv.nid e).1 (hrv.nid e).2.1 fun e1=>a23 id e e1,hz,hrl.keep fun id e=>hk id (hrl.nid e).1 (hrl.nid e).2 fun e1=>a34 id e1 e,a12,ap acw a13,a14,ap acw a23,a24,(ap acw a34.symm).symm⟩
 grind
end Go.Proofs.YtcochaoekecfdaaGreatDoor
namespace Go.Bf
open Go Go.Ab Go.Proofs.YtcochaoekecfdaaGreatDoor
def gW(s:an):Prop:=∀r∈s.reviews,0≤r.tick∧r.tick≤1099511627776
theorem Bk{s:an}(o:OpD)(w:Txt)(h:gW s)(ht:0≤s.tick∧s.tick≤1099511627776):gW (ck s o w):=fun r hr=>by
 simp only[ck,List.mem_append,List.mem_singleton]at hr;rcases hr with hr|rfl
 ·exact h r hr
 ·exact ht
theorem JP{s:an}(o:OpD)(w:Txt)(h:gW s):gW (iK s o w):=fun r hr=>h r (by grind [yD])
theorem JO{s:an}(o:OpD)(done:Bool)(x:cD)(h:gW s)(ht:0≤s.tick∧s.tick≤1099511627776):gW (fq o done s x):=by
 unfold fq;split
 ·grind [JP]
 ·split
  ·grind [Bk]
  ·split<;>exact h
theorem wF(o:OpD)(done:Bool):∀(l:List cD) {s:an},gW s→(0≤s.tick∧s.tick≤1099511627776)→gW (dF s o l done)
 | [],s,h,_=>h
 |x::l,s,h,ht=>wF o done l (by grind [JO]) (by grind [CZ])
theorem Mv{s:an}(par:Txt→bB×Int×Int)(o:OpD)(h:gW s):gW (dP par s o):=fun r hr=>by
 rw[uE]at hr;split at hr
 ·rcases mem_modify hr with hr|⟨hi,rfl⟩
  ·exact h r hr
  ·have h2:=h _ (aci hi)
   exact agu
 ·exact h r hr
theorem Gm{k:Nat}{s:an}(o:OpD)(h:jC k s)(ht:gW s):gW (aV s o).1:=by
 unfold aV;split
 ·omega
 ·split
  ·omega
  ·show gW (di s o)
   have h1:dz k (if fB s o then ck s o o.reason else s):=by
    split
    ·exact B8 o _ h.todz (by have:=h.nr;omega)
    ·exact h.todz
   have t1:gW (if fB s o then ck s o o.reason else s):=by
    split
    ·exact Bk o _ ht h.tick
    omega
   refine wF o _ _ ?_ ?_
   ·grind [Mv]
   ·split
    ·exact(pq o h1).tick
    ·exact h1.tick
structure jD (k:Nat) (s:an):Prop extends jC k s where
 ticks:gW s
theorem sj:jD 0 sD:={IW with ticks:=fun r h=>adj}
theorem qB{k:Nat}{s:an}(o:OpD)(h:jD k s):jD (k+1) (aV s o).1:={Fw o h.tojC with ticks:=Gm o h.tojC h.ticks}
theorem NM{cs:List aJ}{id:Txt}(h:iF cs id<cs.length):cs[iF cs id].id=id:=by
 have:=List.findIdx_getElem (p:=fun c:aJ=>c.id==id) (w:=h)
 exact eq_of_beq this
theorem FF{cs:List aJ}(ha:Asc cs){id:Txt}(h:iF cs id<cs.length):findD cs id=iF cs id:=by
 have hid:=NM h;have hin:bZ cs id=true:=by grind [vu,List.any_eq_true,aci]
 have hir:Op.bytesLess id id=false:=by simpa[lt]using lt_irrefl id
 have h1:∃hl:findD cs id<cs.length,cs[findD cs id].id=id:=by
  unfold bZ at hin
  grind
 rcases Nat.lt_trichotomy (findD cs id) (iF cs id)with hlt|heq|hgt
 ·exact absurd (List.not_of_lt_findIdx (p:=fun c:aJ=>c.id==id) hlt) acp
 ·exact heq
 ·have:=List.not_of_lt_findIdx (p:=fun c:aJ=>geB c.id id) hgt
  exact absurd this (by grind [geB])
theorem Lg{cs ds:List aJ}(h:ds.map (·.id)=cs.map (·.id))(id:Txt):iF ds id=iF cs id:=by
 have e:∀l:List aJ,iF l id=(l.map (·.id)).findIdx fun x=>x==id:=fun l=>by
  rw[List.findIdx_map];rfl
 rw[e,e,h]
theorem I7(s:an)(o:OpD)(w:Txt)(id:Txt):iF (iK s o w).cases id=iF s.cases id∧(iK s o w).cases.length=s.cases.length:=by
 unfold iK;split
 ·exact⟨Lg (kg (f:=fun c=>jj s c o.subj w) (g:=fun c:aJ=>c.id) fun c=>rfl) id,acw⟩
 omega
theorem I6(o:OpD)(done:Bool)(s:an)(x:cD)(id:Txt):iF (fq o done s x).cases id=iF s.cases id∧(fq o done s x).cases.length=s.cases.length:=by
 unfold fq;split
 ·grind [I7]
 ·split
  ·exact⟨rfl,rfl⟩
  grind
end Go.Bf
namespace Go.Proofs.YtcochaoekecfdaaGreatDoor
open Go Go.Ab
abbrev By:=Bytes 5
theorem u5:(U 5).sz=1:=acF
theorem u5a:(U 5).k.agg=false:=acF
theorem qo(y:AV)(l:List UInt8)(h:Heap)(hb:By h y l)(hl:l.length≤140737488355328):
  ai Tryz.prog 92 [y] h fun r h' =>h' =h∧r= .sl (l.map aN) .no:=by
 refine acn Tryz.func92 8 [.tmp 2] fun hwf=>?_
 simp only[go_sem];refine hb.Uj fun b hbn=>?_
 simp only[go_sem];refine nM.intro (fun e=>?_) (fun e=>?_)
 ·have hl0:l= []:=Classical.byContradiction fun hh=>by grind
  subst hl0;simp only[go_sem];exact aeC
 ·simp only[go_sem]
  rw[hb.src u5];simp only[go_sem];refine⟨aco,fun hn=>?_,fun hn=>?_⟩
  ·have hl0:l= []:=by simp_all
   subst hl0;simp only[go_sem];exact aeC
  ·refine .own fun id hid=>?_
   simp only[go_sem];exact .mk _ (.sl _ _) (.ak hid) ⟨rfl,rfl⟩
end Go.Proofs.YtcochaoekecfdaaGreatDoor
namespace Go.Proofs.YtcochaoekecfdaaGreatDoor
open Go Go.Ab Go.RowKit Go.Lib
theorem i5:∃i z,Tryz.prog.info? 5=some i∧i.zero=some z∧i.size=1∧i.bytes=1∧z.cells.size=1:=by
 obtain⟨i,h1,h2,h3,z,h4,h5,_⟩:=(hU 5).info acr;exact⟨i,z,h1,h4,h2,by rw[h3];rfl,h5⟩
set_option maxHeartbeats 1000000 in
theorem IV(a:Option Addr)(w:World):Calls Tryz.prog 149 #[.slice a 0 0,.int .i64 0] w fun e w' =>e= .returned (.slice a 0 0)∧w' =w:=by
 go_enter Tryz.func149,Tryz.ntmps149
 go_wp2
 go_ret
 simp
set_option maxHeartbeats 1000000 in
theorem IU(a:Option Addr)(n:Nat)(h0:0<n)(hn:n≤20000000)(w:World):Calls Tryz.prog 149 #[.slice a 0 0,.int .i64 n] w fun e w' =>
  ∃z:Value,z.cells.size=1∧e= .returned (.slice (some ⟨w.heap.size,0,none⟩) 0 (grownCap w n 0 5))∧
   w' =w.drew.alloc (.cells (Builtin.zeroCells z.cells n++Builtin.zeroCells z.cells (grownCap w n 0 5 - n)) 5):=by
 obtain⟨i,z,e1,e2,e3,e4,e5⟩:=i5;have hsl:Tryz.prog.underlying 41=some (.slice 5):=by
  rfl
 have hin:Tryz.prog.underlying 3=some (.int .i64):=by
  rfl
 have hold:(Builtin.firstCells i.size 0 (.slice a 0 0)).run Tryz.prog w.drew= .ok (#[]:Array Value) w.drew:=by
  cases a<;>simp[Builtin.firstCells,loadCells,loadCellsFrom]
 have hrz:∀ty,(Builtin.append_ #[41,3] ty #[.slice a 0 0,.int .i64 (n:Int)]).run Tryz.prog w=
   .ok (.slice (some ⟨w.heap.size,0,none⟩) n (grownCap w n 0 5)) (w.drew.alloc (.cells (Builtin.zeroCells z.cells n++Builtin.zeroCells z.cells (grownCap w n 0 5 - n)) 5)):=fun ty=>by
  have h:=Lib.run_append_grow_zeros w 41 3 ty 5 i z .i64 .i64 hsl hin e1 e2 a 0 0 [] aco n h0 aco aco aco
   acp
   (by rw[e4];exact growslice_fits aco aco)
  simpa using h
 have hG:=grownCap_ge w n 0 5;have hG63:grownCap w n 0 5≤9223372036854775807:=by
  grind [grownCap_le_maxLen,maxLen]
 obtain⟨G,hGe⟩:∃G,G=grownCap w n 0 5:=⟨_,rfl⟩;rw[←hGe]at hrz hG hG63⊢;have h3:wrap64 ((n:Int) - 0)=(n:Int):=by grind [wrap64]
 have h4:¬((n:Int)<0):=aco;have h5:(n:Int)>0:=aco;refine Calls.mono (R:=fun e w' =>e= .returned (.slice (some ⟨w.heap.size,0,none⟩) 0 G)∧w' =w.drew.alloc (.cells (Builtin.zeroCells z.cells n++Builtin.zeroCells z.cells (G - n)) 5)) ?_ acp
 clear hold hGe
 go_enter Tryz.func149,Tryz.ntmps149
 cases a with
 |none=>
  go_wp2_with (at_builtin;refine Lib.wpList_append_run _ rfl _ _ _ _ rfl _ _ rfl rfl _ _ (hrz _) ?_)
  all_goals (go_ret;simp)
 |some q=>
  obtain⟨ab,ao,asp⟩:=q
  go_wp2_with (at_builtin;refine Lib.wpList_append_run _ rfl _ _ _ _ rfl _ _ rfl rfl _ _ (hrz _) ?_)
  all_goals (go_ret;simp)
end Go.Proofs.YtcochaoekecfdaaGreatDoor
namespace Go.Proofs.YtcochaoekecfdaaGreatDoor
open Go Go.Ab
theorem RF:(U 5).bytes=1:=acF
theorem NI(n:Nat)(hn:n≤20000000)(h:Heap):ai Tryz.prog 149 [.sl [] .full,.i n] h fun r h' =>Acc U 5 h h' r []∧fH h h' :=by
 refine fun c vs hs g hv hr=> .inl ⟨⟨_,Tryz.func149,acF,rfl⟩,?_⟩
 have h0:=hr 0 acw;have h1:=hr 1 acw;obtain⟨a,cap,sz,val,e0,sl⟩:=h0.iq;have hcap:cap=0:=sl.hp;subst hcap;have e1:=h1.bT;have ev:vs= #[.slice a 0 0,.int .i64 n]:=by
  apply Array.ext
  ·omega
  ·intro i h2 h3
   have h3' :i<2:=h3;have:i=0∨i=1:=aco;rcases this with rfl|rfl
   ·simpa[Array.getD,h2]using e0
   ·simpa[Array.getD,h2]using e1
 subst ev
 by_cases hn0:n=0
 ·subst hn0
  refine(IV a c.w).mono ?_
  rintro e w' ⟨rfl,rfl⟩
  exact⟨_,rfl,c,.sl [] .full,h,rfl,g,.refl c,h0,hs,.full (.refl h),.refl h⟩
 ·refine(IU a n aco hn c.w).mono ?_
  rintro e w' ⟨z,hz,rfl,rfl⟩
  refine⟨_,rfl,?_⟩;have hG:=grownCap_ge c.w n 0 5;have hG63:grownCap c.w n 0 5≤9223372036854775807:=by
   grind [grownCap_le_maxLen,maxLen]
  generalize hGe:grownCap c.w n 0 5=G at hG hG63;generalize hcells:Builtin.zeroCells z.cells n++Builtin.zeroCells z.cells (G - n)=cells;have hcs:cells.size=G:=by grind [size_zeroCells]
  obtain⟨id,hid⟩:=g.fresh;have g1:Ab.Good ({c with w:=c.w.drew}:Cx):=g.draw rfl rfl rfl rfl
  have e1:Ext c {c with w:=c.w.drew}:=Ext.draw rfl rfl rfl rfl
  have hh:h id=none:=yf hs hid;refine⟨Cx.aB {c with w:=c.w.drew} (.cells cells 5) id ⟨c.w.heap.size,0,none⟩ (.spare 0 1),.sl [] (.own id),upd h id (some (.spare 0 1)),rfl,?_,e1.trans (Ext.aB _ _ id _ _ rfl (.inl hid)),?_,hs.upd id _,?_,?_⟩
  ·exact g1.aB _ _ _ id _ _ rfl (.inl hid) acw acw
  ·refine .sl [] _ (some ⟨c.w.heap.size,0,none⟩) G 1 (fun _ _=>undef) (Nat.zero_le _) (by grind [lim]) acw (fun q hq _=>by cases hq;exact⟨rfl,by simp[Cx.aB]⟩)
    acw acw acw acw ?_
   exact⟨0,aeI,Nat.le_refl _,fun _=>⟨_,rfl,aeI,cells,5,(0,0),heap_alloc_new c.w.drew _,acp⟩⟩
  ·exact⟨(Sub.refl h).new hh _,.inr ⟨id,hh,rfl,by grind [ah,u5]⟩⟩
  ·exact((Sub.refl h).new hh _).fK
theorem Om(x y:AV)(a b:List UInt8)(h:Heap)(hx:By h x a)(hy:By h y b)(ha:a.length≤1000000000):
  ai Tryz.prog 17 [x,y] h fun r h' =>r= .b (decide (a=b))∧h' =h:=by
 refine acn Tryz.func17 26 [.tmp 4] fun hwf=>?_
 simp only[go_sem,hx.len,hy.len];refine .intro (fun e=>?_) (fun e=>?_)
 ·simp only[go_sem]
  refine .same (.refl _) ⟨?_,rfl⟩;have:a≠b:=fun hh=>by simp[hh]at e
  simp[this,au]
 ·have hl:a.length=b.length:=by simpa[Int.natCast_inj]using e
  simp only[go_sem];refine .intro (fun m ρ h' =>h' =h∧∃i:Nat,i≤a.length∧m=a.length - i∧a.take i=b.take i∧lk ρ 0=some x∧lk ρ 1=some y∧lk ρ 5=some (.i i)) a.length ?_ ?_
  ·refine⟨rfl,0,Nat.zero_le _,rfl,rfl,?_,?_,?_⟩<;>simp only[go_sem]
   all_goals rfl
  ·rintro m ρ h' ⟨rfl,i,hi,rfl,hab,r0,r1,r5⟩
   simp only[go_sem,r0,r1,r5,hx.len];refine .intro (fun e=>?_) (fun e=>?_)
   ·have hlt:i<a.length:=by simpa using e
    have hltb:i<b.length:=aco;simp only[go_sem,r0,r1,r5];refine⟨.of acs,hx.idx i rfl hlt u5 u5a fun p hp=>?_⟩
    simp only[go_sem,r0,r1,r5,hp _];refine hy.idx i rfl hltb u5 u5a fun p' hp' =>?_
    simp only[go_sem,r0,r1,r5,hp' _];refine .intro (fun e=>?_) (fun e=>?_)
    ·simp only[go_sem]
     refine .same (.refl _) ⟨?_,rfl⟩;have:a≠b:=fun hh=>by subst hh;simp at e
     simp[this,au]
    ·have hc:a[i]=b[i]:=by
      have:(a[i].toNat:Int)=b[i].toNat:=by simpa using e
      exact UInt8.toNat_inj.1 aco
     have w1:IntKind.i64.wrap ((i:Int)+1)=((i+1:Nat):Int):=ada;simp only[go_sem,r0,r1,r5,w1];refine⟨a.length - (i+1),aco,rfl,i+1,hlt,rfl,?_,?_,?_,?_⟩
     ·rw[List.take_succ_eq_append_getElem hlt,List.take_succ_eq_append_getElem hltb,hab,hc]
     all_goals simp only[go_sem,r0,r1,r5]
   ·have hge:i=a.length:=by have:¬(i<a.length):=(by simpa using e);omega
    simp only[go_sem];refine .same (.refl _) ⟨?_,rfl⟩;have:a=b:=by
     subst hge;rw[List.take_length]at hab;rw[hab,hl,List.take_length]
    simp[this,au]
theorem u27:(U 41).sz=1:=acF
theorem nH(ls:List (List UInt8))(i:Nat)(hi:i<ls.length):(ls.take (i+1)).flatten=(ls.take i).flatten++ls[i]:=by
 rw[List.take_succ_eq_append_getElem hi,List.flatten_append,List.flatten_cons,List.flatten_nil,List.append_nil]
theorem oH(ls:List (List UInt8))(i:Nat):(ls.take i).flatten.length≤ls.flatten.length:=by
 grind [List.take_append_drop,List.flatten_append,ach]
theorem As(ys:List AV)(ls:List (List UInt8))(q:Perm)(h:Heap)(hr:Ab.Rows 5 h ys ls)(hl:ls.flatten.length≤20000000)(hn:ls.length≤20000000):
  ai Tryz.prog 86 [.sl ys q] h fun r h' =>r= .sl (ls.flatten.map aN) .no∧Sub h h' :=by
 have hlen:=hr.1;refine acn Tryz.func86 36 [.tmp 2] fun hwf=>?_
 simp only[go_sem];refine .intro (fun m ρ h' =>h' =h∧∃i:Nat,i≤ls.length∧m=ls.length - i∧lk ρ 0=some (.sl ys q)∧lk ρ 9=some (.sl ys q)∧lk ρ 10=some (.i ys.length)∧
  lk ρ 11=some (.i i)∧lk ρ 3=some (.v (.int .i64 (ls.take i).flatten.length))) ls.length ?_ ?_
 ·refine⟨rfl,0,Nat.zero_le _,rfl,?_,?_,?_,?_,?_⟩<;>simp only[go_sem]
  all_goals first|rfl|simp
 ·rintro m ρ h' ⟨rfl,i,hi,rfl,r0,r9,r10,r11,r3⟩
  simp only[go_sem,r0,r9,r10,r11,r3];refine .intro (fun e=>?_) (fun e=>?_)
  ·have hlt:i<ys.length:=by simpa using e
   have hlt2:i<ls.length:=aco;have hb:=hr.2 i hlt hlt2;simp only[go_sem,r0,r9,r10,r11,r3];refine .at i hlt (by rw[hb.cells];rfl) ?_
   have t1:=oH ls (i+1);have t2:=nH ls i hlt2;have w1:IntKind.i64.wrap (((ls.take i).flatten.length:Int)+(ls[i].length:Int))=((ls.take (i+1)).flatten.length:Nat):=by
    rw[t2,ach]at t1⊢;rw[IntWalk.i64_in _ aco];omega
   simp only[go_sem,r0,r9,r10,r11,r3,hb.cells,hb.LJ,and_self,hb.len,w1];refine .no (decide_eq_false aco) ?_;have w2:IntKind.i64.wrap ((i:Int)+1)=((i+1:Nat):Int):=ada;simp only[go_sem,r0,r9,r10,r11,r3,w2];refine⟨ls.length - (i+1),aco,rfl,i+1,hlt2,rfl,?_,?_,?_,?_,?_⟩<;>simp only[go_sem,r0,r9,r10,r11,r3]
  ·have hge:i=ls.length:=by
    have:¬(i<ys.length):=by simpa using e
    omega
   subst hge;rw[List.take_length]at r3;simp only[go_sem,r0,r9,r10,r11,r3];refine(NI ls.flatten.length hl h').mono fun g1 h1 ⟨ha,hk⟩=>?_
   simp only[go_sem,r0,r9,r10,r11,r3];refine .intro (fun m ρ h2=>∃g:AV,∃i:Nat,Acc U 5 h' h2 g ((ls.take i).flatten.map aN)∧fH h' h2∧i≤ls.length∧m=ls.length - i∧lk ρ 25=some (.sl ys q)∧lk ρ 26=some (.i ys.length)∧
    lk ρ 27=some (.i i)∧lk ρ 6=some g) ls.length ?_ ?_
   ·refine⟨g1,0,ha,hk,Nat.zero_le _,rfl,?_,?_,?_,?_⟩<;>simp only[go_sem]
    all_goals rfl
   ·rintro m ρ h2 ⟨g,i,ha,hk,hi,rfl,r25,r26,r27,r6⟩
    simp only[go_sem,r25,r26,r27,r6];refine .intro (fun e=>?_) (fun e=>?_)
    ·have hlt:i<ys.length:=by simpa using e
     have hlt2:i<ls.length:=aco;have hb:=(hr.2 i hlt hlt2).fK hk;have t1:=oH ls (i+1);have t2:=nH ls i hlt2;simp only[go_sem,r25,r26,r27,r6];refine .at i hlt (by rw[hb.cells];rfl) ?_
     simp only[go_sem,r25,r26,r27,r6,hb.cells,hb.LJ,and_self];refine ha.app (zs:=ls[i].map aN) (by rw[u5];decide) (by rw[RF];decide) (fun k hk=>by rw[hb.src u5];exact hk) (by rw[u5,jt];trivial) (by rw[u5,jt];trivial) ?_ fun g' h3 ha' hk' =>?_
     ·rw[RF,acd,acd]
      rw[t2,ach]at t1;omega
     ·have w2:IntKind.i64.wrap ((i:Int)+1)=((i+1:Nat):Int):=by rw[IntWalk.i64_in _ aco];omega
      simp only[go_sem,r25,r26,r27,r6,w2];rw[←List.map_append,←t2]at ha';refine⟨ls.length - (i+1),aco,g',i+1,ha',hk.trans hk',hlt2,rfl,?_,?_,?_,?_⟩<;>simp only[go_sem,r25,r26,r27,r6]
    ·have hge:i=ls.length:=by
      have:¬(i<ys.length):=by simpa using e
      omega
     subst hge;rw[List.take_length]at ha;simp only[go_sem,r25,r26,r27,r6];exact .mk _ ha.weak (.refl _) ⟨rfl,ha.1⟩
structure D where
 q:Nat
 b:List UInt8
 sy:Nat
 f:Nat
 off:Bool
def D.ok(d:D):Prop:=d.b.length≤d.q∧d.q≤1048576∧d.sy≤d.b.length∧d.f<9223372036854775808
def D.burn(d:D):D:=if 0<d.f then {d with f:=d.f - 1,off:=decide (d.f=1)} else d
def D.cells(d:D)(y:AV):List AV:=[.i d.q,y,.i d.sy,.i d.f,.b d.off]
def bR(h:Heap)(id:Nat)(d:D):Prop:=∃y,h id=some (.obj (d.cells y) 96)∧By h y d.b
theorem bR.keep{h h' :Heap}{id:Nat}{d:D}(hd:bR h id d)(hs:fH h h'):bR h' id d:=by
 obtain⟨y,h1,h2⟩:=hd;exact⟨y,hs _ _ _ h1,h2.fK hs⟩
theorem By.set{h:Heap}{id:Nat}{x:AV}{l:List UInt8}{cs cs' :List AV}(hb:By h x l)(hid:h id=some (.obj cs 96)):By (upd h id (some (.obj cs' 96))) x l:=hb.keep (Keep.upd id _) hid acr
theorem CV(q:Nat)(hq:q≤1048576)(h:Heap):
  ai Tryz.prog 13 [.i q] h fun r h' =>∃id,h id=none∧r= .tup [.ptr id 0,.i 0]∧bR h' id ⟨q,[],0,0,false⟩∧Sub h h' :=by
 refine acn Tryz.func13 13 [.tmp 2,.tmp 3] fun hwf=>?_
 simp only[go_sem];refine .intro (fun e=>absurd (acf e) aco) (fun e=>?_)
 simp only[go_sem];refine .no (decide_eq_false aco) ?_;simp only[go_sem];intro id hid;simp only[go_sem];exact .same (.refl _) ⟨id,hid,rfl,⟨_,ah ..,.inl ⟨.full,rfl⟩⟩,(Sub.refl h).new hid _⟩
theorem rq(d:D)(hd:d.ok)(id:Nat)(h:Heap)(y:AV)(hid:h id=some (.obj (d.cells y) 96)):
  ai Tryz.prog 87 [.ptr id 0] h fun r h' =>r= .b d.burn.off∧h' =upd h id (some (.obj (d.burn.cells y) 96)):=by
 obtain⟨q,b,sy,f,off⟩:=d;obtain⟨d1,d2,d3,d4⟩:=hd;simp only at d1 d2 d3 d4;simp only[D.cells]at hid;refine acn Tryz.func87 27 [.tmp 2] fun hwf=>?_
 simp only[go_sem,hid];refine .intro (fun e=>?_) (fun e=>?_)
 ·have e:=acf e
  have w1:IntKind.i64.wrap ((f:Int) - 1)=((f - 1:Nat):Int):=ada;simp only[go_sem,hid,w1];have hb:(((f - 1:Nat):Int)==0)=decide (f=1):=by
   by_cases h1:f=1
   ·simp[h1]
   ·have:f - 1≠0:=by omega
    simp[h1,Int.natCast_eq_zero,this]
  refine .same (.refl _) ⟨?_,?_⟩
  ·simp only[D.burn,if_pos (show 0<f by omega),hb,au]
  ·simp only[D.burn,D.cells,if_pos (show 0<f by omega),hb]
 ·have e:=acg e
  have hf:¬0<f:=aco;simp only[go_sem,hid];refine .same (.refl _) ⟨?_,?_⟩
  ·simp only[D.burn,if_neg hf,au]
  ·simp only[D.burn,D.cells,if_neg hf]
   funext j
   simp only[upd];split
   ·rename_i e;subst e;exact hid
   ·rfl
theorem D.rq{d:D}(hd:d.ok):d.burn.ok:=by
 obtain⟨d1,d2,d3,d4⟩:=hd;unfold D.burn;split
 ·exact⟨d1,d2,d3,acp⟩
 ·exact⟨d1,d2,d3,d4⟩
theorem D.xH(d:D):d.burn.b=d.b:=by grind [D.burn]
theorem D.Kv(d:D):d.burn.q=d.q:=by grind [D.burn]
theorem D.Nn(d:D):d.burn.sy=d.sy:=by grind [D.burn]
theorem NF(d:D)(hd:d.ok)(id:Nat)(h:Heap)(y:AV)(hid:h id=some (.obj (d.cells y) 96))(hb:By h y d.b):
  ai Tryz.prog 85 [.ptr id 0] h fun r h' =>r= .i (d.q - d.b.length:Nat)∧h' =h:=by
 obtain⟨q,b,sy,f,off⟩:=d;obtain⟨d1,d2,d3,d4⟩:=hd;simp only at d1 d2 d3 d4 hb;simp only[D.cells]at hid;refine acn Tryz.func85 13 [.tmp 2] fun hwf=>?_
 have w1:IntKind.i64.wrap ((q:Int) - b.length)=((q - b.length:Nat):Int):=ada;simp only[go_sem,hid,hb.len,w1];exact⟨.of acs,.same (.refl _) ⟨rfl,rfl⟩⟩
theorem Q3(d:D)(id:Nat)(h:Heap)(y:AV)(hid:h id=some (.obj (d.cells y) 96))(hb:By h y d.b):
  ai Tryz.prog 29 [.ptr id 0] h fun r h' =>r= .i d.b.length∧h' =h:=by
 simp only[D.cells]at hid;refine acn Tryz.func29 8 [.tmp 2] fun hwf=>?_
 simp only[go_sem,hid,hb.len];exact acD
theorem Oh(d:D)(hd:d.ok)(id:Nat)(h:Heap)(y:AV)(hid:h id=some (.obj (d.cells y) 96))(hb:By h y d.b):
  ai Tryz.prog 103 [.ptr id 0] h fun r h' =>r= .sl (d.b.map aN) .no∧h' =h:=by
 obtain⟨d1,d2,d3,d4⟩:=hd;simp only[D.cells]at hid;refine acn Tryz.func103 8 [.tmp 2] fun hwf=>?_
 simp only[go_sem,hid];refine(qo y d.b h hb aco).mono fun r h' ⟨e1,e2⟩=>?_
 subst e1;subst e2
 simp only[go_sem];exact acD
def D.append(d:D)(b:List UInt8):D×Nat:=
 if d.off then(d,9)else if d.q<d.b.length+b.length then(d,8)else
  let e:=D.burn {d with b:=d.b++b}
  (e,if e.off then 9 else 0)
def D.sync(d:D):D×Nat:=
 if d.off then(d,9)else if d.burn.off then(d.burn,9)else({d.burn with sy:=d.b.length},0)
def D.cut(d:D)(n:Int):D×Nat:=
 if d.off then(d,9)else if n<0∨(d.b.length:Int)<n then(d,1)else
  if d.burn.off then(d.burn,9)else({d.burn with b:=d.b.take n.toNat,sy:=min d.sy n.toNat},0)
theorem D.uB{d:D}(hd:d.ok)(b:List UInt8):(d.append b).1.ok:=by
 unfold D.append;split
 ·omega
 ·split
  ·omega
  ·refine D.rq ⟨?_,hd.2.1,?_,hd.2.2.2⟩
   ·grind
   ·have:=hd.2.2.1
    grind
theorem D.E6{d:D}(hd:d.ok)(n:Int):(d.cut n).1.ok:=by
 have hb:=D.rq hd;unfold D.cut;split
 ·exact hd
 ·split
  ·exact hd
  ·split
   ·exact hb
   ·obtain⟨d1,d2,d3,d4⟩:=hb
    obtain⟨e1,e2,e3,e4⟩:=hd;refine⟨?_,?_,?_,d4⟩
    ·grind [D.Kv,List.length_take]
    ·grind [D.Kv]
    grind
theorem uB(d:D)(hd:d.ok)(id:Nat)(h:Heap)(x:AV)(b:List UInt8)(hdk:bR h id d)(hx:By h x b)(hl:b.length≤1000000000):
  ai Tryz.prog 34 [.ptr id 0,x] h fun r h' =>r= .v (.int .i64 (d.append b).2)∧bR h' id (d.append b).1∧Keep id h h' :=by
 obtain⟨y,hid0,hb⟩:=hdk;have hid:=hid0;simp only[D.cells]at hid;have hok:=hd;obtain⟨d1,d2,d3,d4⟩:=hd;refine acn Tryz.func34 26 [.tmp 4] fun hwf=>?_
 simp only[go_sem,hid];refine .intro (fun e=>?_) (fun e=>?_)
 ·simp only[go_sem]
  refine .same (.refl _) ?_;simp only[D.append,e,if_true,au];exact adU
 ·simp only[go_sem,hid,hx.len]
  refine(NF d hok id h y hid0 hb).mono fun r h' ⟨e1,e2⟩=>?_
  subst e1;subst e2
  simp only[go_sem];refine .intro (fun e2=>?_) (fun e2=>?_)
  ·have e2:=acf e2
   simp only[go_sem];refine .same (.refl _) ?_;simp only[D.append,e,if_pos (show d.q<d.b.length+b.length by omega),au]
   exact adU
  ·have e2:=acg e2
   have hno:¬d.q<d.b.length+b.length:=aco;simp only[go_sem,hid,hb.fit,hx.fit];refine(As [y,x] [d.b,b] .full h' (.cons hb (.cons hx .nil)) ?_ acw).mono fun r h1 ⟨e1,hs⟩=>?_
   ·simp only[List.flatten_cons,List.flatten_nil,List.append_nil,ach];omega
   ·subst e1
    have hid1:=hs _ _ hid;simp only[go_sem,hid1];have hok2:D.ok {d with b:=d.b++b}:=⟨by show(d.b++b).length≤d.q;rw[ach];omega,d2,by show d.sy≤(d.b++b).length;rw[ach];omega,d4⟩
    refine(rq {d with b:=d.b++b} hok2 id _ (.sl ((d.b++b).map aN) .no) ?_).mono fun r h2 ⟨e1,e2⟩=>?_
    ·rw[ah]
     simp only[D.cells,List.flatten_cons,List.flatten_nil,List.append_nil]
    ·subst e1;subst e2
     have hk:Keep id h' (upd (upd h1 id (some (.obj (d.cells (.sl ((d.b++b).map aN) .no)) 96))) id (some (.obj ((D.burn {d with b:=d.b++b}).cells (.sl ((d.b++b).map aN) .no)) 96))):=
      (hs.keep id).trans ((Keep.upd id _).trans (Keep.upd id _))
     have hA:d.append b=(D.burn {d with b:=d.b++b},if(D.burn {d with b:=d.b++b}).off then 9 else 0):=by
      unfold D.append;rw[if_neg (by simp[e]),if_neg hno]
     simp only[go_sem];refine .intro (fun e3=>?_) (fun e3=>?_)
     ·simp only[go_sem]
      refine .same (.refl _) ?_;rw[hA,if_pos e3];refine⟨rfl,⟨_,ah ..,?_⟩,fun j k hj hk2=>?_⟩
      ·simp only[D.xH];exact .sl _ _
      ·rw[ag _ _ hj];exact hs _ _ hk2
     ·simp only[go_sem]
      refine .same (.refl _) ?_;rw[hA,if_neg (by simp[e3])]
      refine⟨rfl,⟨_,ah ..,?_⟩,fun j k hj hk2=>?_⟩
      ·simp only[D.xH];exact .sl _ _
      ·rw[ag _ _ hj];exact hs _ _ hk2
theorem HQ(d:D)(hd:d.ok)(id:Nat)(h:Heap)(hdk:bR h id d):
  ai Tryz.prog 105 [.ptr id 0] h fun r h' =>r= .i d.sync.2∧bR h' id d.sync.1∧Keep id h h' :=by
 obtain⟨y,hid0,hb⟩:=hdk;have hid:=hid0;simp only[D.cells]at hid;refine acn Tryz.func105 19 [.tmp 2] fun hwf=>?_
 simp only[go_sem,hid];refine .intro (fun e=>?_) (fun e=>?_)
 ·simp only[go_sem,e]
  refine .same (.refl _) ?_;simp only[D.sync,e,if_true,au];exact adU
 ·simp only[go_sem,e]
  refine(rq d hd id h y hid0).mono fun r h1 ⟨e1,e2⟩=>?_
  subst e1;subst e2
  simp only[go_sem];refine .intro (fun e3=>?_) (fun e3=>?_)
  ·simp only[go_sem]
   refine .same (.refl _) ?_;rw[show d.sync=(d.burn,9) by unfold D.sync;rw[if_neg (by simp[e]),if_pos e3]]
   exact⟨rfl,⟨_,ah ..,by rw[D.xH];exact hb.set hid⟩,Keep.upd id _⟩
  ·simp only[D.cells]
   simp only[go_sem,hb.len];refine .same (.refl _) ?_;rw[show d.sync=({d.burn with sy:=d.b.length},0) by unfold D.sync;rw[if_neg (by simp[e]),if_neg (by simp[e3])]]
   exact⟨rfl,⟨_,ah ..,by show By _ _ d.burn.b;rw[D.xH];exact hb.set hid⟩,Keep.upd id _⟩
theorem E6(d:D)(hd:d.ok)(id:Nat)(h:Heap)(n:Int)(hdk:bR h id d):
  ai Tryz.prog 104 [.ptr id 0,.i n] h fun r h' =>r= .v (.int .i64 (d.cut n).2)∧bR h' id (d.cut n).1∧Keep id h h' :=by
 obtain⟨y,hid0,hb⟩:=hdk;have hid:=hid0;simp only[D.cells]at hid;have hok:=hd;obtain⟨d1,d2,d3,d4⟩:=hd;refine acn Tryz.func104 41 [.tmp 4] fun hwf=>?_
 simp only[go_sem,hid];refine .intro (fun e=>?_) (fun e=>?_)
 ·simp only[go_sem]
  refine .same (.refl _) ?_;simp only[D.cut,e,if_true,au];exact adU
 ·simp only[go_sem,hid]
  have bad:(n<0∨(d.b.length:Int)<n)→mN [.i 1] h fun r h' =>r= .v (.int .i64 (d.cut n).2)∧bR h' id (d.cut n).1∧Keep id h h' :=fun hbad=>by
   refine .same (.refl _) ?_;simp only[D.cut,e,if_pos hbad,au];exact adU
  refine .intro (fun e2=>?_) (fun e2=>?_)
  ·have e2' :=acf e2
   simp only[go_sem,e2];exact bad (.inl e2')
  ·have e2' :=acg e2
   simp only[go_sem,e2,hid,hb.len];refine .intro (fun e3=>?_) (fun e3=>?_)
   ·have e3' :=acf e3
    simp only[go_sem];exact bad (.inr e3')
   ·have e3' :=acg e3
    have hno:¬(n<0∨(d.b.length:Int)<n):=aco;simp only[go_sem];refine(rq d hok id h y hid0).mono fun r h1 ⟨e1,e2⟩=>?_
    subst e1;subst e2
    simp only[go_sem];refine .intro (fun e4=>?_) (fun e4=>?_)
    ·simp only[go_sem]
     refine .same (.refl _) ?_;rw[show d.cut n=(d.burn,9) by unfold D.cut;rw[if_neg (by simp[e]),if_neg hno,if_pos e4]]
     exact⟨rfl,⟨_,ah ..,by rw[D.xH];exact hb.set hid⟩,Keep.upd id _⟩
    ·have hb1:By (upd h id (some (.obj (d.burn.cells y) 96))) y d.b:=hb.set hid
     simp only[D.cells]at hb1⊢;simp only[go_sem];refine hb1.take (m:=n) (x:=.i64) n.toNat ?_ aco aco u5 fun z hz=>?_
     ·simp only[go_sem]
     ·simp only[go_sem]
      refine(qo z _ _ hz aek).mono fun r h1 ⟨e1,e2⟩=>?_
      subst e1;subst e2
      simp only[go_sem];refine .same (.refl _) ?_;rw[show d.cut n=({d.burn with b:=d.b.take n.toNat,sy:=min d.sy n.toNat},0) by unfold D.cut;rw[if_neg (by simp[e]),if_neg hno,if_neg (by simp[e4])]]
      refine⟨rfl,⟨.sl ((d.b.take n.toNat).map aN) .no,?_,.sl _ _⟩,Keep.upd id _⟩;simp only[ah,D.cells,D.Nn];have:(if n<(d.sy:Int)then n else(d.sy:Int))=((min d.sy n.toNat:Nat):Int):=by split<;>omega
      rw[this]
theorem D.Nf{d:D}{b:List UInt8}(h1:d.off=false)(h2:d.f=0)(h3:d.b.length+b.length≤d.q):d.append b=({d with b:=d.b++b},0):=by
 rcases d with⟨q,b0,sy,f,off⟩
 subst h1;subst h2
 unfold D.append;rw[if_neg acw,if_neg acp];rfl
theorem D.PB{d:D}(h1:d.off=false)(h2:d.f=0):d.sync=({d with sy:=d.b.length},0):=by
 simp_all [D.sync,D.burn,if_neg]
theorem dthen{f:FuncId}{args:List AV}{h:Heap}{Q:AV→Heap→Prop}{X:AV}{id:Nat}{d:D}(hf:ai Tryz.prog f args h fun r h' =>r=X∧bR h' id d∧Keep id h h')(k:∀h',bR h' id d→Keep id h h'→Q X h'):ai Tryz.prog f args h Q:=
 hf.mono fun r h' ⟨e1,e2,e3⟩=>by subst e1;exact k h' e2 e3
theorem L9(d:D)(hk:d.ok)(id:Nat)(h:Heap)(hd:bR h id d):ai Tryz.prog 103 [.ptr id 0] h fun r h' =>r= .sl (d.b.map aN) .no∧h' =h:=by
 obtain⟨y,h1,h2⟩:=hd;exact Oh d hk id h y h1 h2
theorem Hi(d:D)(id:Nat)(h:Heap)(hd:bR h id d):ai Tryz.prog 29 [.ptr id 0] h fun r h' =>r= .i d.b.length∧h' =h:=by
 obtain⟨y,h1,h2⟩:=hd;exact Q3 d id h y h1 h2
theorem kV{d:D}{b:List UInt8}(h1:d.off=false)(h2:d.b.length+b.length≤d.q):d.append b=(D.burn {d with b:=d.b++b},if(D.burn {d with b:=d.b++b}).off then 9 else 0):=by
 simp_all [D.append,if_neg]
theorem D.O2{d:D}(h:d.f=0):d.burn=d:=by simp_all [D.burn,if_neg]
theorem D.Ws{d:D}(h1:d.off=false)(h2:d.f=0){n:Nat}(h3:n≤d.b.length):d.cut n=({d with b:=d.b.take n,sy:=min d.sy n},0):=by
 simp_all [D.cut,if_neg,D.O2]
theorem D.ER{d:D}{b:List UInt8}(h1:d.off=false)(h2:d.q<d.b.length+b.length):d.append b=(d,8):=by
 simp_all [D.append,if_neg,if_pos]
def BN(s:BitVec 32):BitVec 32:=if s &&& 1#32=1#32 then(s>>>1) ^^^ 0xedb88320#32 else s>>>1
def Io:Nat→BitVec 32→BitVec 32
 |0,s=>s
 |n+1,s=>BN (Io n s)
def ru(s:BitVec 32)(c:UInt8):BitVec 32:=Io 8 (s ^^^ BitVec.ofNat 32 c.toNat)
def crc(l:List UInt8):BitVec 32:= ~~~ (l.foldl ru (BitVec.allOnes 32))
theorem Qk(c:UInt8):IntKind.u32.wrap (c.toNat:Int)=((BitVec.ofNat 32 c.toNat).toNat:Int):=by
 rfl
theorem FV(x:BitVec 32):(((x &&& 1#32).toNat:Int)==1)=decide (x &&& 1#32=1#32):=by
 rw[Bool.eq_iff_iff,beq_iff_eq,decide_eq_true_iff];constructor
 ·intro h
  apply BitVec.eq_of_toNat_eq
  grind
 grind
theorem Ms(y:AV)(l:List UInt8)(h:Heap)(hb:By h y l)(hl:l.length≤1000000000):
  ai Tryz.prog 89 [y] h fun r h' =>r= .v (.int .u32 ((crc l).toNat:Int))∧h' =h:=by
 refine acn Tryz.func89 31 [.tmp 2] fun hwf=>?_
 simp only[go_sem,hb.len];refine .intro (fun m ρ h' =>h' =h∧∃i:Nat,i≤l.length∧m=l.length - i∧lk ρ 7=some y∧lk ρ 8=some (.i l.length)∧lk ρ 9=some (.i i)∧lk ρ 3=some (.v (.int .u32 (((l.take i).foldl ru (BitVec.allOnes 32)).toNat:Int)))) l.length ?_ ?_
 ·refine⟨rfl,0,aco,rfl,?_,?_,?_,?_⟩<;>simp only[go_sem]
  rfl
 ·rintro m ρ h' ⟨rfl,i,hi,rfl,r7,r8,r9,r3⟩
  simp only[go_sem,r7,r8,r9,r3];refine .intro (fun e=>?_) (fun e=>?_)
  ·have hlt:i<l.length:=ack e
   have w1:IntKind.i64.wrap ((i:Int)+1)=((i+1:Nat):Int):=acE;have hs:(l.take (i+1)).foldl ru (BitVec.allOnes 32)=ru ((l.take i).foldl ru (BitVec.allOnes 32)) l[i]:=by
    grind [List.take_succ_eq_append_getElem]
   generalize (l.take i).foldl ru (BitVec.allOnes 32)=s at r3 hs;simp only[go_sem,r7,r8,r9,r3];refine hb.idx i rfl hlt u5 u5a fun p hp=>?_
   simp only[go_sem,r7,r8,r9,r3,hp _,Qk];refine .intro (fun m ρ h2=>h2=h'∧∃j:Nat,j≤8∧m=8 - j∧lk ρ 7=some y∧lk ρ 8=some (.i l.length)∧lk ρ 9=some (.i i)∧lk ρ 17=some (.i j)∧lk ρ 3=some (.v (.int .u32 ((Io j (s ^^^ BitVec.ofNat 32 l[i].toNat)).toNat:Int)))) 8 ?_ ?_
   ·refine⟨rfl,0,aco,rfl,?_,?_,?_,?_,?_⟩<;>simp only[go_sem,r7,r8,r9,r3]
    rfl
   ·rintro m ρ h2 ⟨rfl,j,hj,rfl,q7,q8,q9,q17,q3⟩
    simp only[go_sem,q7,q8,q9,q17,q3];refine .intro (fun e=>?_) (fun e=>?_)
    ·have hjl:j<8:=by grind
     have w2:IntKind.i64.wrap ((j:Int)+1)=((j+1:Nat):Int):=acE;have hc:Io (j+1) (s ^^^ BitVec.ofNat 32 l[i].toNat)=BN (Io j (s ^^^ BitVec.ofNat 32 l[i].toNat)):=rfl;generalize Io j (s ^^^ BitVec.ofNat 32 l[i].toNat)=z at q3 hc;simp only[go_sem,q7,q8,q9,q17,q3,FV];refine .intro (fun e2=>?_) (fun e2=>?_)
     ·simp only[go_sem,q7,q8,q9,q17,q3,FV,w2]
      refine⟨_,?_,rfl,j+1,aco,rfl,?_,?_,?_,?_,?_⟩
      rotate_left 5
      ·simp only[go_sem,q7,q8,q9,q17,q3]
       simp_all [BN,if_pos,acf]
      ·omega
      all_goals simp only[go_sem,q7,q8,q9,q17,q3,w2]
     ·simp only[go_sem,q7,q8,q9,q17,q3,FV,w2]
      refine⟨_,?_,rfl,j+1,aco,rfl,?_,?_,?_,?_,?_⟩
      rotate_left 5
      ·simp only[go_sem,q7,q8,q9,q17,q3]
       simp_all [BN,if_neg,acg]
      ·omega
      all_goals simp only[go_sem,q7,q8,q9,q17,q3,w2]
    ·have hj8:j=8:=by grind
     subst hj8;simp only[go_sem,q7,q8,q9,q17,q3,w1];refine⟨_,?_,rfl,i+1,aco,rfl,?_,?_,?_,?_⟩
     rotate_left 4
     ·simp only[go_sem,q7,q8,q9,q17,q3]
      rw[hs];rfl
     ·omega
     all_goals simp only[go_sem,q7,q8,q9,q17,q3,w1]
  ·have hge:i=l.length:=by grind
   subst hge;rw[List.take_length]at r3;simp only[go_sem,r7,r8,r9,r3];exact acD
def vV(n:Nat):List UInt8:=[UInt8.ofNat n,UInt8.ofNat (n / 256),UInt8.ofNat (n / 65536),UInt8.ofNat (n / 16777216)]
def iQ(l:List UInt8):Nat:=(l.getD 0 0).toNat+(l.getD 1 0).toNat*256+(l.getD 2 0).toNat*65536+(l.getD 3 0).toNat*16777216
theorem GU(n:Nat)(hn:n<4294967296)(h:Heap):ai Tryz.prog 88 [.v (.int .u32 (n:Int))] h fun r h' =>r= .sl ((vV n).map aN) .no∧h' =h:=by
 refine acn Tryz.func88 15 [.tmp 2] fun hwf=>?_
 have s8:=fun K=>Ku (U:=U) (ty:=153) (K:=K) n 8 .u64 acr
 have s16:=fun K=>Ku (U:=U) (ty:=153) (K:=K) n 16 .u64 acr
 have s24:=fun K=>Ku (U:=U) (ty:=153) (K:=K) n 24 .u64 acr
 simp only[Int.cast_ofNat_Int]at s8 s16 s24;simp only[go_sem,↓s8,↓s16,↓s24,w8];exact aeC
theorem Db(y:AV)(l:List UInt8)(h:Heap)(hb:By h y l)(hl:4≤l.length):ai Tryz.prog 195 [y] h fun r h' =>r= .v (.int .u32 (iQ l:Nat))∧h' =h:=by
 refine acn Tryz.func195 25 [.tmp 2] fun hwf=>?_
 have lt:∀c:UInt8,c.toNat<256:=fun c=>c.toNat_lt
 have hnum:iQ l=l[0].toNat+l[1].toNat*2 ^ 8+l[2].toNat*2 ^ 16+l[3].toNat*2 ^ 24:=by
  grind [iQ]
 generalize hc0:l[0]=c0 at hnum;generalize hc1:l[1]=c1 at hnum;generalize hc2:l[2]=c2 at hnum;generalize hc3:l[3]=c3 at hnum;have v:=fun c:UInt8=>w32 c.toNat acp
 have s1:=fun K=>EW (U:=U) (ty:=153) (K:=K) c1.toNat 8 .u64 acr (lt _)
 have s2:=fun K=>EW (U:=U) (ty:=153) (K:=K) c2.toNat 16 .u64 acr (lt _)
 have s3:=fun K=>EW (U:=U) (ty:=153) (K:=K) c3.toNat 24 .u64 acr (lt _)
 have o1:=fun K=>Kt (U:=U) (ty:=153) (K:=K) c0.toNat c1.toNat 8 acp acr (lt _)
 have o2:=fun K=>Kt (U:=U) (ty:=153) (K:=K) (c0.toNat+c1.toNat*2 ^ 8) c2.toNat 16 acp acr (lt _)
 have o3:=fun K=>Kt (U:=U) (ty:=153) (K:=K) (c0.toNat+c1.toNat*2 ^ 8+c2.toNat*2 ^ 16) c3.toNat 24 acp acr (lt _)
 simp only[Int.cast_ofNat_Int]at s1 s2 s3;simp only[go_sem];refine⟨.of acs,?_⟩;refine hb.idx 0 rfl aco u5 u5a fun p0 hp0=>?_
 rw[hc0]at hp0;simp only[go_sem,hp0 _,v];refine hb.idx 1 rfl aco u5 u5a fun p1 hp1=>?_
 rw[hc1]at hp1;simp only[go_sem,hp1 _,v,↓s1,↓o1];refine hb.idx 2 rfl aco u5 u5a fun p2 hp2=>?_
 rw[hc2]at hp2;simp only[go_sem,hp2 _,v,↓s2,↓o2];refine hb.idx 3 rfl aco u5 u5a fun p3 hp3=>?_
 rw[hc3]at hp3;simp only[go_sem,hp3 _,v,↓s3,↓o3];refine .same (.refl _) ⟨?_,rfl⟩;rw[hnum];rfl
theorem tE(n:Nat):(vV n).length=4:=rfl
theorem N6(l:List UInt8):iQ l<4294967296:=by
 have h:∀c:UInt8,c.toNat<256:=fun c=>c.toNat_lt
 have h0:=h (l.getD 0 0);have h1:=h (l.getD 1 0);have h2:=h (l.getD 2 0);have h3:=h (l.getD 3 0);unfold iQ;omega
def frame(p:List UInt8):List UInt8:=vV p.length++vV (crc p).toNat++p
theorem oJ(p:List UInt8):(frame p).length=8+p.length:=by grind [frame,tE]
def gO(l:List UInt8):Option (List UInt8):=
 if l.length<8 then none else if iQ l<1∨8192<iQ l∨l.length - 8<iQ l then none else
  if(crc ((l.drop 8).take (iQ l))).toNat=iQ (l.drop 4)then some ((l.drop 8).take (iQ l))else none
theorem mR{l p:List UInt8}(h:gO l=some p):8+p.length≤l.length∧1≤p.length∧p.length≤8192:=by
 unfold gO at h;split at h
 ·cases h
 ·split at h
  ·cases h
  ·split at h
   ·simp only[Option.some.injEq]at h
    subst h;rw[List.length_take,List.length_drop];omega
   ·cases h
theorem rP(l:List UInt8)(h:l.length<8):gO l=none:=by simp_all [gO,if_pos]
def scan(l:List UInt8):List (List UInt8)×Nat:=match h:gO l with
 |none=>([],0)
 |some p=>let r:=scan (l.drop (8+p.length));(p::r.1,8+p.length+r.2)
termination_by l.length
decreasing_by
 have:=mR h;rw[List.length_drop];omega
theorem rE{l:List UInt8}(h:gO l=none):scan l=([],0):=by
 grind [scan]
theorem vp{l p:List UInt8}(h:gO l=some p):scan l=(p::(scan (l.drop (8+p.length))).1,8+p.length+(scan (l.drop (8+p.length))).2):=by
 grind [scan]
theorem HK(l:List UInt8):(scan l).2≤l.length:=by
 induction hn:l.length using Nat.strongRecOn generalizing l with
 |_ n ih=>
  cases hb:gO l with
  |none=>simp_all [rE,Nat.zero_le]
  |some p=>
   have hl:=mR hb;rw[vp hb];have:=ih (l.drop (8+p.length)).length acp _ rfl;rw[List.length_drop]at this;omega
theorem K0(y:AV)(l:List UInt8)(h:Heap)(hb:By h y l)(hl:l.length≤1000000):
  ai Tryz.prog 35 [y] h fun r h' =>r= .sl ((frame l).map aN) .no∧Sub h h' :=by
 refine acn Tryz.func35 13 [.tmp 2] fun hwf=>?_
 have w1:=w32 l.length aco;simp only[go_sem,hb.len,w1];refine(GU l.length aco h).pthen ?_;simp only[go_sem];refine(Ms y l h hb aco).pthen ?_;simp only[go_sem];refine(GU (crc l).toNat (crc l).isLt h).pthen ?_;simp only[go_sem,hb.cells,hb.fit];refine(As [.sl ((vV l.length).map aN) .no,.sl ((vV (crc l).toNat).map aN) .no,y] [vV l.length,vV (crc l).toNat,l] .full h (.cons (.sl _ _) (.cons (.sl _ _) (.cons hb .nil))) ?_ acw).sthen fun h' hs=>?_
 ·grind [tE]
 simp only[go_sem];refine .same (.refl _) ⟨?_,hs⟩;simp[frame,au]
theorem BV(y:AV)(l:List UInt8)(h:Heap)(hb:By h y l)(hl:l.length≤2000000):
  ai Tryz.prog 157 [y] h fun r h' =>(∃P p b,r= .tup [P,.b b]∧By h P p∧gO l=if b=true then some p else none)∧h' =h:=by
 refine acn Tryz.func157 36 [.tmp 2,.tmp 3] fun hwf=>?_
 rcases Nat.lt_or_ge l.length 8 with h8|h8
 ·have t1:decide ((l.length:Int)<8)=true:=decide_eq_true aco
  simp only[go_sem,hb.len,t1];exact .same (.refl _) ⟨⟨_,[],false,rfl,.nil _,rP l h8⟩,rfl⟩
 ·have t1:decide ((l.length:Int)<8)=false:=decide_eq_false aco
  simp only[go_sem,hb.len,t1];refine(Db y l h hb aco).pthen ?_;have hn:=N6 l;have w1:IntKind.i64.wrap ((iQ l:Nat):Int)=((iQ l:Nat):Int):=aY _ aco;have w2:IntKind.i64.wrap ((l.length:Int) - 8)=((l.length - 8:Nat):Int):=acV
  by_cases hbad:iQ l<1∨8192<iQ l∨l.length - 8<iQ l
  ·have hnone:gO l=none:=by unfold gO;rw[if_neg aco,if_pos hbad]
   have fin:∀Z:Prop,Z→Z:=fun _ z=>z
   by_cases c1:iQ l<1
   ·have t2:decide (((iQ l:Nat):Int)<1)=true:=decide_eq_true aco
    simp only[go_sem,hb.len,w1,w2,t2];exact adS
   ·have t2:decide (((iQ l:Nat):Int)<1)=false:=decide_eq_false aco
    by_cases c2:8192<iQ l
    ·have t3:decide ((8192:Int)<((iQ l:Nat):Int))=true:=decide_eq_true aco
     simp only[go_sem,hb.len,w1,w2,t2,t3];exact adS
    ·have t3:decide ((8192:Int)<((iQ l:Nat):Int))=false:=decide_eq_false aco
     have t4:decide (((l.length - 8:Nat):Int)<((iQ l:Nat):Int))=true:=decide_eq_true aco;simp only[go_sem,hb.len,w1,w2,t2,t3,t4];exact adS
  ·have t2:decide (((iQ l:Nat):Int)<1)=false:=decide_eq_false aco
   have t3:decide ((8192:Int)<((iQ l:Nat):Int))=false:=decide_eq_false aco;have t4:decide (((l.length - 8:Nat):Int)<((iQ l:Nat):Int))=false:=decide_eq_false aco;have w3:IntKind.i64.wrap ((8:Int)+((iQ l:Nat):Int))=((8+iQ l:Nat):Int):=acV;simp only[go_sem,hb.len,w1,w2,t2,t3,t4,w3];refine hb.cut (m:=8) (m2:=(8+iQ l:Nat)) (x:=.i64) (x2:=.i64) 8 (8+iQ l) ?_ rfl ?_ rfl aco aco u5 fun z hz=>?_
   ·simp only[go_sem]
   ·simp only[go_sem]
   rw[Nat.add_sub_cancel_left]at hz;have hzl:((l.drop 8).take (iQ l)).length≤1000000:=by rw[List.length_take,List.length_drop];omega
   simp only[go_sem];refine .quiet acs ?_;simp only[go_sem];refine⟨_,Ms z _ h hz aco,?_⟩;simp only[go_sem];refine hb.from (m:=4) (x:=.i64) 4 ?_ rfl aco u5 fun z4 hz4=>?_
   ·simp only[go_sem]
   simp only[go_sem];refine⟨_,Db z4 _ h hz4 aej,?_⟩;simp only[go_sem];refine .same (.refl _) ⟨⟨z,_,_,rfl,hz,?_⟩,rfl⟩;unfold gO;rw[if_neg aco,if_neg hbad]
   by_cases hc:(crc ((l.drop 8).take (iQ l))).toNat=iQ (l.drop 4)
   ·rw[if_pos hc,hc];simp
   ·rw[if_neg hc,if_neg]
    simp only[beq_iff_eq];omega
theorem OC:(U 41).bytes=24:=acF
def kC(p:List UInt8):AV:=.sl (p.map aN) .no
theorem HJ(ps:List (List UInt8))(h:Heap):Ab.Rows 5 h (ps.map kC) ps:=⟨acw,fun i h1 h2=>by simp only[ace];exact .sl _ _⟩
theorem zf(ps:List (List UInt8)):Sized 1 (ps.map kC):=(HJ ps cQ).sized
def gV(h:Heap)(y:AV)(xs:List AV)(sp:List Nat):Prop:=(y= .sl xs .full∧sp= [])∨∃k,y= .sl xs (.own k)∧h k=some (.spare xs.length 1)∧sp= [k]
theorem Jz{l:List UInt8}{at_:Nat}{ps:List (List UInt8)}{p:List UInt8}(h:scan l=(ps++(scan (l.drop at_)).1,at_+(scan (l.drop at_)).2))(hp:gO (l.drop at_)=some p):
  scan l=((ps++ [p])++(scan (l.drop (at_+(8+p.length)))).1,(at_+(8+p.length))+(scan (l.drop (at_+(8+p.length)))).2):=by
 simp_all [vp,List.drop_drop,Nat.add_assoc]
theorem On(y:AV)(l:List UInt8)(h:Heap)(hb:By h y l)(hl:l.length≤2000000):
  ai Tryz.prog 102 [y] h fun r h' =>∃z sp,r= .tup [z,.i ((scan l).2:Nat)]∧gV h' z ((scan l).1.map kC) sp∧Sub h h'∧∀i∈sp,h i=none:=by
 refine acn Tryz.func102 29 [.tmp 2,.tmp 3] fun hwf=>?_
 simp only[go_sem];refine .intro (fun m ρ h' =>∃(i:Nat) (ps:List (List UInt8)) (z:AV),Acc U 41 h h' z (ps.map kC)∧fH h h'∧ps.length≤i∧i≤l.length∧m=l.length - i∧scan l=(ps++(scan (l.drop i)).1,i+(scan (l.drop i)).2)∧
  lk ρ 0=some y∧lk ρ 4=some z∧lk ρ 5=some (.i (i:Nat))) l.length ?_ ?_
 ·refine⟨0,[],_,.full (.refl h),.refl h,acw,aco,rfl,acw,?_,?_,?_⟩<;>simp only[go_sem]
 ·rintro m ρ h' ⟨i,ps,z,ha,hk,hpi,hi,rfl,hsc,r0,r4,r5⟩
  have hb' :=hb.fK hk;simp only[go_sem,r0,r4,r5];refine hb'.from (m:=i) (x:=.i64) i ?_ rfl hi u5 fun y2 hy2=>?_
  ·rfl
  simp only[go_sem,r0,r4,r5];refine(BV y2 (l.drop i) h' hy2 acp).mono fun r h2 ⟨⟨P,p,b,e1,hP,hbg⟩,e2⟩=>?_
  subst e1;subst e2
  cases b with
  |false=>
   rw[if_neg acw]at hbg;rw[rE hbg]at hsc;simp only[go_sem,r0,r4,r5];have hs:=ha.1;rw[hsc];rcases ha.2 with rfl|⟨k,k1,rfl,k2⟩
   ·exact .same (.refl _) ⟨_,[],rfl,.inl ⟨acw,rfl⟩,hs,acw⟩
   ·rw[u27]at k2
    exact .same (.refl _) ⟨_,[k],rfl,.inr ⟨k,acw,acp,rfl⟩,hs,acp⟩
  |true=>
   rw[if_pos rfl]at hbg;have hpl:=mR hbg;rw[List.length_drop]at hpl;have hsc' :=Jz hsc hbg;have w1:IntKind.i64.wrap ((8:Int)+(p.length:Int))=((8+p.length:Nat):Int):=acE;have w2:IntKind.i64.wrap ((i:Int)+((8+p.length:Nat):Int))=((i+(8+p.length):Nat):Int):=acE;simp only[go_sem,r0,r4,r5];refine(qo P p h2 hP aco).pthen' ?_;simp only[go_sem,r0,r4,r5];refine ha.app (zs:=[kC p]) acr acr (fun k hk=>hk) (by grind [u27,zf]) (by grind [u27,Sized,kC,AV.cells]) (by grind [OC]) fun z' h3 ha' hk' =>?_
   rw[show ps.map kC++ [kC p]=(ps++ [p]).map kC by simp]at ha'
   have hP3:=hP.fK hk';simp only[go_sem,r0,r4,r5,hP3.len,w1,w2];refine⟨_,?_,i+(8+p.length),ps++ [p],z',ha',hk.trans hk',acp,aco,rfl,hsc',?_,?_,?_⟩
   ·omega
   all_goals simp only[go_sem,r0,r4,r5,hP3.len,w1,w2]
theorem Oo(l:List UInt8):(scan l).1.length≤l.length∧∀p∈(scan l).1,p.length≤8192:=by
 induction hn:l.length using Nat.strongRecOn generalizing l with
 |_ n ih=>
  cases hb:gO l with
  |none=>simp_all [rE,Nat.zero_le]
  |some p=>
   have hl:=mR hb;rw[vp hb]
   grind
theorem gV.row{h:Heap}{y:AV}{xs:List AV}{sp:List Nat}(hg:gV h y xs sp):∃q,y= .sl xs q:=by
 rcases hg with⟨rfl,_⟩|⟨k,rfl,_⟩<;>exact⟨_,rfl⟩
def Touch(S:List Nat)(h h' :Heap):Prop:=∀j k,j∉S→h j=some k→h' j=some k
theorem Touch.refl(S:List Nat)(h:Heap):Touch S h h:=fun _ _ _ e=>e
theorem Touch.trans{S T:List Nat}{a b c:Heap}(x:Touch S a b)(y:Touch T b c):Touch (S++T) a c:=fun j k e hj=>y j k acp (x j k acp hj)
theorem Touch.of{S:List Nat}{h h' :Heap}(hs:Ab.Sub h h'):Touch S h h' :=fun _ _ _ e=>hs _ _ e
theorem Touch.keep{i:Nat}{h h' :Heap}(hs:Keep i h h'):Touch [i] h h' :=fun j k e hj=>hs j k acp hj
theorem Touch.upd{h:Heap}{i:Nat}{k:Option Blk}:Touch [i] h (upd h i k):=Touch.keep (Keep.upd i k)
theorem Touch.mono{S T:List Nat}{h h' :Heap}(ht:Touch S h h')(hs:∀i∈S,i∈T∨h i=none):Touch T h h' :=fun j k e hj=>ht j k acp hj
theorem gV.touch{h h' :Heap}{y:AV}{xs:List AV}{sp S:List Nat}(hg:gV h y xs sp)(ht:Touch S h h')(hn:∀i∈sp,i∉S):gV h' y xs sp:=by
 rcases hg with⟨rfl,rfl⟩|⟨k,rfl,k1,rfl⟩
 ·exact .inl ⟨rfl,rfl⟩
 ·exact .inr ⟨k,rfl,ht _ _ (hn k acw) k1,rfl⟩
theorem gV.has{h:Heap}{y:AV}{xs:List AV}{sp:List Nat}(hg:gV h y xs sp):∀i∈sp,∃n,h i=some (.spare n 1):=by
 rcases hg with⟨rfl,rfl⟩|⟨k,rfl,k1,rfl⟩
 ·simp
 grind
theorem gV.app{h:Heap}{y v:AV}{xs zs:List AV}{sp:List Nat}{Q:AV→Heap→Prop}(hg:gV h y xs sp)(hsrc:∀k:List AV→Prop,k zs→iu U 41 h v k)(s1:Sized 1 xs)(s2:Sized 1 zs)
  (hlen:xs.length+zs.length≤1000000000000) (hk:∀y' h' sp',gV h' y' (xs++zs) sp'→Touch sp h h'→(∀i∈sp',i∈sp∨h i=none)→Q y' h'):apK U h y v Q (.slice 41):=by
 rcases hg with⟨rfl,rfl⟩|⟨k,rfl,k1,rfl⟩
 ·refine(pZ ..).mpr ⟨acr,acr,hsrc _ ⟨by grind [u27],by grind [u27],by grind [OC],fun hn=>?_,fun hn=> .own fun id hid=>?_⟩⟩
  ·subst hn
   exact hk _ _ [] (.inl ⟨acw,rfl⟩) (.refl _ _) acw
  ·rw[u27]
   exact hk _ _ [id] (.inr ⟨id,rfl,by rw[ah,ach],rfl⟩) (.of ((Ab.Sub.refl h).new hid _)) acp
 ·refine(BJ ..).mpr ⟨acr,acr,hsrc _ ⟨by grind [u27],by grind [u27],by grind [OC],by grind [u27],?_⟩⟩
  rw[u27];exact hk _ _ [k] (.inr ⟨k,rfl,by rw[ah,ach],rfl⟩) .upd acw
def JAt(h:Heap)(t jid did:Nat)(ps:List (List UInt8))(down:Bool)(sp:List Nat):Prop:=
 ∃y xs,h jid=some (.obj [.ptr did 0,y,.b down] t)∧gV h y xs sp∧∀g,Ab.Rows 5 g xs ps
theorem JAt.touch{h h' :Heap}{t jid did:Nat}{ps:List (List UInt8)}{down:Bool}{sp S:List Nat}(hj:JAt h t jid did ps down sp)(ht:Touch S h h')(h1:jid∉S)(hn:∀i∈sp,i∉S):JAt h' t jid did ps down sp:=by
 obtain⟨y,xs,a,b,c⟩:=hj;exact⟨y,xs,ht _ _ h1 a,b.touch ht hn,c⟩
theorem JAt.sub{h h' :Heap}{t jid did:Nat}{ps:List (List UInt8)}{down:Bool}{sp:List Nat}(hj:JAt h t jid did ps down sp)(ht:Ab.Sub h h'):JAt h' t jid did ps down sp:=
 hj.touch (S:=[]) (.of ht) acw acw
theorem Jw{h:Heap}{xs:List AV}{ps:List (List UInt8)}{x:AV}{p:List UInt8}(hr:Ab.Rows 5 h xs ps)(hx:By h x p):Ab.Rows 5 h (xs++ [x]) (ps++ [p]):=⟨by simp[hr.1],fun i h1 h2=>by
 have hl:=hr.1
 by_cases hi:i<xs.length
 ·rw[List.getElem_append_left hi,List.getElem_append_left aco]
  exact hr.2 i hi aco
 ·have e:i=xs.length:=by grind
  subst e;simpa[hl]using hx⟩
theorem tg(jid did:Nat)(ps:List (List UInt8))(down:Bool)(sp:List Nat)(h:Heap)(hj:JAt h 173 jid did ps down sp):ai Tryz.prog 48 [.ptr jid 0] h fun r h' =>r= .b down∧h' =h:=by
 obtain⟨y,xs,a,_,_⟩:=hj;refine acn Tryz.func48 7 [.tmp 2] fun hwf=>?_
 simp only[go_sem,a];exact acD
theorem zb(jid did:Nat)(ps:List (List UInt8))(down:Bool)(sp:List Nat)(h:Heap)(hj:JAt h 173 jid did ps down sp)(hl:ps.length≤1000000)(hp:∀p∈ps,p.length≤1000000):
  ai Tryz.prog 45 [.ptr jid 0] h fun r h' =>∃q,r= .sl (ps.map kC) q∧Ab.Sub h h' :=by
 obtain⟨y,xs,a,b,c⟩:=hj;refine acn Tryz.func45 22 [.tmp 2] fun hwf=>?_
 obtain⟨qy,rfl⟩:=b.row;have hlen:=(c h).1;simp only[go_sem,a];refine .intro (fun m ρ g=>∃(i:Nat) (z:AV),Acc U 41 h g z ((ps.take i).map kC)∧i≤ps.length∧m=ps.length - i∧lk ρ 3=some z∧lk ρ 9=some (.sl xs qy)∧lk ρ 10=some (.i xs.length)∧lk ρ 11=some (.i i)) (ps.length - 0) ?_ ?_
 ·refine⟨0,_,.full (.refl h),aco,rfl,?_,?_,?_,?_⟩<;>simp only[go_sem]
 ·rintro m ρ g ⟨i,z,ha,hi,rfl,r3,r9,r10,r11⟩
  by_cases hc:i<ps.length
  ·have d1:decide ((i:Int)<(xs.length:Int))=true:=decide_eq_true aco
   have w1:IntKind.i64.wrap ((i:Int)+1)=((i+1:Nat):Int):=acE;have hx:=(c g).2 i aco hc;simp only[go_sem,r3,r9,r10,r11,d1];refine .at i aco (by rw[hx.cells];rfl) ?_
   simp only[go_sem,r3,r9,r10,r11,hx.cells,hx.LJ,and_self];refine(qo xs[i] ps[i] g hx acp).pthen' ?_;simp only[go_sem,r3,r9,r10,r11];refine ha.app (v:=.sl [kC ps[i]] .full) (zs:=[kC ps[i]]) acr acr (fun k hk=>hk) (by grind [u27,zf]) (by grind [u27,Sized,kC,AV.cells]) (by grind [OC]) fun z' g2 ha' hk' =>?_
   simp only[go_sem,r3,r9,r10,r11,w1];refine⟨_,?_,i+1,z',?_,aco,rfl,?_,?_,?_,?_⟩
   ·omega
   ·grind [List.take_succ_eq_append_getElem]
   all_goals simp only[go_sem,r3,r9,r10,r11,w1]
  ·obtain rfl:i=ps.length:=by omega
   have d1:decide ((ps.length:Int)<(xs.length:Int))=false:=decide_eq_false aco;simp only[go_sem,r3,r9,r10,r11,d1];rw[List.take_length]at ha;obtain⟨q,rfl⟩:=ha.row;exact .same (.refl _) ⟨q,rfl,ha.1⟩
def D.ck(d:D):D×Nat:=
 let c:=if(scan d.b).2<d.b.length then d.cut ((scan d.b).2:Nat)else(d,0)
 if c.2=0 then c.1.sync else c
theorem Lm(d:D)(hd:d.ok)(id:Nat)(h:Heap)(hdk:bR h id d):
  ai Tryz.prog 44 [.ptr id 0] h fun r h' =>∃J,r= .tup [J,.i (d.ck.2:Nat)]∧bR h' id d.ck.1∧Keep id h h'∧
   if d.ck.2=0 then∃jid sp,J= .ptr jid 0∧h jid=none∧JAt h' 173 jid id (scan d.b).1 false sp∧∀i∈sp,h i=none∧i≠jid else J= .v (.pointer none):=by
 refine ai.of_wp hU Tryz.func44 rfl acF 35 rfl [.tmp 2,.tmp 3] rfl (ab9 rfl) ?_;refine .one hU hm ?_;simp only[go_sem]
 show WP _ _ _ _ _ _
 refine .one hU hm ?_;simp only[go_sem]
 show WP _ _ _ _ _ _
 have hlen:d.b.length≤2000000:=by have:=hd.1;have:=hd.2.1;omega
 obtain⟨at_,hat⟩:∃n,(scan d.b).2=n:=⟨_,rfl⟩;have hatl:=HK d.b;rw[hat]at hatl;refine .cut (fun ρ g=>∃z sp,gV g z ((scan d.b).1.map kC) sp∧Ab.Sub h g∧(∀i∈sp,h i=none)∧lk ρ 0=some (.ptr id 0)∧lk ρ 4=some z∧lk ρ 5=some (.i at_)) (.vc hU hm ?_) ?_
 ·simp only[go_sem]
  refine(L9 d hd id h hdk).pthen ?_;simp only[go_sem];refine(On _ d.b h (.sl _ _) hlen).mono fun r g ⟨z,sp,e1,hg,hs,hsp⟩=>?_
  subst e1;rw[hat];simp only[go_sem];refine⟨z,sp,hg,hs,hsp,?_,?_,?_⟩<;>simp only[go_sem]
 rintro ρ g ⟨z,sp,hg,hs,hsp,r0,r4,r5⟩
 have hdk1:=hdk.keep hs.fK;have hob:∀i∈sp,i≠id:=fun i hi e=>by
  obtain⟨y,hy,_⟩:=hdk
  grind
 refine .cut (fun ρ g=>∃d1,d.ck=d1.sync∧d1.ok∧bR g id d1∧gV g z ((scan d.b).1.map kC) sp∧Keep id h g∧lk ρ 0=some (.ptr id 0)∧lk ρ 4=some z) (.vc hU hm ?_) ?_
 ·simp only[go_sem,r0,r4,r5]
  refine(Hi d id g hdk1).pthen ?_;simp only[go_sem,r0,r4,r5];refine .intro (fun e=>?_) (fun e=>?_)
  ·have e:=acf e
   have e' :at_<d.b.length:=aco;simp only[go_sem,r0,r4,r5];refine dthen (E6 d hd id g at_ hdk1) fun g1 hd1 kp=>?_
   have hO:d.ck=if(d.cut (at_:Nat)).2=0 then(d.cut (at_:Nat)).1.sync else d.cut (at_:Nat):=by
    simp_all [D.ck,if_pos]
   have ok1:=D.E6 hd at_;generalize d.cut (at_:Nat)=D0 at hO hd1 ok1⊢;obtain⟨D1,c1⟩:=D0;simp only at hO hd1 ok1⊢;simp only[go_sem,r0,r4,r5]
   by_cases hc:c1=0
   ·subst hc
    rw[if_pos rfl]at hO;simp only[go_sem,r0,r4,r5];refine⟨D1,hO,ok1,hd1,hg.touch (Touch.keep kp) acp,(hs.keep id).trans kp,?_,?_⟩<;>simp only[go_sem,r0,r4]
   ·rw[if_neg hc]at hO
    have t1:(((c1:Nat):Int) !=0)=true:=acp;simp only[go_sem,r0,r4,r5,t1];refine .same (.refl _) ⟨_,by rw[hO];rfl,acp,(hs.keep id).trans kp,?_⟩
    grind
  ·have e:=acg e
   have e' :¬at_<d.b.length:=aco;have hO:d.ck=d.sync:=by
    simp_all [D.ck,if_neg]
   simp only[go_sem,r0,r4,r5];refine⟨d,hO,hd,hdk1,hg,hs.keep id,?_,?_⟩<;>simp only[go_sem,r0,r4]
 rintro ρ g1 ⟨d1,hO,ok1,hd1,hg1,kp1,r0,r4⟩
 refine .vc hU hm ?_;simp only[go_sem,r0,r4];refine dthen (HQ d1 ok1 id g1 hd1) fun g2 hd2 kp2=>?_
 rw[hO];generalize d1.sync=D0 at hd2⊢;obtain⟨D2,c2⟩:=D0;simp only at hd2⊢;have kp:=kp1.trans kp2;have hg2:=hg1.touch (Touch.keep kp2) acp;simp only[go_sem,r0,r4]
 by_cases hc:c2=0
 ·subst hc
  obtain⟨qz,rfl⟩:=hg2.row;simp only[go_sem,r0,r4];intro jid hjid;simp only[go_sem,r0,r4];have hne:jid≠id:=fun e=>by
   obtain⟨y,hy,_⟩:=hd2
   grind
  have hjh:h jid=none:=by
   cases hh:h jid with
   |none=>rfl
   |some k=>rw[kp _ _ hne hh]at hjid;omega
  have hsj:∀i∈sp,i≠jid:=fun i hi e=>by
   obtain⟨n,hn⟩:=hg2.has i hi
   grind
  refine .same (.refl _) ⟨_,rfl,hd2.keep (.new hjid),fun j k e hj=>?_,jid,sp,rfl,hjh,⟨_,_,ah ..,hg2.touch .upd acp,fun g=>HJ _ g⟩,fun i hi=>⟨hsp i hi,hsj i hi⟩⟩
  have h2:=kp j k e hj;rw[ag _ _ acp];exact agu
 ·have t1:(((c2:Nat):Int) !=0)=true:=by grind
  simp only[go_sem,r0,r4,t1];exact .same (.refl _) ⟨_,rfl,hd2,kp,acp⟩
def jadd(d:D)(ps:List (List UInt8))(down:Bool)(p:List UInt8):(D×List (List UInt8)×Bool)×Nat:=
 if down=true then((d,ps,true),9)else if p.length=0∨8192<p.length then((d,ps,false),1)else
  if(d.append (frame p)).2=8 then(((d.append (frame p)).1,ps,false),8)else
   if(if(d.append (frame p)).2=0 then(d.append (frame p)).1.sync else d.append (frame p)).2=0 then
    (((if(d.append (frame p)).2=0 then(d.append (frame p)).1.sync else d.append (frame p)).1,ps++ [p],false),0)
   else(((if(d.append (frame p)).2=0 then(d.append (frame p)).1.sync else d.append (frame p)).1,ps,true),9)
theorem D.CC(d:D)(b:List UInt8):(d.append b).2=0∨(d.append b).2=8∨(d.append b).2=9:=by
 grind [D.append]
theorem D.JL(d:D):d.sync.2=0∨d.sync.2=9:=by
 grind [D.sync]
theorem Hh(d:D)(hd:d.ok)(id jid:Nat)(ps:List (List UInt8))(down:Bool)(sp:List Nat)(h:Heap)(x:AV)(p:List UInt8)(hdk:bR h id d)(hj:JAt h 173 jid id ps down sp)(hx:By h x p)(hp:p.length≤1000000)(hps:ps.length≤1000000):
  ai Tryz.prog 49 [.ptr jid 0,x] h fun r h' =>r= .i ((jadd d ps down p).2:Nat)∧∃sp',bR h' id (jadd d ps down p).1.1∧JAt h' 173 jid id (jadd d ps down p).1.2.1 (jadd d ps down p).1.2.2 sp'∧
   Touch (id::jid::sp) h h'∧∀i∈sp',i∈sp∨h i=none:=by
 obtain⟨y,xs,hjid,hg,hrs⟩:=hj;have hne:jid≠id:=fun e=>by
  obtain⟨z,hz,_⟩:=hdk;rw[←e,hjid]at hz;simp only[Option.some.injEq,Blk.obj.injEq]at hz;exact absurd hz.2 acr
 refine ai.of_wp hU Tryz.func49 rfl acs 51 rfl [.tmp 4] rfl (ab9 rfl) ?_;refine .one hU hm ?_;simp only[go_sem]
 show WP _ _ _ _ _ _
 refine .one hU hm ?_;cases down with
 |true=>
  have hJ:jadd d ps true p=((d,ps,true),9):=by simp[jadd]
  simp only[go_sem,hjid];refine .same (.refl _) ?_;rw[hJ];exact⟨rfl,sp,hdk,⟨y,xs,hjid,hg,hrs⟩,.refl _ _,fun i hi=> .inl hi⟩
 |false=>
  simp only[go_sem,hjid]
  show WP _ _ _ _ _ _
  refine .one hU hm ?_;have bad:(p.length=0∨8192<p.length)→mN [.i 1] h fun r h' =>r= .i ((jadd d ps false p).2:Nat)∧∃sp',bR h' id (jadd d ps false p).1.1∧JAt h' 173 jid id (jadd d ps false p).1.2.1 (jadd d ps false p).1.2.2 sp'∧
    Touch (id::jid::sp) h h'∧∀i∈sp',i∈sp∨h i=none:=fun hb=>by
   have hJ:jadd d ps false p=((d,ps,false),1):=by unfold jadd;rw[if_neg acw,if_pos hb]
   refine .same (.refl _) ?_;rw[hJ];exact⟨rfl,sp,hdk,⟨y,xs,hjid,hg,hrs⟩,.refl _ _,fun i hi=> .inl hi⟩
  by_cases h0:p.length=0
  ·have t0:(((p.length:Nat):Int)==0)=true:=by simp[h0]
   simp only[go_sem,hx.len,t0];exact bad (.inl h0)
  ·have t0:(((p.length:Nat):Int)==0)=false:=beq_eq_false_iff_ne.mpr aco
   by_cases h1:8192<p.length
   ·have t1:decide ((8192:Int)<(p.length:Int))=true:=decide_eq_true aco
    simp only[go_sem,hx.len,t0,t1];exact bad (.inr h1)
   ·have t1:decide ((8192:Int)<(p.length:Int))=false:=decide_eq_false aco
    have hJ:jadd d ps false p=if(d.append (frame p)).2=8 then(((d.append (frame p)).1,ps,false),8)else
      if(if(d.append (frame p)).2=0 then(d.append (frame p)).1.sync else d.append (frame p)).2=0 then
       (((if(d.append (frame p)).2=0 then(d.append (frame p)).1.sync else d.append (frame p)).1,ps++ [p],false),0)
      else(((if(d.append (frame p)).2=0 then(d.append (frame p)).1.sync else d.append (frame p)).1,ps,true),9):=by
     have hno:¬(p.length=0∨8192<p.length):=aco;unfold jadd;rw[if_neg acw,if_neg hno]
    have hcode:=D.CC d (frame p);simp only[go_sem,hx.len,t0,t1]
    show WP _ _ _ _ _ _
    refine .one hU hm ?_;simp only[go_sem];refine .calls (hm1 jid _) [0,1,2,3,4,5,6,7] (.hm1 hjid) acs rfl ?_;simp only[go_sem,hjid];refine(K0 x p h hx hp).sthen fun g1 hs1=>?_
    refine⟨.hm1 (hs1 _ _ hjid),?_⟩;simp only[go_sem];refine dthen (uB d hd id g1 _ (frame p) (hdk.keep hs1.fK) (.sl _ _) (by rw[oJ];omega)) fun g2 hd2 kp=>?_
    have hj2:g2 jid=some (.obj [.ptr id 0,y,.b false] 173):=kp _ _ hne (hs1 _ _ hjid);refine⟨.hm1 hj2,?_⟩;have ok2:=D.uB hd (frame p);have hkp:Keep id h g2:=(hs1.keep id).trans kp;have hgid:∀i∈sp,i≠id:=fun i hi e=>by
     obtain⟨n,hn⟩:=hg.has i hi;obtain⟨z,hz,_⟩:=hdk;rw[e,hz]at hn;cases hn
    have hg2:gV g2 y xs sp:=hg.touch (Touch.keep hkp) (fun i hi=>by simp[hgid i hi])
    have hx2:By g2 x p:=by
     obtain⟨z,hz,_⟩:=hdk;exact(hx.keep hkp hz acr)
    have hT2:Touch (id::jid::sp) h g2:=(Touch.keep hkp).mono (fun i hi=> .inl (by simp at hi;simp[hi]))
    generalize d.append (frame p)=A at hJ hcode hd2 ok2⊢;obtain⟨d2,c2⟩:=A;simp only at hJ hcode hd2 ok2⊢;simp only[go_sem]
    show WP _ _ _ _ _ _
    refine .one hU hm ?_;have downed:∀(g:Heap) (e:D) (ρ:Env),bR g id e→g jid=some (.obj [.ptr id 0,y,.b false] 173)→gV g y xs sp→Touch (id::jid::sp) h g→jadd d ps false p=((e,ps,true),9)→
      (mN [.i 9] (upd g jid (some (.obj [.ptr id 0,y,.b true] 173))) fun r h' =>r= .i ((jadd d ps false p).2:Nat)∧∃sp',bR h' id (jadd d ps false p).1.1∧JAt h' 173 jid id (jadd d ps false p).1.2.1 (jadd d ps false p).1.2.2 sp'∧
       Touch (id::jid::sp) h h'∧∀i∈sp',i∈sp∨h i=none):=fun g e ρ a1 a2 a3 a4 hJ=>by
     rw[hJ];have hsj:∀i∈sp,i≠jid:=fun i hi e=>by
      obtain⟨n,hn⟩:=hg.has i hi;rw[e,hjid]at hn;cases hn
     have ht:Touch [jid] g (upd g jid (some (.obj [.ptr id 0,y,.b true] 173))):=.upd;refine .same (.refl _) ⟨rfl,sp,?_,⟨y,xs,ah ..,a3.touch ht (fun i hi=>by simp[hsj i hi]),hrs⟩,(a4.trans ht).mono (fun i hi=> .inl (by simp at hi⊢;rcases hi with h|h|h|h<;>simp[h])),fun i hi=> .inl hi⟩
     obtain⟨z,z1,z2⟩:=a1;exact⟨z,ht _ _ (by simp;exact fun e=>hne e.symm) z1,z2.keep (Keep.upd jid _) a2 acr⟩
    have hc0:=hcode;rcases hcode with rfl|rfl|rfl
    ·
     simp only[go_sem];refine .one hU hm ?_;simp only[go_sem,hj2];refine dthen (HQ d2 ok2 id g2 hd2) fun g3 hd3 kp3=>?_
     have hj3:g3 jid=some (.obj [.ptr id 0,y,.b false] 173):=kp3 _ _ hne hj2;have hg3:gV g3 y xs sp:=hg2.touch (Touch.keep kp3) (fun i hi=>by simp[hgid i hi])
     have hx3:By g3 x p:=by
      obtain⟨z,hz,_⟩:=hd2;exact(hx2.keep kp3 hz acr)
     have hT3:Touch (id::jid::sp) h g3:=(hT2.trans (Touch.keep kp3)).mono (fun i hi=> .inl (by simp at hi⊢;rcases hi with h|h|h|h<;>simp[h]))
     have hcs:=D.JL d2;rw[if_neg acr,if_pos rfl]at hJ;generalize d2.sync=A at hJ hcs hd3⊢;obtain⟨d3,c3⟩:=A;simp only at hJ hcs hd3⊢;rcases hcs with rfl|rfl
     ·simp only[go_sem]
      refine .one hU hm ?_;simp only[go_sem];refine .one hU hm ?_;simp only[go_sem];refine .last (hm1 jid _) [0,1,2,3,4,5,6,7,8,9,10] (.hm1 hj3) acs rfl acs rfl ?_;simp only[go_sem,hj3];refine(qo x p g3 hx3 aco).pthen' ?_;obtain⟨qy,rfl⟩:=hg3.row;refine⟨.hm1 hj3,?_⟩;simp only[go_sem,hj3];refine hg3.app (v:=.sl [kC p] .full) (zs:=[kC p]) (fun k hk=>hk) (hrs h).sized (by simp[Sized,kC,AV.cells]) (by have:=(hrs h).1;simp;omega) fun z g4 sp' hg4 ht4 hsp' =>?_
      have hsj:∀i∈sp,i≠jid:=fun i hi e=>by
       obtain⟨n,hn⟩:=hg.has i hi;rw[e,hjid]at hn;cases hn
      have hj4:g4 jid=some (.obj [.ptr id 0,.sl xs qy,.b false] 173):=ht4 _ _ (fun hi=>hsj _ hi rfl) hj3
      refine⟨.hm1 hj4,?_⟩;obtain⟨qz,rfl⟩:=hg4.row;simp only[go_sem,hj4];refine .vc hU hm ?_;simp only[go_sem];have ht5:Touch [jid] g4 (upd g4 jid (some (.obj [.ptr id 0,.sl (xs++ [kC p]) qz,.b false] 173))):=.upd;have hsj' :∀i∈sp',i≠jid:=fun i hi e=>by
       obtain⟨n,hn⟩:=hg4.has i hi;rw[e,hj4]at hn;cases hn
      rw[if_pos rfl]at hJ;refine .same (.refl _) ?_;rw[hJ];refine⟨rfl,sp',?_,⟨_,_,ah ..,hg4.touch ht5 (fun i hi=>by simp[hsj' i hi]),fun g=>Jw (hrs g) (.sl _ _)⟩,?_,fun i hi=>?_⟩
      ·obtain⟨z,z1,z2⟩:=hd3
       have hid4:g4 id=some (.obj (d3.cells z) 96):=ht4 _ _ (fun hi=>hgid _ hi rfl) z1
       have z4:By g4 z d3.b:=by
        rcases z2 with z2|⟨i,off,cs,rfl,a1,a2,a3⟩
        ·exact .inl z2
        ·exact .oa (ht4 _ _ (fun hi=>by obtain⟨n,hn⟩:=hg3.has i hi;rw[a1]at hn;cases hn) a1) a2 a3
       exact⟨z,ht5 _ _ (by simp;exact fun e=>hne e.symm) hid4,z4.keep (Keep.upd jid _) hj4 acr⟩
      ·exact((hT3.trans ht4).trans ht5).mono (fun i hi=> .inl (by simp at hi⊢;grind))
      ·rcases hsp' i hi with h1|h1
       ·exact .inl h1
       ·cases hh:h i with
        |none=>exact .inr rfl
        |some k=>
         by_cases hin:i∈id::jid::sp
         ·simp only[List.mem_cons]at hin
          rcases hin with e|e|e
          ·subst e;rw[hd3.choose_spec.1]at h1;cases h1
          ·subst e;rw[hj3]at h1;cases h1
          ·exact .inl e
         ·rw[hT3 i k hin hh]at h1;cases h1
     ·simp only[go_sem]
      refine .one hU hm ?_;simp only[go_sem,hj3];exact downed g3 d3 [] hd3 hj3 hg3 hT3 hJ
    ·
     simp only[go_sem];refine .same (.refl _) ?_;rw[hJ];exact⟨rfl,sp,hd2,⟨y,xs,hj2,hg2,hrs⟩,hT2,fun i hi=> .inl hi⟩
    ·simp only[go_sem]
     refine .one hU hm ?_;simp only[go_sem,hj2];refine .one hU hm ?_;simp only[go_sem,hj2];exact downed g2 d2 [] hd2 hj2 hg2 hT2 hJ
theorem D.Rg{d:D}(hd:d.ok)(h1:d.off=false)(h2:d.f=0):d.ck=({d with b:=d.b.take (scan d.b).2,sy:=(scan d.b).2},0):=by
 have hl:=HK d.b;have PB:∀e:D,e.off=false→e.f=0→e.sync=({e with sy:=e.b.length},0):=fun e h1 h2=>by
  unfold D.sync;rw[if_neg (by simp[h1]),D.O2 h2,if_neg (by simp[h1])]
 unfold D.ck
 by_cases h:(scan d.b).2<d.b.length
 ·rw[if_pos h,D.Ws h1 h2 hl]
  grind
 ·have e:(scan d.b).2=d.b.length:=by omega
  grind
theorem Ua{d:D}{ps:List (List UInt8)}{p:List UInt8}(h1:d.off=false)(h2:d.f=0)(hp1:1≤p.length)(hp2:p.length≤8192)(hf:d.b.length+(frame p).length≤d.q):
  jadd d ps false p=(({d with b:=d.b++frame p,sy:=(d.b++frame p).length},ps++ [p],false),0):=by
 have hno:¬(p.length=0∨8192<p.length):=aco;have hs:({d with b:=d.b++frame p}:D).sync=({d with b:=d.b++frame p,sy:=(d.b++frame p).length},0):=D.PB h1 h2
 unfold jadd;rw[if_neg acw,if_neg hno,D.Nf h1 h2 hf,if_neg aco,if_pos rfl,hs,if_pos rfl]
theorem Ll{d:D}{ps:List (List UInt8)}{p:List UInt8}(h1:d.off=false)(hp1:1≤p.length)(hp2:p.length≤8192)(hf:d.q<d.b.length+(frame p).length):
  jadd d ps false p=((d,ps,false),8):=by
 have hno:¬(p.length=0∨8192<p.length):=aco;unfold jadd;rw[if_neg acw,if_neg hno,D.ER h1 hf,if_pos rfl]
theorem zh:scan []=([],0):=by grind [rE,rP]
end Go.Proofs.YtcochaoekecfdaaGreatDoor
namespace Go.Bf
open Go Go.Ab Go.Proofs.YtcochaoekecfdaaGreatDoor
def fnv(h:BitVec 64)(n:Nat):BitVec 64:=(h ^^^ BitVec.ofNat 64 n)*1099511628211#64
def ND(g:BitVec 64→Nat→BitVec 64):Nat→BitVec 64→BitVec 64→BitVec 64
 |0,_,h=>h
 |n+1,p,h=>ND g n (p>>>8) (g h (p &&& 255#64).toNat)
def IJ(n:Nat)(p h:BitVec 64):BitVec 64:=ND fnv n p h
theorem IM(g:BitVec 64→Nat→BitVec 64)(n:Nat)(p h:BitVec 64):ND g (n+1) p h=ND g n (p>>>8) (g h (p &&& 255#64).toNat):=rfl
theorem IL(p h:BitVec 64):IJ 0 p h=h:=rfl
theorem IK(n:Nat)(p h:BitVec 64):IJ (n+1) p h=IJ n (p>>>8) (fnv h (p &&& 255#64).toNat):=IM fnv n p h
def se(prev:BitVec 64)(l:Txt):BitVec 64:=l.foldl (fun h c=>fnv h c.toNat) (IJ 8 prev 14695981039346656037#64)
def qt:Nat→BitVec 64→Txt
 |0,_=>[]
 |n+1,h=>UInt8.ofNat h.toNat::qt n (h>>>8)
def fX(h:BitVec 64)(o:OpD):Txt:=qt 8 h++lJ o
theorem nR:∀(n:Nat) (h:BitVec 64),(qt n h).length=n
 |0,_=>rfl
 |n+1,h=>by simp[qt,nR n]
structure eN where
 s:an
 log:List pX
 ch:BitVec 64
 ps:List Txt
 down:Bool
def nh(e:eN)(p:Txt):Option OpD:=if p.length<8 then none else match pU (p.drop 8)with
 |some o=>if fX e.ch o=p then some o else none
 |none=>none
def nS(e:eN)(g:an×j5×pX×Int)(p:Txt):eN:={e with s:=g.1,log:=e.log++ [g.2.2.1],ch:=se e.ch p}
def rU(e:eN)(p:Txt):Option eN:=match nh e p with
 |some o=>if(aV e.s o).2.2.2=0 then some (nS e (aV e.s o) p)else none
 |none=>none
def pJ:eN→List Txt→Option eN
 |e,[]=>some e
 |e,p::r=>match rU e p with
  |some e' =>pJ e' r
  |none=>none
def iN(ps:List Txt):eN:=⟨sD,[],0,ps,false⟩
def Gf(ps:List Txt):Option eN:=pJ (iN ps) ps
def BR(n:Int):j5:=⟨n,naM,false,ax,false,0⟩
def doE(e:eN)(d:D)(o:OpD):eN×D×j5:=
 if e.down then(e,d,BR 9)else
 let g:=aV e.s o
 if g.2.2.2≠0 then(e,d,g.2.1)else
 let p:=fX e.ch o
 let a:=jadd d e.ps e.down p
 if a.2=0 then({nS e g p with ps:=a.1.2.1,down:=a.1.2.2},a.1.1,g.2.1)else({e with ps:=a.1.2.1,down:=a.1.2.2},a.1.1,BR (a.2:Int))
theorem yc:∀(l:List Txt) (e:eN) (p:Txt),pJ e (l++ [p])=(pJ e l).bind fun e' =>rU e' p
 | [],e,p=>by
  grind [pJ,rU]
 |q::l,e,p=>by
  simp only[List.cons_append,pJ];cases rU e q with
  |none=>rfl
  |some e' =>exact yc l e' p
theorem ji{s:an}{o:OpD}(h:(aV s o).2.2.2=0):eU o=true:=by
 have hp:(jX s o).1=0:=by
  unfold aV at h
  grind
 exact(uc hp).2.1
theorem HU:∀(f v:Nat),(vB f v).length≤f
 |0,_=>by simp[vB]
 |f+1,v=>by
  unfold vB;split
  ·simp
  ·simp only[List.length_cons]
   have:=HU f (v / 128);omega
theorem jP(n:Int):(oV n).length≤10:=HU 10 _
theorem N7(n:Int):1≤(oV n).length:=List.length_pos_iff.2 (OH 10 _ acr)
theorem fN(s:Txt):(fy s).length≤10+s.length:=by
 grind [fy,ach,jP]
theorem HT{v:bD}(h:v=ax∨bL v=true):(zy v).length≤84:=by
 have hs:v.kind=3∨v.kind=5→v.s.length≤64:=fun e=>by
  rcases h with rfl|h
  ·decide
  simp_all [Bn]
 unfold zy;rw[ach];have h1:=jP v.kind;split
 ·rename_i e
  have:=fN v.s;omega
 ·have:=jP v.n
  omega
theorem rA{o:OpD}(hf:OpF o):1≤(lJ o).length∧(lJ o).length≤5000:=by
 unfold lJ;simp only[ach];have h1:=jP o.kind;have h0:=N7 o.kind;have h2:=fN o.subj;have h3:=fN o.case;have h4:=fN o.field;have h5:=fN o.to;have h6:=HT hf.val;have h7:=jP o.review;have h8:=fN o.text;have h9:=fN o.reason;have h10:=HT (v:=eS o.glass) (.inr (My _));have:=hf.subj;have:=hf.case;have:=hf.field;have:=hf.to;have:=hf.text;have:=hf.reason;omega
theorem ug{h:BitVec 64}{o:OpD}(hf:OpF o):9≤(fX h o).length∧(fX h o).length≤5008:=by
 grind [rA,fX,ach,nR]
def yx(a b:bD):Int:=if bL a=false∨bL b=false then 1 else 2
def kZ(a b:bD):AV:=match mX a b with
 |some x=> .tup [.b x,.i 0]
 |none=> .tup [.b false,.i (yx a b)]
theorem AP{a b:bD}(h:bL a=false∨bL b=false):kZ a b= .tup [.b false,.i 1]:=by
 unfold kZ mX;rw[if_pos acp]
 simp_all [yx,if_pos]
theorem yw{a b:bD}(h1:bL a=true)(h2:bL b=true)(h:a.kind≠b.kind∨a.kind=1):kZ a b= .tup [.b false,.i 2]:=by
 simp_all [kZ,mX,if_pos,yx]
theorem NX{a b:bD}(h1:bL a=true)(h2:bL b=true)(h:a.kind=b.kind)(h0:a.kind≠1)(ht:a.kind=3∨a.kind=5):kZ a b= .tup [.b (Op.bytesLess a.s b.s),.i 0]:=by
 simp_all [kZ,mX,if_neg,if_pos]
theorem NW{a b:bD}(h1:bL a=true)(h2:bL b=true)(h:a.kind=b.kind)(h0:a.kind≠1)(ht:¬(a.kind=3∨a.kind=5)):kZ a b= .tup [.b (decide (a.n<b.n)),.i 0]:=by
 simp_all [kZ,mX,if_neg]
end Go.Bf
namespace Go.Proofs.YtcochaoekecfdaaGreatDoor
open Go Go.Ab Go.Bf
theorem zv(k:Int)(h:Heap):ai Tryz.prog 108 [.i k] h fun r h' =>r= .b (k==3||k==5)∧h' =h:=by
 refine acn Tryz.func108 9 [.tmp 2] fun hwf=>?_
 cases d1:(k==3)<;>cases d2:(k==5)
 all_goals
  simp only[go_sem,d1,d2];exact acD
theorem B3(a b:bD)(h:Heap):ai Tryz.prog 284 [aU a,aU b] h fun r h' =>r=kZ a b∧h' =h:=by
 have ha:=fun(G:Heap)=>gq a G
 have hb:=fun(G:Heap)=>gq b G
 simp only[aU]at ha hb;refine acn Tryz.func284 40 [.tmp 4,.tmp 5] fun hwf=>?_
 simp only[go_sem,aU];intro i1 h1;simp only[go_sem];intro i2 h2;have n21:=aH h2;have n2:=aC h2;have hs:∀x y,Ab.Sub h (upd (upd h i1 x) i2 y):=fun x y=>((Sub.refl h).put h1 x).put n2 y
 simp only[go_sem,aj,n21.symm];refine(ha _).pthen ?_;cases da:bL a
 ·simp only[go_sem]
  exact .mk _ (.refl _) (hs _ _) ⟨by rw[AP (.inl da)];rfl,rfl⟩
 simp only[go_sem];refine(hb _).pthen ?_;cases db:bL b
 ·simp only[go_sem]
  exact .mk _ (.refl _) (hs _ _) ⟨by rw[AP (.inr db)];rfl,rfl⟩
 cases dk:(a.kind !=b.kind)
 case true=>
  simp only[go_sem,aj,n21.symm,dk];exact .mk _ (.refl _) (hs _ _) ⟨by rw[yw da db (.inl acp)];rfl,rfl⟩
 have ek:a.kind=b.kind:=acp;cases d1:(a.kind==1)
 case true=>
  simp only[go_sem,aj,n21.symm,dk,d1];exact .mk _ (.refl _) (hs _ _) ⟨by rw[yw da db (.inr acp)];rfl,rfl⟩
 have e1:a.kind≠1:=acp;simp only[go_sem,aj,n21.symm,dk,d1];refine(zv _ _).pthen ?_;cases dt:(a.kind==3||a.kind==5)
 ·simp only[go_sem,aj,n21.symm]
  exact .mk _ (.refl _) (hs _ _) ⟨by rw[NW da db ek e1 acp];rfl,rfl⟩
 ·simp only[go_sem,aj,n21.symm]
  exact .mk _ (.refl _) (hs _ _) ⟨by rw[NX da db ek e1 acp];rfl,rfl⟩
def IP(bag:List bD)(must:Bool):AV:=if bag= []∧must=true then .tup [.sl [] .no,.i 4]else .tup [.sl (bag.map aU) .no,.i 0]
theorem GW(gs:List bp)(cat:Int)(name:Txt)(must:Bool)(hl:gs.length≤1000000000)(hb:∀g∈gs,g.bag.length≤1000000)(h:Heap):ai Tryz.prog 250 [bJ gs,.agg [.i cat,.s name,.b must]] h fun r h' =>r=IP (getD gs cat name) must∧h' =h:=by
 have hpl:=fun G=>L0 gs cat name hl G
 simp only[bJ]at hpl;have frz:∀(x:AV) (e:Int),Weak x (.sl [] .no)→Weak (.tup [x,.i e]) (.tup [.sl [] .no,.i e]):=fun x e hx=> .tup _ _ rfl fun i a b=>by
  rcases i with _|_|i
  ·grind
  ·exact adK
  grind
 refine acn Tryz.func250 30 [.tmp 4,.tmp 5] fun hwf=>?_
 simp only[go_sem,bJ];intro i1 h1;simp only[go_sem];refine(hpl _).pthen ?_
 by_cases hx:gs.findIdx (iI cat name)<gs.length
 ·have e1:ixD (iI cat name) gs=(gs.findIdx (iI cat name):Nat):=by simp_all [ixD,if_pos]
  have d1:decide ((0:Int)≤((gs.findIdx (iI cat name):Nat):Int))=true:=decide_eq_true aco;rw[e1];simp only[go_sem,d1];refine .at (gs.findIdx (iI cat name)) acp acz ?_;simp only[go_sem,ace,kX];rw[if_neg (fun hh=>hh.1)]
  have hlb:=hb _ (aci hx);rw[get_at hx];obtain⟨B,eB⟩:∃B,gs[gs.findIdx (iI cat name)].bag=B:=⟨_,rfl⟩;rw[eB]at hlb⊢;refine(CP _ (B.map aU) _ (eJ aU 3 (fun _=>rfl) _ _) acp (bu (fun _=>rfl) _)).pthen ?_
  cases d2:((B.length:Int)==0)
  ·have e2:B≠ []:=by grind
   simp only[go_sem,d2,acd];exact .mk _ (.refl _) (.ak h1) ⟨by rw[IP,if_neg (fun hh=>e2 hh.1)];rfl,rfl⟩
  ·have e3:(B.length:Int)=0:=by grind
   have e2:B= []:=List.length_eq_zero_iff.1 aco;subst e2;cases must
   ·simp only[go_sem,List.map_nil,List.length_nil]
    exact acH
   ·simp only[go_sem,List.map_nil,List.length_nil]
    exact aec
 ·have e1:ixD (iI cat name) gs= -1:=by simp_all [ixD,if_neg]
  have d1:decide ((0:Int)≤ -1)=false:=rfl;rw[e1,QM hx];cases must
  ·simp only[go_sem,d1]
   exact .mk (.tup [.sl [] .no,.i 0]) (frz _ _ (.sl _ _)) (.ak h1) ⟨rfl,rfl⟩
  ·simp only[go_sem,d1]
   exact aec
def mq(m:bM)(v:bD):AV:=
 if m.op=1 then(if v.kind=m.val.kind then .tup [.b (eqV v m.val),.i 0]else .tup [.b false,.i 2])
 else if m.op=2 then kZ v m.val else kZ m.val v
theorem EN(m:bM)(v:bD)(h:Heap):ai Tryz.prog 251 [cP m,aU v] h fun r h' =>r=mq m v∧h' =h:=by
 have hl1:=fun G=>B3 v m.val G
 have hl2:=fun G=>B3 m.val v G
 simp only[aU]at hl1 hl2;refine acn Tryz.func251 42 [.tmp 4,.tmp 5] fun hwf=>?_
 simp only[go_sem,cP,aU];intro i1 h1;simp only[go_sem];intro i2 h2;have n21:=aH h2;have n2:=aC h2;have hs:∀x y,Ab.Sub h (upd (upd h i1 x) i2 y):=fun x y=>((Sub.refl h).put h1 x).put n2 y
 cases d1:(m.op==1)
 case true=>
  have e1:m.op=1:=acp;cases dk:(v.kind !=m.val.kind)
  ·have dk' :v.kind=m.val.kind:=by grind
   simp only[go_sem,aj,n21.symm,d1,dk];exact .mk _ (.refl _) (hs _ _) ⟨by rw[mq,if_pos e1,if_pos dk'];rfl,rfl⟩
  ·simp only[go_sem,aj,n21.symm,d1,dk]
   exact .mk _ (.refl _) (hs _ _) ⟨by rw[mq,if_pos e1,if_neg acp];rfl,rfl⟩
 have e1:m.op≠1:=acp;have aft:∀a b:bD,∃x e,kZ a b= .tup [.b x,.i e]:=fun a b=>by
  unfold kZ;split
  ·simp
  simp
 cases d2:(m.op==2)
 case true=>
  have e2:m.op=2:=acp;obtain⟨x,e,ee⟩:=aft v m.val;rw[ee]at hl1;simp only[go_sem,aj,n21.symm,d1,d2];refine(hl1 _).pthen ?_;simp only[go_sem];exact .mk _ (.refl _) (hs _ _) ⟨by rw[mq,if_neg e1,if_pos e2,ee];rfl,rfl⟩
 ·have e2:m.op≠2:=by grind
  obtain⟨x,e,ee⟩:=aft m.val v;rw[ee]at hl2;simp only[go_sem,aj,n21.symm,d1,d2];refine(hl2 _).pthen ?_;simp only[go_sem];exact .mk _ (.refl _) (hs _ _) ⟨by rw[mq,if_neg e1,if_neg e2,ee];rfl,rfl⟩
theorem Bz(m:bM)(v:bD):∃e:Int,(e !=0)=(cU m v==none)∧mq m v= .tup [.b (cU m v==some true),.i e]:=by
 have hl:∀a b:bD,∃e:Int,(e !=0)=(mX a b==none)∧kZ a b= .tup [.b (mX a b==some true),.i e]:=fun a b=>by
  unfold kZ;cases hx:mX a b with
  |some x=>simp
  |none=>refine⟨yx a b,?_,rfl⟩;grind [yx]
 unfold mq cU
 by_cases e1:m.op=1
 ·rw[if_pos e1,if_pos e1]
  by_cases ek:v.kind=m.val.kind
  ·rw[if_pos ek,if_pos ek]
   exact⟨0,rfl,acw⟩
  ·rw[if_neg ek,if_neg ek]
   exact⟨2,rfl,rfl⟩
 ·rw[if_neg e1,if_neg e1]
  by_cases e2:m.op=2
  ·rw[if_pos e2,if_pos e2];exact hl _ _
  ·rw[if_neg e2,if_neg e2];exact hl _ _
theorem IQ(bag:List bD)(must:Bool):∃e:Int,(e !=0)=decide (bag= []∧must=true)∧IP bag must= .tup [.sl (bag.map aU) .no,.i e]:=by
 unfold IP;split
 ·simp_all
 grind
def rI(gs:List bp):Prop:=gs.length≤1000000∧∀g∈gs,g.bag.length≤1000000
theorem rI.bag{gs:List bp}(h:rI gs)(a:pW):(xF gs a).length≤1000000:=by
 unfold xF getD;split
 ·rename_i g hg;exact h.2 g acp
 ·simp
theorem AT(m:bM)(gs:List bp)(hf:rI gs)(h:Heap):ai Tryz.prog 214 [cP m,bJ gs] h fun r h' =>r= .i (jN gs m:Nat)∧h' =h:=by
 have hg:=fun G=>GW gs m.attr.cat m.attr.name m.attr.must (by have:=hf.1;omega) hf.2 G
 have hbl:=hf.bag m.attr;obtain⟨B,eB⟩:∃B,xF gs m.attr=B:=⟨_,rfl⟩;have eg:Go.Bf.getD gs m.attr.cat m.attr.name=B:=eB;rw[eB]at hbl;rw[eg]at hg;have hmm:jN gs m=if B= []∧m.attr.must=true then 1 else if B.any (fun v=>cU m v==some true)then 2 else if B.any (fun v=>cU m v==none)then 1 else 0:=by
  unfold jN;rw[eB]
 obtain⟨eg,hge,hga⟩:=IQ B m.attr.must;rw[hga]at hg;have hag:=fun(v:bD) (G:Heap)=>EN m v G
 simp only[cP,bJ,aU]at hag hg;refine acn Tryz.func214 38 [.tmp 4] fun hwf=>?_
 simp only[go_sem,cP,bJ];intro i1 h1;simp only[go_sem];refine(hg _).pthen ?_;cases d0:decide (B= []∧m.attr.must=true)
 case true=>
  rw[d0]at hge;simp only[go_sem,hge];exact .mk _ (.refl _) (.ak h1) ⟨by rw[hmm,if_pos (acf d0)];rfl,rfl⟩
 rw[d0]at hge;rw[if_neg (acg d0)]at hmm;simp only[go_sem,hge,acd];obtain⟨H,eH⟩:∃H,upd h i1 (some (.obj [.i m.attr.cat,.s m.attr.name,.b m.attr.must,.i m.op,.i m.val.kind,.i m.val.n,.s m.val.s] 273))=H:=⟨_,rfl⟩;have hH:Ab.Sub h H:=by rw[←eH];exact .ak h1
 have k1:H i1=some (.obj [.i m.attr.cat,.s m.attr.name,.b m.attr.must,.i m.op,.i m.val.kind,.i m.val.n,.s m.val.s] 273):=adR;rw[eH];clear eH;refine .intro (fun q ρ G=>Ab.Sub H G∧∃i:Nat,i≤B.length∧q=B.length - i∧(∀j (hj:j<i) (h2:j<B.length),(cU m B[j]==some true)=false)∧lk ρ 2=some (.ptr i1 0)∧lk ρ 7=some (.i (if(B.take i).any (fun v=>cU m v==none)then 1 else 0))∧lk ρ 21=some (.sl (B.map aU) .no)∧lk ρ 22=some (.i B.length)∧lk ρ 23=some (.i i)) B.length ?_ ?_
 ·refine⟨.refl _,0,aco,rfl,fun j hj=>aco,?_,?_,?_,?_,?_⟩<;>simp only[go_sem]
  simp
 ·rintro q ρ G ⟨hs,i,hi,rfl,hc,r2,r7,r21,r22,r23⟩
  have k1' :=hs _ _ k1;simp only[go_sem,r22,r23];refine .intro (fun e=>?_) (fun e=>?_)
  ·have hlt:i<B.length:=ack e
   have w1:=acj i aco;have hsn:(B.take (i+1)).any (fun v=>cU m v==none)=((B.take i).any (fun v=>cU m v==none)||(cU m B[i]==none)):=any_succ hlt
   have ix:=fun k=>fc.eq (xs:=B.map aU) (sz:=3) i acN acz k
   rw[ace]at ix;have hci:=fun(d:(cU m B[i]==some true)=false)=>(fun j (hj:j<i+1) (h2:j<B.length)=>(by
    by_cases hji:j=i
    ·subst hji;exact d
    ·exact hc j aco h2:(cU m B[j]==some true)=false))
   have hat:=fun(d:(cU m B[i]==some true)=true)=>(List.any_eq_true.2 ⟨B[i],aci hlt,d⟩:B.any (fun v=>cU m v==some true)=true)
   obtain⟨v,ev⟩:∃v,B[i]=v:=⟨_,rfl⟩;rw[ev]at ix hsn hci hat;simp only[aU]at ix;obtain⟨e,he1,he2⟩:=Bz m v;have hag1:=hag v;rw[he2]at hag1;simp only[go_sem,r21,r23,ix];intro i4 h4;have n41:i4≠i1:=fun e=>by rw[e,k1']at h4;cases h4
   simp only[go_sem,r2,aj,n41.symm,k1'];refine(hag1 _).pthen ?_;cases d1:(cU m v==some true)
   ·cases d2:(cU m v==none)
    ·rw[d2]at he1 hsn
     rw[Bool.or_false]at hsn;simp only[go_sem,r23,he1,w1];refine⟨_,?_,hs.trans (.ak h4),i+1,aco,rfl,hci d1,?_,?_,?_,?_,?_⟩
     ·omega
     all_goals simp only[go_sem,r2,r7,r21,r22,hsn]
    ·rw[d2]at he1 hsn
     rw[Bool.or_true]at hsn;simp only[go_sem,r23,he1,w1];refine⟨_,?_,hs.trans (.ak h4),i+1,aco,rfl,hci d1,?_,?_,?_,?_,?_⟩
     ·omega
     all_goals simp only[go_sem,r2,r21,r22,hsn]
   ·simp only[go_sem]
    refine .mk _ (.refl _) (hH.trans (hs.trans (.ak h4))) ⟨by rw[hmm,if_pos (hat d1)];rfl,rfl⟩
  ·have hge:i=B.length:=by have:=acg e;omega
   subst hge;rw[List.take_length]at r7;simp only[go_sem,r7];refine .mk _ (.refl _) (hH.trans hs) ⟨?_,rfl⟩;have hno:B.any (fun v=>cU m v==some true)=false:=List.any_eq_false.2 fun x hx=>by
    obtain⟨j,hj,rfl⟩:=List.mem_iff_getElem.1 hx;rw[hc j hj hj];decide
   rw[hmm,hno];cases B.any (fun v=>cU m v==none)<;>rfl
theorem Hq(a b:Nat):(if((b:Int)<(a:Int))then(b:Int)else(a:Int))=((min a b:Nat):Int):=by
 grind
theorem N0(a b:Nat):(if((a:Int)<(b:Int))then(b:Int)else(a:Int))=((max a b:Nat):Int):=by
 grind
theorem Nc(l:List bM)(hl:l.length≤1000000)(gs:List bp)(hf:rI gs)(h:Heap):ai Tryz.prog 244 [fP l,bJ gs] h fun r h' =>r= .i (CA gs l:Nat)∧h' =h:=by
 have hmt:=fun(m:bM) (G:Heap)=>AT m gs hf G
 simp only[cP,bJ]at hmt;refine acn Tryz.func244 21 [.tmp 4] fun hwf=>?_
 simp only[go_sem,fP,bJ,acd];refine .intro (fun q ρ G=>Ab.Sub h G∧∃i:Nat,i≤l.length∧q=l.length - i∧lk ρ 1=some (.sl (gs.map kX) .no)∧lk ρ 5=some (.i (CA gs (l.take i):Nat))∧lk ρ 8=some (.sl (l.map cP) .no)∧lk ρ 9=some (.i l.length)∧lk ρ 10=some (.i i)) l.length ?_ ?_
 ·exact ah4
 ·rintro q ρ G ⟨hs,i,hi,rfl,r1,r5,r8,r9,r10⟩
  simp only[go_sem,r9,r10];refine .intro (fun e=>?_) (fun e=>?_)
  ·have hlt:i<l.length:=ack e
   have w1:IntKind.i64.wrap ((i:Int)+1)=((i+1:Nat):Int):=acE;have hsn:CA gs (l.take (i+1))=min (CA gs (l.take i)) (jN gs l[i]):=by
    grind [CA,List.take_succ_eq_append_getElem]
   have ix:=fun k=>fc.eq (xs:=l.map cP) (sz:=7) i acp acz k
   rw[ace]at ix;obtain⟨m,em⟩:∃m,l[i]=m:=⟨_,rfl⟩;rw[em]at ix hsn;have hmt1:=hmt m;simp only[cP]at ix;simp only[go_sem,r8,r10,ix];intro i4 h4;simp only[go_sem,r1,r5];refine(hmt1 _).pthen ?_;simp only[go_sem,r10,Hq,w1];refine⟨_,?_,hs.trans (.ak h4),i+1,aco,rfl,?_,?_,?_,?_,?_⟩
   ·omega
   all_goals simp only[go_sem,r1,r8,r9,hsn]
  ·have hge:i=l.length:=by grind
   exact ahM
def MY(t:fO):Prop:=t.length≤1000000∧∀x∈t,x.length≤1000000∧∀l∈x,l.length≤1000000
theorem LF(t:fO)(ht:MY t)(gs:List bp)(hf:rI gs)(h:Heap):ai Tryz.prog 210 [aS t,bJ gs] h fun r h' =>r= .i (mG gs t:Nat)∧h' =h:=by
 have hat:=fun(l:List bM) (hl:l.length≤1000000) (G:Heap)=>Nc l hl gs hf G
 simp only[fP,bJ]at hat;have htl:=ht.1;refine acn Tryz.func210 34 [.tmp 4] fun hwf=>?_
 simp only[go_sem,aS,bJ,acd];refine .intro (fun q ρ G=>Ab.Sub h G∧∃i:Nat,i≤t.length∧q=t.length - i∧lk ρ 1=some (.sl (gs.map kX) .no)∧lk ρ 5=some (.i (mG gs (t.take i):Nat))∧lk ρ 11=some (.sl (t.map bP) .no)∧lk ρ 12=some (.i t.length)∧lk ρ 13=some (.i i)) t.length ?_ ?_
 ·exact ah4
 ·rintro q ρ G ⟨hs,i,hi,rfl,r1,r5,r11,r12,r13⟩
  simp only[go_sem,r12,r13];refine .intro (fun e=>?_) (fun e=>?_)
  ·have hlt:i<t.length:=ack e
   have w1:IntKind.i64.wrap ((i:Int)+1)=((i+1:Nat):Int):=acE;have hsn:mG gs (t.take (i+1))=min (mG gs (t.take i)) (zH gs t[i]):=by
    grind [mG,List.take_succ_eq_append_getElem]
   have ix:=fun k=>fc.eq (xs:=t.map bP) (sz:=1) i acp acz k
   rw[ace]at ix;obtain⟨hx1,hx2⟩:=ht.2 t[i] (aci hlt);obtain⟨x,ex⟩:∃x,t[i]=x:=⟨_,rfl⟩;rw[ex]at ix hsn hx1 hx2;simp only[bP]at ix;simp only[go_sem,r11,r13,ix,acd];refine .intro (fun q ρ' K=>Ab.Sub h K∧∃n:Nat,n≤x.length∧q=x.length - n∧lk ρ' 1=some (.sl (gs.map kX) .no)∧lk ρ' 5=some (.i (mG gs (t.take i):Nat))∧lk ρ' 8=some (.i (zH gs (x.take n):Nat))∧lk ρ' 11=some (.sl (t.map bP) .no)∧lk ρ' 12=some (.i t.length)∧lk ρ' 13=some (.i i)∧lk ρ' 17=some (.sl (x.map fP) .no)∧lk ρ' 18=some (.i x.length)∧lk ρ' 19=some (.i n)) x.length ?_ ?_
   ·refine⟨hs,0,aco,rfl,?_,?_,?_,?_,?_,?_,?_,?_,?_⟩<;>simp only[go_sem,r1,r5,r11,r12,r13]
    rfl
   ·rintro q ρ' K ⟨hs',n,hn,rfl,s1,s5,s8,s11,s12,s13,s17,s18,s19⟩
    simp only[go_sem,s18,s19];refine .intro (fun e=>?_) (fun e=>?_)
    ·have hlt2:n<x.length:=ack e
     have w2:IntKind.i64.wrap ((n:Int)+1)=((n+1:Nat):Int):=acE;have hsn2:zH gs (x.take (n+1))=max (zH gs (x.take n)) (CA gs x[n]):=by
      grind [zH,List.take_succ_eq_append_getElem]
     have ix2:=fun k=>fc.eq (xs:=x.map fP) (sz:=1) n acp acz k
     rw[ace]at ix2;have hx3:=hx2 x[n] (aci hlt2);obtain⟨l,el⟩:∃l,x[n]=l:=⟨_,rfl⟩;rw[el]at ix2 hsn2 hx3;simp only[fP]at ix2;simp only[go_sem,s1,s8,s17,s19,ix2];refine(hat l hx3 _).pthen ?_;simp only[go_sem,s19,N0,w2];refine⟨_,?_,hs',n+1,aco,rfl,?_,?_,?_,?_,?_,?_,?_,?_,?_⟩
     ·omega
     all_goals simp only[go_sem,s1,s5,s11,s12,s13,s17,s18,hsn2]
    ·have hge:n=x.length:=by grind
     subst hge;rw[List.take_length]at s8;simp only[go_sem,s5,s8,s13,Hq,w1];refine⟨_,?_,hs',i+1,aco,rfl,?_,?_,?_,?_,?_⟩
     ·omega
     all_goals simp only[go_sem,s1,s11,s12,hsn]
  ·have hge:i=t.length:=by grind
   exact ahM
end Go.Proofs.YtcochaoekecfdaaGreatDoor
namespace Go.Bf
open Go Go.Ab Go.Proofs.YtcochaoekecfdaaGreatDoor
def zR(o:Bool)(n:Int):AV:=if o then .tup [.i 0,.i 3]else .tup [.i (w64 n),.i 0]
def rf(r:bD×Int):AV:=.tup [aU r.1,.i r.2]
end Go.Bf
namespace Go.Proofs.YtcochaoekecfdaaGreatDoor
open Go Go.Ab Go.Bf
theorem Qc(a b:Int)(h:Heap):ai Tryz.prog 325 [.i a,.i b] h fun r h' =>r=zR (Kb a b) (a+b)∧h' =h:=by
 refine acn Tryz.func325 27 [.tmp 4,.tmp 5] fun hwf=>?_
 cases d1:decide (0<b)<;>cases d2:decide (IntKind.i64.wrap (9223372036854775807 - b)<a)<;>cases d3:decide (b<0)<;>cases d4:decide (a<IntKind.i64.wrap (-9223372036854775808 - b))
 all_goals
  simp -implicitDefEqProofs only[go_sem,d1,d2,d3,d4];exact .same (.refl _) ⟨by simp only[zR,Kb,w64,d1,d2,d3,d4];rfl,rfl⟩
theorem Rz(a b:Int)(h:Heap):ai Tryz.prog 326 [.i a,.i b] h fun r h' =>r=zR (Mr a b) (a - b)∧h' =h:=by
 refine acn Tryz.func326 27 [.tmp 4,.tmp 5] fun hwf=>?_
 cases d1:decide (0<b)<;>cases d2:decide (a<IntKind.i64.wrap (-9223372036854775808+b))<;>cases d3:decide (b<0)<;>cases d4:decide (IntKind.i64.wrap (9223372036854775807+b)<a)
 all_goals
  simp -implicitDefEqProofs only[go_sem,d1,d2,d3,d4];exact .same (.refl _) ⟨by simp only[zR,Mr,w64,d1,d2,d3,d4];rfl,rfl⟩
theorem Q8(a b:Int)(h:Heap):ai Tryz.prog 327 [.i a,.i b] h fun r h' =>r=zR (Jf a b) (a*b)∧h' =h:=by
 refine acn Tryz.func327 36 [.tmp 4,.tmp 5] fun hwf=>?_
 cases d0:(a !=0)
 ·have e0:a=0:=by grind
  subst e0;cases d1:(b== -1)
  all_goals
   simp -implicitDefEqProofs only[go_sem,d1];exact .same (.refl _) ⟨by simp[zR,Jf,w64,au],rfl⟩
 have e0:a≠0:=acp;cases d1:(a== -1)<;>cases d2:(b== -9223372036854775808)<;>cases d3:(b== -1)<;>cases d4:(a== -9223372036854775808)<;>cases d5:(IntKind.i64.wrap ((IntKind.i64.wrap (a*b)).tdiv a) !=b)
 all_goals
  simp -implicitDefEqProofs only[go_sem,d0,d1,d2,d3,d4,d5,e0];exact .same (.refl _) ⟨by simp only[zR,Jf,w64,d0,d1,d2,d3,d4,d5];rfl,rfl⟩
theorem Bl(b:Bool)(h:Heap):ai Tryz.prog 323 [.b b] h fun r h' =>r=aU (eS b)∧h' =h:=by
 refine acn Tryz.func323 8 [.cell 2 30] fun hwf=>?_
 simp -implicitDefEqProofs only[go_sem];intro i1 h1;simp -implicitDefEqProofs only[go_sem];intro i2 h2;have n21:=aH h2;have n2:=aC h2;cases b
 all_goals
  simp -implicitDefEqProofs only[go_sem,aj,n21.symm];exact .mk _ (.refl _) ((((Sub.refl h).put h1 _).put n2 _).put h1 _) ⟨rfl,rfl⟩
theorem BI(kind:Int)(l:List bD)(hl:l.length≤1000000)(p:Perm)(h:Heap):ai Tryz.prog 328 [.i kind,.sl (l.map aU) p] h fun r h' =>r= .b (l.all fun v=>v.kind==kind)∧h' =h:=by
 refine acn Tryz.func328 18 [.tmp 4] fun hwf=>?_
 simp -implicitDefEqProofs only[go_sem,acd];refine .intro (fun q ρ G=>Ab.Sub h G∧∃i:Nat,i≤l.length∧q=l.length - i∧(∀j (hj:j<i) (h2:j<l.length),(l[j].kind==kind)=true)∧lk ρ 0=some (.i kind)∧lk ρ 7=some (.sl (l.map aU) p)∧lk ρ 8=some (.i l.length)∧lk ρ 9=some (.i i)) l.length ?_ ?_
 ·refine⟨.refl _,0,aco,rfl,fun j hj=>aco,?_,?_,?_,?_⟩<;>simp -implicitDefEqProofs only[go_sem]
 ·rintro q ρ G ⟨hs,i,hi,rfl,hc,r0,r7,r8,r9⟩
  simp -implicitDefEqProofs only[go_sem,r8,r9];refine .intro (fun e=>?_) (fun e=>?_)
  ·have hlt:i<l.length:=ack e
   have w1:IntKind.i64.wrap ((i:Int)+1)=((i+1:Nat):Int):=acE;have ix:=fun k=>fc.eq (xs:=l.map aU) (sz:=3) i acp acz k
   rw[ace]at ix;have hci:=fun(d:(l[i].kind==kind)=true)=>(fun j (hj:j<i+1) (h2:j<l.length)=>(by
    grind:(l[j].kind==kind)=true))
   have hat:=fun(d:(l[i].kind==kind)=false)=>(List.all_eq_false.2 ⟨l[i],aci hlt,acp⟩:(l.all fun v=>v.kind==kind)=false)
   obtain⟨v,ev⟩:∃v,l[i]=v:=⟨_,rfl⟩;rw[ev]at ix hci hat;simp only[aU]at ix;cases d1:(v.kind==kind)
   ·have d2:(v.kind !=kind)=true:=by grind
    simp -implicitDefEqProofs only[go_sem,r7,r9,ix];intro i4 h4;simp -implicitDefEqProofs only[go_sem,r0,d2];exact .mk _ (.refl _) (hs.trans (.ak h4)) ⟨agp,rfl⟩
   ·have d2:(v.kind !=kind)=false:=by grind
    simp -implicitDefEqProofs only[go_sem,r7,r9,ix];intro i4 h4;simp -implicitDefEqProofs only[go_sem,r0,r9,d2,w1];refine⟨_,?_,hs.trans (.ak h4),i+1,aco,rfl,hci d1,?_,?_,?_,?_⟩
    ·omega
    all_goals simp -implicitDefEqProofs only[go_sem,r0,r7,r8]
  ·have hge:i=l.length:=by grind
   simp -implicitDefEqProofs only[go_sem];exact .mk _ (.refl _) hs ⟨by rw[List.all_eq_true.2 fun x hx=>ae6];rfl,rfl⟩
theorem FT(g:FuncId)(a b:bD)(o:Bool)(n:Int)(hg:∀G,ai Tryz.prog g [.i a.n,.i b.n] G fun r h' =>r=zR o n∧h' =G)(p:Perm)(h:Heap):
  ai Tryz.prog 324 [.fn g [],.sl [aU a,aU b] p] h fun r h' =>r=rf (if([a,b].all fun v=>v.kind==2)then zS o n else nF 2)∧h' =h:=by
 have ix0:=fun k=>fc.eq (xs:=[aU a,aU b]) (sz:=3) 0 acw rfl k
 have ix1:=fun k=>fc.eq (xs:=[aU a,aU b]) (sz:=3) 1 acw rfl k
 simp only[List.getElem_cons_zero,List.getElem_cons_succ,aU,Int.natCast_zero,Int.natCast_one]at ix0 ix1;have hal:=fun(G:Heap)=>BI 2 [a,b] acw p G
 simp only[List.map_cons,List.map_nil,aU]at hal;refine acn Tryz.func324 31 [.cell 4 30,.tmp 5] fun hwf=>?_
 simp -implicitDefEqProofs only[go_sem,aU];intro i1 h1;simp -implicitDefEqProofs only[go_sem];refine(hal _).pthen ?_;cases d1:([a,b].all fun v=>v.kind==2)
 ·simp -implicitDefEqProofs only[go_sem]
  exact acH
 ·simp -implicitDefEqProofs only[go_sem]
  refine .quiet acs ?_;simp -implicitDefEqProofs only[go_sem,ix0,ix1];cases o
  ·refine⟨_,hg _,?_⟩
   simp -implicitDefEqProofs only[go_sem,zR];exact acH
  ·refine⟨_,hg _,?_⟩
   simp -implicitDefEqProofs only[go_sem,zR];exact acH
theorem xg{α:Type}{l:List α}(h:l.length=2):∃a b,l= [a,b]:=by
 match l,h with
 | [a,b],_=>exact⟨a,b,rfl⟩
def FM(op:Int)(l:List bD):Bool:= !(decide (op<6)||decide (13<op)||(l.length:Int) !=(if op==11 then 1 else 2)) && l.all bL
theorem Q5(op:Int)(l:List bD)(hl:l.length≤1000000)(p:Perm)(h:Heap):ai Tryz.prog 322 [.i op,.sl (l.map aU) p] h fun r h' =>r= .b (FM op l)∧h' =h:=by
 have hvr:=fun(v:bD) (G:Heap)=>gq v G
 simp only[aU]at hvr;refine acn Tryz.func322 32 [.tmp 4] fun hwf=>?_
 cases d11:(op==11)
 all_goals
  have hmm:FM op l=(!(decide (op<6)||decide (13<op)||(l.length:Int) !=(if op==11 then 1 else 2)) && l.all bL):=rfl
  rw[d11]at hmm;simp only[if_true,Bool.false_eq_true,if_false]at hmm;cases d6:decide (op<6)
  case true=>
   rw[d6]at hmm;simp -implicitDefEqProofs only[go_sem,d11,d6];exact .same (.refl _) ⟨by rw[hmm];rfl,rfl⟩
  cases d13:decide (13<op)
  case true=>
   rw[d6,d13]at hmm;simp -implicitDefEqProofs only[go_sem,d11,d6,d13];exact .same (.refl _) ⟨by rw[hmm];rfl,rfl⟩
  rw[d6,d13]at hmm;simp only[Bool.or_false,Bool.false_or]at hmm;obtain⟨b,eb⟩:∃b,((l.length:Int) !=(if op==11 then 1 else 2))=b:=⟨_,rfl⟩
  rw[d11]at eb;simp only[if_true,Bool.false_eq_true,if_false]at eb;rw[eb]at hmm;cases b
  case true=>
   simp -implicitDefEqProofs only[go_sem,d11,d6,d13,acd,eb];exact .same (.refl _) ⟨by rw[hmm];rfl,rfl⟩
  simp only[Bool.not_false,Bool.true_and]at hmm;simp -implicitDefEqProofs only[go_sem,d11,d6,d13,acd,eb];refine .intro (fun q ρ G=>Ab.Sub h G∧∃i:Nat,i≤l.length∧q=l.length - i∧(∀j (hj:j<i) (h2:j<l.length),bL l[j]=true)∧lk ρ 22=some (.sl (l.map aU) p)∧lk ρ 23=some (.i l.length)∧lk ρ 24=some (.i i)) l.length ?_ ?_
  ·refine⟨.refl _,0,aco,rfl,fun j hj=>aco,?_,?_,?_⟩<;>simp -implicitDefEqProofs only[go_sem]
  ·rintro q ρ G ⟨hs,i,hi,rfl,hc,r22,r23,r24⟩
   simp -implicitDefEqProofs only[go_sem,r23,r24];refine .intro (fun e=>?_) (fun e=>?_)
   ·have hlt:i<l.length:=ack e
    have w1:IntKind.i64.wrap ((i:Int)+1)=((i+1:Nat):Int):=acE;have ix:=fun k=>fc.eq (xs:=l.map aU) (sz:=3) i acp acz k
    rw[ace]at ix;have hci:=fun(d:bL l[i]=true)=>(fun j (hj:j<i+1) (h2:j<l.length)=>(by
     grind:bL l[j]=true))
    have hat:=fun(d:bL l[i]=false)=>(List.all_eq_false.2 ⟨l[i],aci hlt,acp⟩:l.all bL=false)
    obtain⟨v,ev⟩:∃v,l[i]=v:=⟨_,rfl⟩;rw[ev]at ix hci hat;simp only[aU]at ix;simp -implicitDefEqProofs only[go_sem,r22,r24,ix];intro i4 h4;simp -implicitDefEqProofs only[go_sem];refine(hvr v _).pthen ?_;cases d1:bL v
    ·simp -implicitDefEqProofs only[go_sem]
     exact .mk _ (.refl _) (hs.trans (.ak h4)) ⟨by rw[hmm,hat d1];rfl,rfl⟩
    ·simp -implicitDefEqProofs only[go_sem,r24,w1]
     refine⟨_,?_,hs.trans (.ak h4),i+1,aco,rfl,hci d1,?_,?_,?_⟩
     ·omega
     all_goals simp -implicitDefEqProofs only[go_sem,r22,r23]
   ·have hge:i=l.length:=by grind
    simp -implicitDefEqProofs only[go_sem];exact .mk _ (.refl _) hs ⟨by rw[hmm,List.all_eq_true.2 fun x hx=>ae6];rfl,rfl⟩
theorem Kw{op:Int}{l:List bD}(h:FM op l=false):gQ op l=nF 1:=by
 unfold gQ;rw[if_pos]
 by_cases h1:6≤op∧op≤13
 ·by_cases h2:l.length=if op=11 then 1 else 2
  ·refine .inr (.inr ?_)
   unfold FM at h
   grind
  omega
 omega
theorem Ig{op:Int}{l:List bD}(h:FM op l=true):(6≤op∧op≤13)∧l.all bL=true∧(op=11∧(∃a,l= [a])∨op≠11∧∃a b,l= [a,b]):=by
 unfold FM at h;simp only[Bool.and_eq_true,Bool.not_eq_true',Bool.or_eq_false_iff,decide_eq_false_iff_not]at h;obtain⟨⟨⟨h1,h2⟩,h3⟩,h4⟩:=h;refine⟨aco,h4,?_⟩
 by_cases e:op=11
 ·subst e
  have h3' :(l.length:Int)=1:=acp;exact .inl ⟨rfl,List.length_eq_one_iff.1 aco⟩
 ·have h3' :(l.length:Int)=2:=by grind
  exact .inr ⟨e,xg aco⟩
theorem BL(op:Int)(l:List bD)(hl:l.length≤1000000)(p:Perm)(h:Heap):ai Tryz.prog 319 [.i op,.sl (l.map aU) p] h fun r h' =>r=rf (gQ op l)∧h' =h:=by
 have hmy:=fun G=>Q5 op l hl p G
 cases dm:FM op l
 ·rw[dm]at hmy
  refine acn Tryz.func319 111 [.cell 4 30,.tmp 5] fun hwf=>?_
  simp -implicitDefEqProofs only[go_sem];intro i1 h1;simp -implicitDefEqProofs only[go_sem];refine(hmy _).pthen ?_;simp -implicitDefEqProofs only[go_sem];exact .mk _ (.refl _) (.ak h1) ⟨by rw[Kw dm];rfl,rfl⟩
 rw[dm]at hmy;obtain⟨hop,hall,hf⟩:=Ig dm;rcases hf with⟨rfl,a,rfl⟩|⟨e11,a,b,rfl⟩
 ·have ix0:=fun k=>fc.eq (xs:=[aU a]) (sz:=3) 0 acw rfl k
  simp only[List.getElem_cons_zero,aU,Int.natCast_zero]at ix0;have hal:=fun(G:Heap)=>BI 1 [a] acw p G
  simp only[List.map_cons,List.map_nil,aU]at hal hmy;have hc:gQ 11 [a]=if(([a].all fun v=>v.kind==1)=false)then nF 2 else(eS (a.n==0),0):=by
   unfold gQ;rw[if_neg (by simp[hall])]
   simp
  have htr:=fun G=>Bl (a.n==0) G
  refine acn Tryz.func319 111 [.cell 4 30,.tmp 5] fun hwf=>?_
  simp -implicitDefEqProofs only[go_sem,List.map_cons,List.map_nil,aU];intro i1 h1;simp -implicitDefEqProofs only[go_sem];refine(hmy _).pthen ?_;simp -implicitDefEqProofs only[go_sem];refine(hal _).pthen ?_;cases d1:([a].all fun v=>v.kind==1)
  ·simp -implicitDefEqProofs only[go_sem]
   exact .mk _ (.refl _) (.ak h1) ⟨by rw[hc,if_pos d1];rfl,rfl⟩
  ·simp -implicitDefEqProofs only[go_sem,ix0]
   refine(htr _).pthen ?_;simp -implicitDefEqProofs only[go_sem,aU];exact .mk _ (.refl _) (.ak h1) ⟨by rw[hc,if_neg (by rw[d1];decide)];rfl,rfl⟩
 ·have ix0:=fun k=>fc.eq (xs:=[aU a,aU b]) (sz:=3) 0 acw rfl k
  have ix1:=fun k=>fc.eq (xs:=[aU a,aU b]) (sz:=3) 1 acw rfl k
  simp only[List.getElem_cons_zero,List.getElem_cons_succ,aU,Int.natCast_zero,Int.natCast_one]at ix0 ix1;have hal:=fun(G:Heap)=>BI 1 [a,b] acw p G
  have hva:bL a=true∧bL b=true:=by simpa using hall
  have hnu:=fun(g:FuncId) (o:Bool) (n:Int) hg (G:Heap)=>FT g a b o n hg p G
  simp only[List.map_cons,List.map_nil,aU]at hal hmy hnu;have hle:=fun G=>B3 a b G
  simp only[aU]at hle;have htr:=fun(x:Bool) G=>Bl x G
  have hc:gQ op [a,b]=if op=6 then(if a.kind=b.kind then(eS (eqV a b),0)else nF 2)
    else if op=7 then(match mX a b with
     |some x=>(eS x,0)
     |none=>nF 2)
    else if op=8∨op=9∨op=10 then
     (if [a,b].all fun v=>v.kind==2 then(if op=8 then zS (Kb a.n b.n) (a.n+b.n)else if op=9 then zS (Mr a.n b.n) (a.n - b.n)else zS (Jf a.n b.n) (a.n*b.n))else nF 2)
    else if([a,b].all fun v=>v.kind==1)=false then nF 2
    else if op=12 then(eS (a.n==1 && b.n==1),0)
    else(eS (a.n==1||b.n==1),0):=by
   unfold gQ;rw[if_neg (by simp[hall,e11,hop.1,hop.2])]
   simp only[e11,if_false];rfl
  refine acn Tryz.func319 111 [.cell 4 30,.tmp 5] fun hwf=>?_
  simp -implicitDefEqProofs only[go_sem,List.map_cons,List.map_nil,aU];intro i1 h1;simp -implicitDefEqProofs only[go_sem];refine(hmy _).pthen ?_;rcases(show op=6∨op=7∨op=8∨op=9∨op=10∨op=12∨op=13 by omega)with rfl|rfl|rfl|rfl|rfl|rfl|rfl
  ·simp -implicitDefEqProofs only[go_sem]
   refine⟨.of acs,?_⟩;cases dk:(a.kind !=b.kind)
   case true=>
    simp -implicitDefEqProofs only[go_sem,ix0,ix1,dk];exact .mk _ (.refl _) (.ak h1) ⟨by rw[hc,if_pos rfl,if_neg (by simpa using dk)];rfl,rfl⟩
   ·simp -implicitDefEqProofs only[go_sem,ix0,ix1,dk]
    refine .calls cQ [0,1,2,3,4,5,6,7,8,9] (fun _ _ e=>acR) acs rfl ?_
    simp -implicitDefEqProofs only[go_sem,ix0,ix1];have htr1:=htr (eqV a b);simp only[eqV]at htr1;refine(htr1 _).pthen ?_;refine⟨fun _ _ e=>acR,?_⟩
    simp -implicitDefEqProofs only[go_sem,aU];refine⟨fun _ _ e=>acR,?_⟩
    exact .mk _ (.refl _) (.ak h1) ⟨by rw[hc,if_pos rfl,if_pos (by simpa using dk)];rfl,rfl⟩
  ·have hc7:gQ 7 [a,b]=(match mX a b with
     |some x=>(eS x,0)
     |none=>nF 2):=by rw[hc];rfl
   simp -implicitDefEqProofs only[go_sem];refine .quiet acs ?_;simp -implicitDefEqProofs only[go_sem,ix0,ix1];refine⟨_,hle _,?_⟩;cases hl:mX a b with
   |none=>
    have e2:yx a b=2:=by simp[yx,hva]
    rw[hl]at hc7;simp -implicitDefEqProofs only[go_sem,kZ,hl,e2];exact .mk _ (.refl _) (.ak h1) ⟨by rw[hc7];rfl,rfl⟩
   |some x=>
    rw[hl]at hc7;simp -implicitDefEqProofs only[go_sem,kZ,hl];refine(htr x _).pthen ?_;simp -implicitDefEqProofs only[go_sem,aU];exact .mk _ (.refl _) (.ak h1) ⟨by rw[hc7];rfl,rfl⟩
  ·have hc8:gQ 8 [a,b]=if [a,b].all (fun v=>v.kind==2)then zS (Kb a.n b.n) (a.n+b.n)else nF 2:=by rw[hc];rfl
   have hg:=hnu 325 _ _ (fun G=>Qc a.n b.n G)
   rw[←hc8]at hg;obtain⟨⟨v,e⟩,ex⟩:∃x,gQ 8 [a,b]=x:=⟨_,rfl⟩;exact agV
  ·have hc8:gQ 9 [a,b]=if [a,b].all (fun v=>v.kind==2)then zS (Mr a.n b.n) (a.n - b.n)else nF 2:=by rw[hc];rfl
   have hg:=hnu 326 _ _ (fun G=>Rz a.n b.n G)
   rw[←hc8]at hg;obtain⟨⟨v,e⟩,ex⟩:∃x,gQ 9 [a,b]=x:=⟨_,rfl⟩;exact agV
  ·have hc8:gQ 10 [a,b]=if [a,b].all (fun v=>v.kind==2)then zS (Jf a.n b.n) (a.n*b.n)else nF 2:=by rw[hc];rfl
   have hg:=hnu 327 _ _ (fun G=>Q8 a.n b.n G)
   rw[←hc8]at hg;obtain⟨⟨v,e⟩,ex⟩:∃x,gQ 10 [a,b]=x:=⟨_,rfl⟩;exact agV
  ·have hc12:gQ 12 [a,b]=if([a,b].all fun v=>v.kind==1)=false then nF 2 else(eS (a.n==1 && b.n==1),0):=by rw[hc];rfl
   simp -implicitDefEqProofs only[go_sem];refine(hal _).pthen ?_;cases d1:([a,b].all fun v=>v.kind==1)
   ·simp -implicitDefEqProofs only[go_sem]
    exact .mk _ (.refl _) (.ak h1) ⟨by rw[hc12,if_pos d1];rfl,rfl⟩
   ·rw[if_neg (by rw[d1];decide)]at hc12
    cases da:(a.n==1)<;>cases db:(b.n==1)
    all_goals
     rw[da,db]at hc12;simp -implicitDefEqProofs only[go_sem,ix0,ix1,da,db];refine(htr _ _).pthen ?_;simp -implicitDefEqProofs only[go_sem,aU];exact .mk _ (.refl _) (.ak h1) ⟨by rw[hc12];rfl,rfl⟩
  ·have hc13:gQ 13 [a,b]=if([a,b].all fun v=>v.kind==1)=false then nF 2 else(eS (a.n==1||b.n==1),0):=by rw[hc];rfl
   simp -implicitDefEqProofs only[go_sem];refine(hal _).pthen ?_;cases d1:([a,b].all fun v=>v.kind==1)
   ·simp -implicitDefEqProofs only[go_sem]
    exact .mk _ (.refl _) (.ak h1) ⟨by rw[hc13,if_pos d1];rfl,rfl⟩
   ·rw[if_neg (by rw[d1];decide)]at hc13
    cases da:(a.n==1)<;>cases db:(b.n==1)
    all_goals
     rw[da,db]at hc13;simp -implicitDefEqProofs only[go_sem,ix0,ix1,da,db];refine(htr _ _).pthen ?_;simp -implicitDefEqProofs only[go_sem,aU];exact .mk _ (.refl _) (.ak h1) ⟨by rw[hc13];rfl,rfl⟩
end Go.Proofs.YtcochaoekecfdaaGreatDoor
namespace Go.Bf
open Go Go.Ab Go.Proofs.YtcochaoekecfdaaGreatDoor
def bQ(x:js):AV:=.agg [.sl (x.bag.map aU) .no,.i x.v.kind,.i x.v.n,.s x.v.s,.i x.e]
end Go.Bf
namespace Go.Proofs.YtcochaoekecfdaaGreatDoor
open Go Go.Ab Go.Bf
theorem QU(x:js)(n:Int)(h:Heap):ai Tryz.prog 274 [bQ x,.i n] h fun r h' =>r= .b (isI x n)∧h' =h:=by
 refine acn Tryz.func274 15 [.tmp 4] fun hwf=>?_
 simp only[go_sem,bQ];exact ag4
theorem NL(x:js)(n:Int)(h:Heap):ai Tryz.prog 274 [.agg [.sl [] .full,.i x.v.kind,.i x.v.n,.s x.v.s,.i x.e],.i n] h fun r h' =>r= .b (isI x n)∧h' =h:=by
 refine acn Tryz.func274 15 [.tmp 4] fun hwf=>?_
 simp only[go_sem];exact ag4
theorem vv(b:Bool)(h:Heap):ai Tryz.prog 317 [.b b] h fun r h' =>r=bQ (iR b)∧h' =h:=by
 refine acn Tryz.func317 10 [.cell 2 364] fun hwf=>?_
 simp only[go_sem];intro i1 h1;simp only[go_sem];intro i2 h2;have n21:=aH h2;have n2:=aC h2;cases b
 all_goals
  simp only[go_sem,aj,n21.symm];refine .mk (bQ (iR _)) ?_ ((((Sub.refl h).put h1 _).put n2 _).put h1 _) ⟨rfl,rfl⟩;refine .agg _ _ rfl fun i a b=>?_
  rcases i with _|_|_|_|_|i
  ·exact ae2
  all_goals first|exact .refl _|(simp at a;omega)
theorem Fg(op:Int)(h:Heap):ai Tryz.prog 301 [.i op] h fun r h' =>r= .i (opsOf op:Nat)∧h' =h:=by
 refine acn Tryz.func301 11 [.tmp 2] fun hwf=>?_
 cases d1:(op==1)
 case true=>simp only[go_sem,d1];exact .same (.refl _) ⟨by rw[opsOf,if_pos (.inl acp)];rfl,rfl⟩
 cases d2:(op==2)
 case true=>simp only[go_sem,d1,d2];exact .same (.refl _) ⟨by rw[opsOf,if_pos (.inr acp)];rfl,rfl⟩
 have e1:¬(op=1∨op=2):=acp;cases d3:(op==3)
 case true=>simp only[go_sem,d1,d2,d3];exact .same (.refl _) ⟨by rw[opsOf,if_neg e1,if_pos (.inl acp)];rfl,rfl⟩
 cases d4:(op==4)
 case true=>simp only[go_sem,d1,d2,d3,d4];exact .same (.refl _) ⟨by rw[opsOf,if_neg e1,if_pos (.inr (.inl acp))];rfl,rfl⟩
 cases d5:(op==11)
 case true=>simp only[go_sem,d1,d2,d3,d4,d5];exact .same (.refl _) ⟨by rw[opsOf,if_neg e1,if_pos (.inr (.inr acp))];rfl,rfl⟩
 have e2:¬(op=3∨op=4∨op=11):=acp;simp only[go_sem,d1,d2,d3,d4,d5];exact .same (.refl _) ⟨by rw[opsOf,if_neg e1,if_neg e2];rfl,rfl⟩
theorem FH(vs:List bD)(hl:vs.length≤1000000000)(x:bD)(p:Perm)(h:Heap):
  ai Tryz.prog 329 [.sl (vs.map aU) p,aU x] h fun r h' =>r= .i (ixD (fun y=>eqV x y) vs)∧h' =h:=by
 refine acn Tryz.func329 19 [.tmp 4] fun hwf=>?_
 simp only[go_sem,aU];intro i1 h1;simp only[go_sem,acd];refine .intro (fun m ρ G=>G=upd h i1 (some (.obj [.i x.kind,.i x.n,.s x.s] 30))∧∃i:Nat,i≤vs.length∧m=vs.length - i∧(∀j (hj:j<i) (h2:j<vs.length),eqV x vs[j]=false)∧lk ρ 0=some (.sl (vs.map aU) p)∧lk ρ 3=some (.ptr i1 0)∧lk ρ 7=some (.i vs.length)∧lk ρ 8=some (.i i)) vs.length ?_ ?_
 ·refine⟨rfl,0,aco,rfl,fun j hj=>aco,?_,?_,?_,?_⟩<;>simp only[go_sem]
 ·rintro m ρ G ⟨rfl,i,hi,rfl,hc,r0,r3,r7,r8⟩
  simp only[go_sem,r7,r8];refine .intro (fun e=>?_) (fun e=>?_)
  ·have hlt:i<vs.length:=ack e
   have w1:IntKind.i64.wrap ((i:Int)+1)=((i+1:Nat):Int):=acE;have ix:=fun k=>fc.eq (xs:=vs.map aU) (sz:=3) i acp acz k
   rw[ace]at ix;have hci:=fun(d:eqV x vs[i]=false)=>(fun j (hj:j<i+1) (h2:j<vs.length)=>(by
    grind:eqV x vs[j]=false))
   have hat:=fun(d:eqV x vs[i]=true)=>nI (q:=fun y=>eqV x y) hlt d fun j hj=>hc j hj aco
   obtain⟨v,ev⟩:∃v,vs[i]=v:=⟨_,rfl⟩;rw[ev]at ix hci hat;simp only[aU]at ix;simp only[go_sem,r0,r3,r8];refine⟨.of acs,?_⟩;cases d1:eqV x v
   ·have d2:=d1
    simp only[eqV]at d2;simp only[go_sem,r8,ix,d2,w1];refine⟨_,?_,rfl,i+1,aco,rfl,hci d1,?_,?_,?_,?_⟩
    ·omega
    all_goals simp only[go_sem,r0,r3,r7]
   ·have d2:=d1
    simp only[eqV]at d2;simp only[go_sem,ix,d2];exact .mk _ (.refl _) (.ak h1) ⟨agp,rfl⟩
  ·have hge:i=vs.length:=by grind
   simp only[go_sem];exact .mk _ (.refl _) (.ak h1) ⟨acT,rfl⟩
theorem Nd{vs:List bD}{x:bD}:decide ((0:Int)≤ixD (fun y=>eqV x y) vs)=vs.any fun v=>eqV v x:=by
 have hsy:(fun v=>eqV v x)=fun v=>eqV x v:=by simp[funext,eqV,BEq.comm]
 rw[uA,hsy]
theorem OI(vs:List bD)(hl:vs.length≤1000000000)(x:bD)(p:Perm)(h:Heap):ai Tryz.prog 318 [.sl (vs.map aU) p,aU x] h fun r h' =>r= .b (vs.any fun v=>eqV v x)∧h' =h:=by
 have h1:∀G,ai Tryz.prog 321 [.sl (vs.map aU) p,aU x] G fun r h' =>r= .b (vs.any fun v=>eqV v x)∧h' =G:=fun G=>by
  have hq:=fun K=>FH vs hl x p K
  refine acn Tryz.func321 9 [.tmp 4] fun hwf=>?_
  simp only[go_sem,aU];intro i1 h1;simp only[go_sem];refine(hq _).pthen ?_;simp only[go_sem,Nd];exact acH
 refine acn Tryz.func318 8 [.tmp 4] fun hwf=>?_
 simp only[go_sem,aU];intro i1 h1';simp only[go_sem];refine(h1 _).pthen ?_;simp only[go_sem];exact .mk _ (.refl _) (.ak h1') ⟨rfl,rfl⟩
theorem kY{L:List AV}{x:js}(hL:L=x.bag.map aU)(q:Perm):Weak (.agg [.sl L q,.i x.v.kind,.i x.v.n,.s x.v.s,.i x.e]) (bQ x):=by
 subst hL;refine .agg _ _ rfl fun i a b=>?_
 rcases i with _|_|_|_|_|i
 ·exact ae2
 all_goals first|exact .refl _|(simp at a;omega)
theorem tP(op:Int):opsOf op≤2:=by
 grind [opsOf]
theorem u9{gs:List bp}{op:Int}{val:bD}{attr:pW}{l:List js}{x:js}(h1:op≠1)(h2:op≠2)(hno:¬((op=12∨op=13)∧(l.any fun x=>isI x (op - 12))=true))(hx:l.find? (fun x=>x.e !=0)=some x):lf gs ⟨op,val,attr⟩ l=⟨[],ax,x.e⟩:=by
 simp_all [lf,if_neg]
theorem u7{gs:List bp}{op:Int}{val:bD}{attr:pW}{l:List js}(h1:op≠1)(h2:op≠2)(hno:¬((op=12∨op=13)∧(l.any fun x=>isI x (op - 12))=true))(hx:l.find? (fun x=>x.e !=0)=none):lf gs ⟨op,val,attr⟩ l=(if op=3 then(match (l.headD ⟨[],ax,0⟩).bag with
    | [v]=>⟨[],v,0⟩
    |_=>⟨[],ax,4⟩)
   else if op=4 then⟨[],⟨2,(l.headD ⟨[],ax,0⟩).bag.length,[]⟩,0⟩
   else if op=5 then iR ((l.headD ⟨[],ax,0⟩).bag.any fun v=>eqV v (l.getD 1 ⟨[],ax,0⟩).v)
   else Go.Bf.Ae (gQ op (l.map (·.v)))):=by
 unfold lf;simp only[if_neg h1,if_neg h2,if_neg hno,hx]
 all_goals rfl
theorem N3{h:Heap}{y:AV}(n:aM)(hop:1≤n.op∧n.op≤13)(l:List js)(hb:Rd h 5 y (l.map bQ))(hl:l.length=opsOf n.op)(hbag:∀x∈l,x.bag.length≤1000000)(gs:List bp)(hf:rI gs):
  ai Tryz.prog 302 [cJ n,y,bJ gs] h fun r h' =>r=bQ (lf gs n l)∧h' =h:=by
 obtain⟨op,val,attr⟩:=n;simp only at hop hl;have hl2:l.length≤2:=by rw[hl];exact tP op
 have uV:(U 30).sz=3:=acA;have hg:=fun G=>GW gs attr.cat attr.name attr.must (by have:=hf.1;omega) hf.2 G
 simp only[bJ]at hg;refine acn Tryz.func302 122 [.cell 6 364] fun hwf=>?_
 simp only[go_sem,cJ,bJ];intro i3 h3;simp only[go_sem];intro i6 h6;have n63:=aH h6;have n6' :=aC h6;obtain⟨H0,eH⟩:∃H0,upd (upd h i3 (some (.obj [.i op,.i val.kind,.i val.n,.s val.s,.i attr.cat,.s attr.name,.b attr.must] 229))) i6 (some (.obj [.sl [] .full,.i 0,.i 0,.s [],.i 0] 364))=H0:=⟨_,rfl⟩;have hH0:Ab.Sub h H0:=afm;have g3:H0 i3=some (.obj [.i op,.i val.kind,.i val.n,.s val.s,.i attr.cat,.s attr.name,.b attr.must] 229):=by rw[←eH,ag _ _ n63.symm,ah]
 have g6:H0 i6=some (.obj [.sl [] .full,.i 0,.i 0,.s [],.i 0] 364):=adR;rw[eH];clear eH;cases d1:(op==1)
 case true=>
  have e1:op=1:=afn;simp only[go_sem,d1,g3,g6];exact .mk (bQ ⟨[],val,0⟩) (kY (x:=⟨[],val,0⟩) rfl _) (hH0.put n6' _) ⟨by unfold lf;simp only[e1,if_true],rfl⟩
 have hp1' :op≠1:=afn;cases d2:(op==2)
 case true=>
  have e2:op=2:=by simpa using d2
  simp only[go_sem,d1,d2,g3];refine(hg _).pthen ?_
  by_cases hh:xF gs attr= []∧attr.must=true
  ·have hh2:Go.Bf.getD gs attr.cat attr.name= []∧attr.must=true:=hh
   simp only[go_sem,IP,if_pos hh2,g6];exact .mk (bQ ⟨[],ax,4⟩) (kY (x:=⟨[],ax,4⟩) rfl _) (hH0.put n6' _) ⟨by unfold lf;simp only[e2,if_neg (show¬(2:Int)=1 by decide),if_true,if_pos hh],rfl⟩
  ·have hh2:¬(Go.Bf.getD gs attr.cat attr.name= []∧attr.must=true):=hh
   simp only[go_sem,IP,if_neg hh2,g6];exact .mk (bQ ⟨xF gs attr,ax,0⟩) (kY (x:=⟨xF gs attr,ax,0⟩) rfl _) (hH0.put n6' _) ⟨by unfold lf;simp only[e2,if_neg (show¬(2:Int)=1 by decide),if_true,if_neg hh],rfl⟩
 have hp2' :op≠2:=by simpa using d2
 have his:=fun(x:js) (m:Int) (G:Heap)=>QU x m G
 simp only[bQ]at his;cases d12:(op==12)
 case true=>
  have e12:op=12:=by simpa using d12
  have htr:=fun G=>vv false G
  simp only[bQ]at htr;obtain⟨a,b,hab⟩:∃a b,l= [a,b]:=xg (by rw[hl,e12];rfl)
  have wk:IntKind.i64.wrap (op - 12)=0:=ae3;have han:(l.any fun x=>isI x (op - 12))=(isI a 0||isI b 0):=by rw[hab,e12];simp
  have hb0:l.map bQ= [bQ a,bQ b]:=by rw[hab];rfl
  have q3:(op==3)=false:=ae3;have q4:(op==4)=false:=ae3;have q5:(op==5)=false:=ae3;have hbH:=hb.sub hH0;simp only[go_sem,d2,d1,d12,g3,wk];refine hbH.idx (e:=364) 0 rfl aez acA acr fun p hp1=>?_
  have hld:=hp1.all (U:=U) (ty:=364) acA adA adA;simp only[go_sem,hld,hb0,List.getElem_cons_zero,bQ];refine(his a 0 _).pthen ?_;cases da:isI a 0
  ·simp only[go_sem]
   refine hbH.idx (e:=364) 1 rfl aez acA acr fun p hp1=>?_
   have hld:=hp1.all (U:=U) (ty:=364) acA ac7 ac7;simp only[go_sem,hld,hb0,List.getElem_cons_succ,List.getElem_cons_zero,bQ];refine(his b 0 _).pthen ?_;cases db:isI b 0
   ·exact agz
   ·simp only[go_sem]
    refine(htr _).pthen ?_;simp only[go_sem,g6];exact .mk (bQ (iR false)) (kY (x:=(iR false)) rfl _) (hH0.put n6' _) ⟨by unfold lf;rw[han,da,db];simp[e12]<;>rfl,rfl⟩
  ·simp only[go_sem]
   refine(htr _).pthen ?_;simp only[go_sem,g6];exact .mk (bQ (iR false)) (kY (x:=(iR false)) rfl _) (hH0.put n6' _) ⟨by unfold lf;rw[han,da];simp[e12]<;>rfl,rfl⟩
 have hn12:op≠12:=by simpa using d12
 cases d13:(op==13)
 case true=>
  have e12:op=13:=by simpa using d13
  have htr:=fun G=>vv true G
  simp only[bQ]at htr;obtain⟨a,b,hab⟩:∃a b,l= [a,b]:=xg (by rw[hl,e12];rfl)
  have wk:IntKind.i64.wrap (op - 12)=1:=ae3;have han:(l.any fun x=>isI x (op - 12))=(isI a 1||isI b 1):=by rw[hab,e12];simp
  have hb0:l.map bQ= [bQ a,bQ b]:=by rw[hab];rfl
  have q3:(op==3)=false:=ae3;have q4:(op==4)=false:=ae3;have q5:(op==5)=false:=ae3;have hbH:=hb.sub hH0;simp only[go_sem,d1,d2,d12,d13,g3,wk];refine hbH.idx (e:=364) 0 rfl aez acA acr fun p hp1=>?_
  have hld:=hp1.all (U:=U) (ty:=364) acA adA adA;simp only[go_sem,hld,hb0,List.getElem_cons_zero,bQ];refine(his a 1 _).pthen ?_;cases da:isI a 1
  ·simp only[go_sem]
   refine hbH.idx (e:=364) 1 rfl aez acA acr fun p hp1=>?_
   have hld:=hp1.all (U:=U) (ty:=364) acA ac7 ac7;simp only[go_sem,hld,hb0,List.getElem_cons_succ,List.getElem_cons_zero,bQ];refine(his b 1 _).pthen ?_;cases db:isI b 1
   ·exact agz
   ·simp only[go_sem]
    refine(htr _).pthen ?_;simp only[go_sem,g6];exact .mk (bQ (iR true)) (kY (x:=(iR true)) rfl _) (hH0.put n6' _) ⟨by unfold lf;rw[han,da,db];simp[e12]<;>rfl,rfl⟩
  ·simp only[go_sem]
   refine(htr _).pthen ?_;simp only[go_sem,g6];exact .mk (bQ (iR true)) (kY (x:=(iR true)) rfl _) (hH0.put n6' _) ⟨by unfold lf;rw[han,da];simp[e12]<;>rfl,rfl⟩
 have hn13:op≠13:=by simpa using d13
 have hno:¬((op=12∨op=13)∧(l.any fun x=>isI x (op - 12))=true):=fun hh=>hh.1.elim hn12 hn13
 simp only[go_sem,d1,d2,d12,d13,g3,hb.len,acd];refine .intro (fun m ρ H=>∃(i:Nat) (z:AV),Acc U 30 H0 H z ((l.take i).map fun x=>aU x.v)∧i≤l.length∧m=l.length - i∧(∀j (h1:j<l.length),j<i→l[j].e=0)∧lk ρ 1=some y∧lk ρ 3=some (.ptr i3 0)∧lk ρ 6=some (.ptr i6 0)∧lk ρ 10=some z∧lk ρ 55=some y∧lk ρ 56=some (.i l.length)∧lk ρ 57=some (.i i)) l.length ?_ ?_
 ·refine⟨0,.sl [] .full,.full (.refl _),aco,rfl,fun j _ hj=>aco,?_,?_,?_,?_,?_,?_,?_⟩<;>simp only[go_sem]
 ·rintro m ρ H ⟨i,z,hz,hi,rfl,hc,r1,r3,r6,r10,r55,r56,r57⟩
  have hsH:=hH0.trans hz.1;have hbH:=hb.sub hsH;have k3:=hz.1 _ _ g3;have k6:=hz.1 _ _ g6;simp only[go_sem,r56,r57];refine .intro (fun e=>?_) (fun e=>?_)
  ·have hlt:i<l.length:=ack e
   have w1:=acj i aco;have hsn:(l.take (i+1)).map (fun x=>aU x.v)=(l.take i).map (fun x=>aU x.v)++ [aU l[i].v]:=adE
   simp only[go_sem,r55,r57];refine hbH.idx (e:=364) i rfl acN acA acr fun p hp1=>?_
   have hld:=hp1.all (U:=U) (ty:=364) acA ac3 ac3;obtain⟨x,ex⟩:∃x,l[i]=x:=⟨_,rfl⟩;rw[ex]at hsn;simp only[go_sem,hld,ace,ex,bQ];intro i12 h12;have n126:i12≠i6:=fun e=>aeo
   cases dx:(x.e !=0)
   ·have dx' :x.e=0:=by simpa using dx
    simp only[go_sem,r10,dx];refine(hz.sub (.ak h12)).app (zs:=[aU x.v]) acu acu (fun k hk=>hk) adJ adX acI fun z' H' hz' kp=>?_
    simp only[go_sem,r57,w1];refine⟨_,?_,i+1,z',by rw[hsn];exact hz',aco,rfl,fun j h1 hj=>?_,?_,?_,?_,?_,?_,?_,?_⟩
    ·omega
    ·by_cases hji:j=i
     ·subst hji;rw[ex];exact dx'
     ·exact hc j h1 aco
    all_goals simp only[go_sem,r1,r3,r6,r55,r56]
   ·have hfi:l.find? (fun x=>x.e !=0)=some x:=by rw[←ex];exact List.find?_eq_some_iff_getElem.2 ⟨by rw[ex];exact dx,i,hlt,rfl,fun j hj=>afT⟩
    simp only[go_sem,r6,dx,aj,n126.symm,k6];exact .mk (bQ ⟨[],ax,x.e⟩) (kY (x:=⟨[],ax,x.e⟩) rfl _) ((hsH.trans (.ak h12)).put n6' _) ⟨afE,rfl⟩
  ·have hge:i=l.length:=by have:=acg e;omega
   subst hge;have hfi:l.find? (fun x=>x.e !=0)=none:=List.find?_eq_none.2 fun x hx=>by
    obtain⟨j,hj,rfl⟩:=List.mem_iff_getElem.1 hx;rw[hc j hj hj];decide
   have hnd:=u7 (gs:=gs) (val:=val) (attr:=attr) hp1' hp2' hno hfi;rw[List.take_length]at hz;obtain⟨qz,eqz⟩:=hz.row;subst eqz;have hcl:=fun G=>BL op (l.map (·.v)) afx qz G
   rw[List.map_map]at hcl;have hcl:∀G,ai Tryz.prog 319 [.i op,.sl (l.map fun x=>aU x.v) qz] G fun r h' =>r=rf (gQ op (l.map (·.v)))∧h' =G:=hcl
   cases d3:(op==3)
   case true=>
    have e3:op=3:=agh;obtain⟨a,ha⟩:∃a,l= [a]:=List.length_eq_one_iff.1 (by rw[hl,e3];rfl)
    have hb0:l.map bQ= [bQ a]:=by rw[ha];rfl
    simp only[e3,if_true,ha,List.headD_cons]at hnd;simp only[go_sem,r1,r3,k3,d3];refine hbH.idx (e:=364) 0 rfl aez acA acr fun p hp1=>?_
    (try simp only[go_sem])
    refine hp1.field (f:=0) (off:=0) (t:=193) rfl adf fun p2 hp2=>?_
    have hld:=hp2.part (U:=U) (ty:=193) adf adr;simp only[hb0,List.getElem_cons_zero,bQ,AV.cells]at hld;cases db:((a.bag.length:Int) !=1)
    ·have hb1:(a.bag.length:Int)=1:=by simpa using db
     obtain⟨v,hv⟩:=List.length_eq_one_iff.1 (show a.bag.length=1 by omega)
     rw[hv]at hnd hld;have iv:=fun K=>fc.eq (xs:=[aU v]) (sz:=3) 0 acw rfl K
     simp only[List.getElem_cons_zero,aU,Int.natCast_zero]at iv;simp only[go_sem,r1,hld,List.map_cons,List.map_nil,aU];refine hbH.idx (e:=364) 0 rfl aez acA acr fun p hp1=>?_
     (try simp only[go_sem])
     refine hp1.field (f:=0) (off:=0) (t:=193) rfl adf fun p2 hp2=>?_
     have hld:=hp2.part (U:=U) (ty:=193) adf adr;simp only[hb0,List.getElem_cons_zero,bQ,AV.cells,hv,List.map_cons,List.map_nil,aU]at hld;simp only[go_sem,hld,iv,r6,k6];exact .mk (bQ ⟨[],v,0⟩) (kY (x:=⟨[],v,0⟩) rfl _) (hsH.put n6' _) ⟨by rw[e3,ha,hnd]<;>rfl,rfl⟩
    ·simp only[go_sem,hld,acd,db,r6,k6]
     refine .mk (bQ ⟨[],ax,4⟩) (kY (x:=⟨[],ax,4⟩) rfl _) (hsH.put n6' _) ⟨?_,rfl⟩;rw[e3,ha,hnd]
     congr 1
     split
     ·rename_i v hv;rw[hv]at db;simp at db
     ·rfl
   cases d4:(op==4)
   case true=>
    have e4:op=4:=by simpa using d4
    obtain⟨a,ha⟩:∃a,l= [a]:=List.length_eq_one_iff.1 (by rw[hl,e4];rfl)
    have hb0:l.map bQ= [bQ a]:=by rw[ha];rfl
    simp only[go_sem,r1,r3,k3,d3,d4];refine hbH.idx (e:=364) 0 rfl aez acA acr fun p hp1=>?_
    (try simp only[go_sem])
    refine hp1.field (f:=0) (off:=0) (t:=193) rfl adf fun p2 hp2=>?_
    have hld:=hp2.part (U:=U) (ty:=193) adf adr;simp only[hb0,List.getElem_cons_zero,bQ,AV.cells]at hld;simp only[go_sem,hld,acd,r6,k6];exact .mk (bQ ⟨[],⟨2,a.bag.length,[]⟩,0⟩) (kY (x:=⟨[],⟨2,a.bag.length,[]⟩,0⟩) rfl _) (hsH.put n6' _) ⟨by rw[hnd,e4,ha];rfl,rfl⟩
   cases d5:(op==5)
   case true=>
    have e5:op=5:=by simpa using d5
    obtain⟨a,b,hab⟩:∃a b,l= [a,b]:=xg (by rw[hl,e5];rfl)
    have hb0:l.map bQ= [bQ a,bQ b]:=by rw[hab];rfl
    have hvh:=fun G=>OI a.bag (by have:=hbag a (by rw[hab];simp);omega) b.v .no G
    simp only[aU]at hvh;have htr:=fun G=>vv (a.bag.any fun v=>eqV v b.v) G
    simp only[bQ]at htr;simp only[go_sem,r3,k3,d3,d4,d5];refine .calls h [0,1,2,3,4,5,6,7,8,9,10] hsH acs rfl ?_;simp only[go_sem,r1];refine hb.idx (e:=364) 0 rfl aez acA acr fun p hp1=>?_
    simp only[go_sem];refine hp1.field (f:=0) (off:=0) (t:=193) rfl adf fun p2 hp2=>?_
    have hld:=hp2.part (U:=U) (ty:=193) adf adr;simp only[hb0,List.getElem_cons_zero,bQ,AV.cells]at hld;simp only[go_sem,hld,r1];refine hb.idx (e:=364) 1 rfl aez acA acr fun p hp3=>?_
    simp only[go_sem];refine hp3.field (f:=1) (off:=1) (t:=30) rfl adf fun p4 hp4=>?_
    have hld4:=hp4.part (U:=U) (ty:=30) adf (by simp only[go_sem,hb0,List.getElem_cons_succ,List.getElem_cons_zero];exact ab9 rfl)
    simp only[hb0,List.getElem_cons_succ,List.getElem_cons_zero,bQ,AV.cells]at hld4;simp only[go_sem,hld4];refine(hvh _).pthen ?_;refine⟨hsH,?_⟩;simp only[go_sem];refine(htr _).pthen ?_;refine⟨hsH,?_⟩;simp only[go_sem,r6,k6];refine⟨hsH.put n6' _,?_⟩;exact .mk (bQ (iR (a.bag.any fun v=>eqV v b.v))) (kY (x:=(iR (a.bag.any fun v=>eqV v b.v))) rfl _) (hsH.put n6' _) ⟨by rw[hnd,e5,hab];rfl,rfl⟩
   obtain⟨⟨v,e⟩,ev⟩:∃x,gQ op (l.map (·.v))=x:=⟨_,rfl⟩
   rw[ev]at hcl;simp only[go_sem,r3,r10,k3,d3,d4,d5];refine(hcl _).pthen ?_;simp only[go_sem,rf,aU];intro i13 h13;have n136:i13≠i6:=fun e=>af1
   simp only[go_sem,r6,aj,n136.symm,k6];exact .mk (bQ ⟨[],v,e⟩) (kY (x:=⟨[],v,e⟩) rfl _) ((hsH.trans (.ak h13)).put n6' _) ⟨by rw[hnd];simp only[if_neg (show¬op=3 by simpa using d3),if_neg (show¬op=4 by simpa using d4),if_neg (show¬op=5 by simpa using d5)];rw[ev]<;>rfl,rfl⟩
end Go.Proofs.YtcochaoekecfdaaGreatDoor
namespace Go.Bf
open Go Go.Ab Go.Proofs.YtcochaoekecfdaaGreatDoor
theorem Ck{t:fO}(h:lB t=0):MY t:=by
 obtain⟨h1,h2⟩:=Bj h;refine⟨aco,fun x hx=>?_⟩
 grind [Ao,An]
theorem M6.turn{m:aT}(h:M6 m):M6 (Ey m):=by
 exact ahc
theorem M6.indet{m:aT}(h:M6 m):M6 (gK m):=by
 exact ahc
theorem M6.first{l:List aT}(h:∀m∈l,M6 m):M6 (firstM l):=by
 unfold firstM;cases hf:l.find? fun m=>decide (m≠naM)with
 |none=>decide
 |some m=>grind
theorem M6.only:∀(l:List aT) (j:aT),(∀m∈l,M6 m)→M6 j→M6 (nZ l j)
 | [],j,_,hj=>hj
 |m::r,j,h,hj=>by
  simp only[nZ];split
  ·decide
  ·refine M6.only r _ acp ?_
   split
   ·grind
   ·split
    ·decide
    omega
theorem GI{alg:Int}{l:List aT}(h:∀m∈l,M6 m):M6 (gS alg l):=by
 unfold gS;split
 ·exact Hw _
 ·split
  ·exact M6.turn (Hw _)
  ·split
   ·exact .first h
   ·split
    ·exact .only _ _ h acr
    ·split
     ·split<;>decide
     ·split
      ·split<;>decide
      decide
theorem AB(r:cN)(t c:Nat):M6 (mV r t c).1:=by
 unfold mV;cases r.deny
 all_goals
  simp only[if_true,Bool.false_eq_true,if_false];split
  ·decide
  ·split
   ·decide
   ·first|(show M6 bl;decide)|(show M6 cI;decide)
theorem NN(alg:Int)(obls:List cD)(t:Nat){parts:List jE}(h:∀x∈parts,M6 x.1):M6 (pL alg obls t parts).1:=by
 have hc:M6 (gS alg (parts.map (·.1))):=GI fun m hm=>by
  grind
 unfold pL;simp only;split
 ·decide
 ·split
  ·exact hc.indet
  ·split
   ·exact hc
   ·exact hc
mutual
theorem wZ(gs:List bp):∀p:bB,M6 (fu gs p).1
 |.mk id set alg tgt rules kids obls=>by
  have ih:=C6 gs kids;simp only[fu];split
  ·decide
  ·refine NN alg obls _ fun x hx=>?_
   rcases List.mem_append.1 hx with hx|hx
   ·obtain⟨r,_,rfl⟩:=List.mem_map.1 hx
    exact AB _ _ _
   ·exact ih x hx
theorem C6(gs:List bp):∀l:List bB,∀x∈mw gs l,M6 x.1
 | [],x,hx=>by simp[mw]at hx
 |k::r,x,hx=>by
  have h1:=wZ gs k;have h2:=C6 gs r;simp only[mw,List.mem_cons]at hx;rcases hx with rfl|hx
  ·exact h1
  ·exact h2 x hx
end
theorem Kj{gs:List bp}(h:OO gs):rI gs:=⟨by have:=h.len;omega,fun g hg=>by have:=(h.each g hg).2.2.2.1;omega⟩
theorem GQ{α:Type}(B:Nat):∀(L:List (List α)),(∀x∈L,x.length≤B)→L.flatten.length≤L.length*B
 | [],_=>acw
 |x::L,h=>by
  have h1:=h x acw;have h2:=GQ B L fun y hy=>h y acp
  rw[List.flatten_cons,ach,List.length_cons,Nat.add_mul];omega
theorem tX{alg:Int}{m:aT}{parts:List jE}{B:Nat}(hp:∀x∈parts,x.2.length≤B)(hn:parts.length≤32):(eD alg m parts).length≤32*B+B:=by
 unfold eD;split
 ·cases hf:parts.find? fun x=>x.1==m with
  |none=>simp
  |some x=>grind
 ·have h1:=GQ B (((parts.filter fun x=>x.1==m).map (·.2))) fun x hx=>by
   grind
  have h2:((parts.filter fun x=>x.1==m).map (·.2)).length≤32:=by
   grind
  have:=Nat.mul_le_mul_right B h2;omega
theorem kG(l:List cD)(m:aT):(ew l m).length≤l.length:=List.length_filter_le _ _
theorem AA(r:cN)(t c:Nat):(mV r t c).2.length≤r.obls.length:=by
 unfold mV
 all_goals
  grind [kG]
def oB:Nat→Nat
 |0=>8
 |n+1=>8+33*oB n
theorem Ul(n:Nat):8≤oB n:=by
 cases n with
 |zero=>decide
 |succ n=>grind [oB]
theorem BS(gs:List bp):∀(n d:Nat) (p:bB),d+n=5→mH d p→(fu gs p).2.length≤oB n
 |0,d,.mk id set alg tgt rules kids obls,hd,h=>by grind [mH]
 |n+1,d,.mk id set alg tgt rules kids obls,hd,h=>by
  simp only[mH,qH]at h;obtain⟨_,_,_,_,_,_,g2,g3,g4,g5,g6,g7⟩:=h;have hob:=(kj g3).1;have h8:=Ul n;simp only[fu];split
  ·simp
  ·unfold pL
   simp only;split
   ·simp
   ·split
    ·simp
    ·split
     ·simp
     ·have h1:=tX (alg:=alg) (m:=gS alg ((rules.map (gY gs)++mw gs kids).map (·.1))) (parts:=rules.map (gY gs)++mw gs kids) (B:=oB n) (fun x hx=>by
       rcases List.mem_append.1 hx with hx|hx
       ·obtain⟨r,hr,rfl⟩:=List.mem_map.1 hx
        have:=AA r (mG gs r.tgt) (qp gs r.cond);have:=(kj (g6 r hr).2.2.2).1
        show(mV r (mG gs r.tgt) (qp gs r.cond)).2.length≤_
        omega
       ·rw[tu]at hx
        obtain⟨k,hk,rfl⟩:=List.mem_map.1 hx;exact BS gs n (d+1) k aco (g7 k hk)) (by grind [ach,acd,tu])
      have h2:=kG obls (gS alg ((rules.map (gY gs)++mw gs kids).map (·.1)))
      simp only[ach,oB];omega
theorem KT(gs:List bp){p:bB}(h:mH 1 p):(fu gs p).2.length≤10000000:=Nat.le_trans (BS gs 4 1 p rfl h) acr
theorem JV{op:Int}{w:List Bool}(hw:iC op=some w):w.length=opsOf op∧1≤op∧op≤13:=by
 have h1:1≤op∧op≤13:=by
  grind [iC]
 refine⟨?_,h1⟩;rcases(show op=1∨op=2∨op=3∨op=4∨op=5∨op=6∨op=7∨op=8∨op=9∨op=10∨op=11∨op=12∨op=13 by omega)with rfl|rfl|rfl|rfl|rfl|rfl|rfl|rfl|rfl|rfl|rfl|rfl|rfl
 all_goals (simp[iC]at hw;subst hw;rfl)
theorem JJ{bs bs' :List Bool}{n:aM}(h:iB bs n=some bs'):(1≤n.op∧n.op≤13)∧opsOf n.op≤bs.length∧bs'.length=bs.length - opsOf n.op+1:=by
 unfold iB at h;cases hw:iC n.op with
 |none=>grind
 |some w=>
  grind [JV,ach,List.length_take,List.length_singleton]
theorem Ou{l:List aM}{z bs:List Bool}{i:Nat}(hl:fQ [] l=some z)(hi:i<l.length)(hb:fQ [] (l.take i)=some bs):∃bs',iB bs l[i]=some bs'∧fQ [] (l.take (i+1))=some bs' :=by
 have h1:=jT [] l i;rw[hl,hb,List.drop_eq_getElem_cons hi]at h1;simp only[fQ]at h1;cases hs:iB bs l[i]with
 |none=>rw[hs]at h1;cases h1
 |some bs' =>
  rw[jT [] _ i,List.take_take,Nat.min_eq_left aco,hb,List.take_succ_eq_append_getElem hi,List.drop_append_of_le_length acp,List.drop_of_length_le acp]
  grind [fQ]
theorem LK{gs:List bp}(hf:rI gs)(n:aM)(l:List js):(lf gs n l).bag.length≤1000000:=by
 unfold lf Ae iR
 repeat' split
 all_goals first|exact hf.bag _|simp
def T9(x:js):AV:=.tup [aU x.v,.i x.e]
end Go.Bf
namespace Go.Proofs.YtcochaoekecfdaaGreatDoor
open Go Go.Ab Go.Bf
theorem KU(l:List aM)(hn:l≠ [])(he:jY l=0)(gs:List bp)(hf:rI gs)(h:Heap):ai Tryz.prog 273 [dL l,bJ gs] h fun r h' =>r=T9 (we gs l)∧h' =h:=by
 obtain⟨h32,hst⟩:=xX he hn;have hex:=fun G=>GN l G
 rw[he]at hex;simp only[dL]at hex;have dl:((l.length:Int)==0)=false:=agv;refine acn Tryz.func273 51 [.cell 4 30,.tmp 5] fun hwf=>?_
 simp only[go_sem,dL,bJ];intro i4 h4;simp only[go_sem,acd,dl];refine(hex _).pthen ?_;simp only[go_sem,acd];obtain⟨H0,eH⟩:∃H0,upd h i4 (some (.obj [.i 0,.i 0,.s []] 30))=H0:=⟨_,rfl⟩;have hH0:Ab.Sub h H0:=by rw[←eH];exact .ak h4
 have g4:H0 i4=some (.obj [.i 0,.i 0,.s []] 30):=adR;rw[eH];clear eH;refine .intro (fun m ρ H=>∃(i:Nat) (y:AV) (st:List js) (bs:List Bool),OwE 364 H0 H 5 y (st.map bQ)∧Ab.Sub H0 H∧(l.take i).foldl (zn gs) []=st∧fQ [] (l.take i)=some bs∧bs.length=st.length∧(∀x∈st,x.bag.length≤1000000)∧i≤l.length∧m=l.length - i∧lk ρ 1=some (.sl (gs.map kX) .no)∧lk ρ 4=some (.ptr i4 0)∧lk ρ 6=some y∧lk ρ 19=some (.sl (l.map cJ) .no)∧lk ρ 20=some (.i l.length)∧lk ρ 21=some (.i i)) l.length ?_ ?_
 ·refine⟨0,_,[],[],.inl ⟨rfl,rfl⟩,.refl _,rfl,rfl,rfl,fun x hx=>acp,aco,rfl,?_,?_,?_,?_,?_,?_⟩<;>simp only[go_sem]
 ·rintro m ρ H ⟨i,y,st,bs,hw,hsH,hfo,hbs,hlen,hbag,hi,rfl,r1,r4,r6,r19,r20,r21⟩
  have hsl:bs.length≤i:=by have:=rV _ _ _ hbs;simpa[Nat.min_eq_left hi]using this
  simp only[go_sem,r20,r21];refine .intro (fun e=>?_) (fun e=>?_)
  ·have hlt:i<l.length:=ack e
   have w1:IntKind.i64.wrap ((i:Int)+1)=((i+1:Nat):Int):=acE;obtain⟨bs',hb1,hb2⟩:=Ou hst hlt hbs;have hfs:(l.take (i+1)).foldl (zn gs) []=zn gs st l[i]:=by grind [List.take_succ_eq_append_getElem]
   have ix:=fun k=>fc.eq (xs:=l.map cJ) (sz:=7) i acp acz k
   rw[ace]at ix;obtain⟨n,en⟩:∃n,l[i]=n:=⟨_,rfl⟩;rw[en]at hb1 hfs ix;obtain⟨hop,hle,hln⟩:=JJ hb1;rw[hlen]at hle;obtain⟨k,ek⟩:∃k,st.length - opsOf n.op=k:=⟨_,rfl⟩;have wk:IntKind.i64.wrap ((st.length:Int) - (opsOf n.op:Int))=(k:Int):=acE;have hstep:zn gs st n=st.take k++ [lf gs n (st.drop k)]:=by grind [zn]
   simp only[cJ]at ix;simp only[go_sem,r19,r21,ix];intro i8 h8;obtain⟨H8,eH⟩:∃H8,upd H i8 (some (.obj [.i n.op,.i n.val.kind,.i n.val.n,.s n.val.s,.i n.attr.cat,.s n.attr.name,.b n.attr.must] 229))=H8:=⟨_,rfl⟩;have hs8:Ab.Sub H H8:=by rw[←eH];exact .ak h8
   have k8:H8 i8=some (.obj [.i n.op,.i n.val.kind,.i n.val.n,.s n.val.s,.i n.attr.cat,.s n.attr.name,.b n.attr.must] 229):=adR;have hw8:=hw.sub hs8;simp only[go_sem,r6,hw8.rd.len,acd];refine(Fg n.op _).pthen ?_;rw[eH];clear eH;simp only[go_sem,wk];refine .calls (hm1 i8 (.obj [.i n.op,.i n.val.kind,.i n.val.n,.s n.val.s,.i n.attr.cat,.s n.attr.name,.b n.attr.must] 229)) [0,1,2,3,4,5,6,7,8,9,10,11] (.hm1 k8) acs rfl ?_;simp only[go_sem,r6];refine hw8.cut (U:=U) (x:=.i64) k acF rfl acp acF acr fun z hz hzy=>?_
   simp only[go_sem,r6,fW];refine hw8.from (U:=U) (x:=.i64) k acF rfl acp acF acr fun z2 hz2=>?_
   rw[←List.map_drop]at hz2;rw[←List.map_take]at hz;have hnd:=N3 n hop (st.drop k) hz2 acp (fun x hx=>hbag x (List.mem_of_mem_drop hx)) gs hf
   have hnb:=LK hf n (st.drop k);obtain⟨x,ex⟩:∃x,lf gs n (st.drop k)=x:=⟨_,rfl⟩;rw[ex]at hnd hnb hstep;simp only[cJ,bJ,bQ]at hnd;simp only[go_sem,r1];refine hnd.pthen ?_;refine⟨.hm1 k8,?_⟩;simp only[go_sem];have hone:Rd H8 5 (.sl [bQ x] .full) [bQ x]:=.sl (fun z hz=>afh) .full
   simp only[bQ]at hone;refine OwE.app (U:=U) (tb:=364) hz (hsH.trans hs8) hone acF acr acr acF acw acI fun id y' H' hid hor how hoth=>?_
   have n8:i8≠id:=by
    intro e8;rcases hor with ho|⟨lz,cz,ez⟩
    ·grind
    ·exact lO (hz.nid (id:=id) (by rw[ez];rfl)).2.2 k8 acr e8.symm
   have hsub' :Ab.Sub H0 H' :=fun j b hj=>by rw[hoth j (fun e=>acp)];exact(hsH.trans hs8) _ _ hj
   refine⟨.hm1 acp,?_⟩;simp only[go_sem,r21,w1];refine⟨_,?_,i+1,y',zn gs st n,bs',.inr ⟨id,hid,by rw[hstep,List.map_append];exact how⟩,hsub',hfs,hb2,acp,fun w hw=>?_,aco,rfl,?_,?_,?_,?_,?_,?_⟩
   ·omega
   ·grind
   all_goals simp only[go_sem,r1,r4,r19,r20]
  ·have hge:i=l.length:=by grind
   subst hge;rw[List.take_length]at hbs hfo;rw[hst]at hbs;cases hbs;obtain⟨x,rfl⟩:=List.length_eq_one_iff.1 hlen.symm;have hit:we gs l=x:=by simp_all [we,if_neg]
   obtain⟨id,hid,how⟩:=hw.ow acw;have hwp:Rd (pick H [id]) 5 y [bQ x]:=(how.same (bC (List.mem_singleton.2 rfl))).rd;have n4:i4≠id:=fun e=>acp
   have k4:=hsH _ _ g4;simp only[go_sem];refine .calls (pick H [id]) [0,1,2,3,4,5,6,7,8,9] bx acs rfl ?_;simp only[go_sem,r6];refine hwp.idx (U:=U) (e:=364) 0 rfl acw acF acr fun p hp1=>?_
   simp only[go_sem];refine hp1.field (f:=1) (off:=1) (t:=30) rfl acr fun p2 hp2=>?_
   have hld:=hp2.part (U:=U) (ty:=30) acr aeO;simp only[List.getElem_cons_zero,bQ,AV.cells]at hld;simp only[go_sem,r6,hld];refine hwp.idx (U:=U) (e:=364) 0 rfl acw acF acr fun p3 hp3=>?_
   simp only[go_sem];refine hp3.field (f:=2) (off:=4) (t:=23) rfl acr fun p4 hp4=>?_
   have hld4:=hp4.part (U:=U) (ty:=23) acr aeO;simp only[List.getElem_cons_zero,bQ,AV.cells]at hld4;simp only[go_sem,r4,hld4,k4];refine⟨bx.put (by grind [pick]) _,?_⟩
   exact .mk _ (.refl _) ((hH0.trans hsH).put h4 _) ⟨by rw[hit];rfl,rfl⟩
theorem Nq(l:List aM)(he:jY l=0)(gs:List bp)(hf:rI gs)(h:Heap):ai Tryz.prog 246 [dL l,bJ gs] h fun r h' =>r= .i (qp gs l:Nat)∧h' =h:=by
 by_cases hn:l= []
 ·subst hn
  refine acn Tryz.func246 26 [.tmp 4] fun hwf=>?_
  simp only[go_sem,dL,bJ,List.map_nil,List.length_nil];exact acD
 have hv:=fun G=>KU l hn he gs hf G
 have hcd:qp gs l=if isI (we gs l) 1 then 2 else if isI (we gs l) 0 then 0 else 1:=by
  simp_all [qp,if_neg]
 obtain⟨x,ex⟩:∃x,we gs l=x:=⟨_,rfl⟩;rw[ex]at hv hcd;simp only[dL,bJ,T9,aU]at hv;have hi1:∀(m:Int) G,ai Tryz.prog 274 [.agg [.sl [] .full,.i x.v.kind,.i x.v.n,.s x.v.s,.i x.e],.i m] G fun r h' =>r= .b (isI x m)∧h' =G:=fun m G=>NL x m G
 have dl:((l.length:Int)==0)=false:=agv;refine acn Tryz.func246 26 [.tmp 4] fun hwf=>?_
 simp only[go_sem,dL,bJ,acd,dl];refine(hv _).pthen ?_;simp only[go_sem];intro i5 h5;simp only[go_sem];intro i7 h7;have n7:=aC h7;have hs:∀x y,Ab.Sub h (upd (upd h i5 x) i7 y):=fun x y=>((Sub.refl h).put h5 x).put n7 y
 simp only[go_sem];refine(hi1 1 _).pthen ?_;cases d1:isI x 1
 case true=>
  rw[d1]at hcd;simp only[go_sem];exact .mk _ (.refl _) (hs _ _) ⟨by rw[hcd];rfl,rfl⟩
 simp only[go_sem];refine(hi1 0 _).pthen ?_;cases d0:isI x 0
 all_goals
  rw[d1,d0]at hcd;simp only[go_sem];exact .mk _ (.refl _) (hs _ _) ⟨by rw[hcd];rfl,rfl⟩
end Go.Proofs.YtcochaoekecfdaaGreatDoor
