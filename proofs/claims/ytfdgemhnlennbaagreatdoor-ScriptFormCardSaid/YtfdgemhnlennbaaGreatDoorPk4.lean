/- The law ScriptForm: pack 4 of its texts. -/
import Derived.Lib.AtoiAll
import Derived.Shelf.Small.Strs
import Derived.Shelf.Small.Wraps
import Derived.Shelf.Strconv.AtoiAll
import Derived.Shelf.Strconv.ErrVarAll
import Derived.Shelf.Strings.Search1
import Derived.Test.YtfdgemhnlennbaaGreatDoorProg
import Derived.KernelRfl
import Derived.WalkKit
import Derived.BigCall
import Derived.Test.YtfdgemhnlennbaaGreatDoorPk1
import Derived.Test.YtfdgemhnlennbaaGreatDoorPk2
import Derived.Test.YtfdgemhnlennbaaGreatDoorPk3
set_option linter.unusedSimpArgs false
set_option linter.unusedVariables false
set_option maxRecDepth 100000
namespace Go.Ab
open Go
theorem pg{A B C X:List AV}{k m:Nat}(hk:k=A.length)(hm:m=X.length)(h:X.length=B.length):(A++(B++C)).take k++X++(A++(B++C)).drop (k+m)=A++(X++C):=by
 grind
theorem HG{A B C X:List AV}{k1 k2 k3 k4:Nat}(h1:k1=A.length+X.length)(h2:k2=k1+B.length)(h3:k3=A.length)(h4:k4=k3+X.length)(hc:X.length≤C.length):
  List.take k3 (List.take k1 (A++(B++C))++B++List.drop k2 (A++(B++C)))++X++List.drop k4 (List.take k1 (A++(B++C))++B++List.drop k2 (A++(B++C)))=A++(X++(B++C.drop X.length)):=by
 subst h1;subst h2;subst h3;subst h4
 have e1:List.take (A.length+X.length) (A++(B++C))=A++List.take X.length (B++C):=ac1;have e2:List.drop (A.length+X.length+B.length) (A++(B++C))=C.drop X.length:=by
  grind [Nat.add_assoc,List.drop_drop,List.drop_left,Nat.add_comm]
 rw[e1,e2,List.append_assoc A];have e3:(List.take X.length (B++C)).length=X.length:=by rw[List.length_take,acU];omega
 have e4:A++(List.take X.length (B++C)++B++List.drop X.length C)=A++(List.take X.length (B++C)++(B++C.drop X.length)):=ac7;rw[List.append_assoc A,e4];exact pg rfl rfl e3.symm
theorem HI{A Z R X B:List AV}{k1 k2 k3 k4:Nat}(h1:k1=A.length)(h2:k2=k1+X.length)(h3:k3=A.length+X.length)(h4:k4=k3+B.length)(hz:Z.length=X.length+B.length):
  List.take k3 (List.take k1 (A++Z++R)++X++List.drop k2 (A++Z++R))++B++List.drop k4 (List.take k1 (A++Z++R)++X++List.drop k2 (A++Z++R))=A++(X++(B++R)):=by
 subst h1;subst h2;subst h3;subst h4
 obtain⟨Z1,Z2,rfl,e1⟩:∃Z1 Z2,Z=Z1++Z2∧Z1.length=X.length:=⟨Z.take X.length,Z.drop X.length,(List.take_append_drop _ _).symm,ac1⟩;have e2:Z2.length=B.length:=ac1;have e3:A++(Z1++Z2)++R=A++(Z1++(Z2++R)):=ac7;rw[e3,pg rfl rfl e1.symm,←List.append_assoc A X,pg ac7 rfl e2.symm,List.append_assoc]
end Go.Ab
namespace Go.Proofs.YtfdgemhnlennbaaGreatDoor
open Go Go.Ab Go.Bf
theorem JU{h:Heap}{v:AV}{id off len cap:Nat}{cs:List AV}{t:TypeId}(hv:v.cells.length=5)(hid:h id=some (.obj cs t))(hcs:cs≠ []):ai Tryz.prog 170 [.sl [v] .full,.ob id off len cap 5] h fun r h' =>r= .b false∧h' =h:=
 wN (U:=U) (tS:=51) (tR:=4) (e:=122) hU Tryz.func170 adg adg adg ac3 adg ac4 (by simp only[go_sem];omega) ac7 hid hcs
theorem F1(y:AV)(xs:List AV)(v:AV)(i:Nat)(h0 h:Heap)(hw:OwE 122 h0 h 5 y xs)(hs0:Ab.Sub h0 h)(hi:i≤xs.length)(hl:xs.length≤1000000)(hv:v.cells.length=5)(hva:fit v 5):
  ai Tryz.prog 116 [y,.i i,.sl [v] .full] h fun r h' =>OwE 122 h0 h' 5 r (xs.take i++([v]++xs.drop i))∧(∀k,h k≠none→nid y≠some k→h' k=h k)∧∀k,nid r=some k→h k=none∨nid y=some k:=by
 rcases hw with⟨rfl,rfl⟩|⟨id,hg,cap,rest,rfl,hid,hr,hc,hsz⟩
 ·obtain rfl:i=0:=by simpa using hi
  refine acZ Tryz.func116 95 [.tmp 6] fun hwf=>?_
  simp -implicitDefEqProofs only[go_sem];refine⟨ac0,ac0,hv,.ob ada (j9.ow (xs:=[v]) aeY agr rfl fun id y' h' hid hw ho=>?_)⟩
  have hw' :Ow 122 h' 5 id y' [v]:=af4;simp -implicitDefEqProofs only[go_sem];refine .same (.refl _) ⟨.inr ⟨id,hs0.none hid,hw'⟩,fun k hk _=>ho k (fun e=>hk (by rw[e];exact hid)),fun k hk=>?_⟩
  rw[show ax [y']=y' from rfl,hw'.nid]at hk
  cases hk;exact .inl hid
 ·have how:OwE 122 h0 h 5 (.ob id 0 xs.length cap 5) xs:=.inr ⟨id,hg,cap,rest,rfl,hid,hr,hc,hsz⟩
  have hfl:=aY hsz;refine acZ Tryz.func116 95 [.tmp 6] fun hwf=>?_
  simp -implicitDefEqProofs only[go_sem];refine⟨ac0,ac0,?_⟩;cases d1:((i:Int)==(xs.length:Int))
  case true=>
   have hin:i=xs.length:=by
    have:(i:Int)=(xs.length:Int):=af2;omega
   simp -implicitDefEqProofs only[go_sem];subst hin;refine⟨ac0,?_⟩;refine OwE.app (U:=U) (tb:=122) how hs0 (.sl afR .full:Rd h 5 (.sl [v] .full) [v]) ada ac4 ac5 ada ac7 afq fun id2 y' h' g2 hor hw ho=>?_
   simp -implicitDefEqProofs only[go_sem];have e1:xs.take xs.length++([v]++xs.drop xs.length)=xs++ [v]:=ac7;refine .same (.refl _) ⟨by have:OwE 122 h0 h' 5 y' (xs++ [v]):=.inr ⟨id2,g2,hw⟩;rw[←e1]at this;exact this,fun k hk hk2=>ho k fun e=>?_,fun k hk=>?_⟩
   ·rcases hor with hor|⟨l,c,ey⟩
    ·exact hk agY
    ·cases ey
     exact hk2 agQ
   ·exact aiq
  have hne:i<xs.length:=by
   have:¬(i:Int)=(xs.length:Int):=af2;omega
  have wn:IntKind.i64.wrap ((xs.length:Int)+1)=((xs.length+1:Nat):Int):=adx;have wi:=acW i ac0;have wm:IntKind.i64.wrap (((xs.length+1:Nat):Int) - (i:Int))=((xs.length+1 - i:Nat):Int):=adx;have f1:au xs=au (xs.take i)++au (xs.drop i):=agq;have f2:(au (xs.take i)).length=i*5:=by rw[aY (sz:=5) fun z hz=>hsz z (List.mem_of_mem_take hz),List.length_take,Nat.min_eq_left hi]
  have f3:(au (xs.drop i)).length=(xs.length - i)*5:=by rw[aY (sz:=5) fun z hz=>hsz z (List.mem_of_mem_drop hz),List.length_drop]
  have f4:au (xs.take i++([v]++xs.drop i))=au (xs.take i)++(v.cells++au (xs.drop i)):=agr;have f5:Sized 5 (xs.take i++([v]++xs.drop i)):=fun z hz=>by
   exact ahX
  have f6:(xs.take i++([v]++xs.drop i)).length=xs.length+1:=adH;have f6' :(xs.take i++v::xs.drop i).length=xs.length+1:=f6;cases d2:decide ((cap:Int)<((xs.length+1:Nat):Int))
  ·have e2:=acT d2
   simp -implicitDefEqProofs only[go_sem,wn,d2];refine⟨ac0,?_⟩;simp -implicitDefEqProofs only[go_sem,wi];have hcs:au xs++rest≠ []:=by
    intro e;have:=congrArg List.length e;rw[acU,hfl]at this;simp at this;omega
   refine⟨ac0,ac0,ac0,ac0,ac0,ac0,?_⟩;refine(JU hv hid hcs).pthen ?_;simp -implicitDefEqProofs only[go_sem];refine .calls cR [0,1,2,3,4,5,6,7,8] (fun _ _ e=>ads) ac3 rfl ?_
   simp -implicitDefEqProofs only[go_sem,wi,hid,Nat.sub_zero];have hmin:min (xs.length+1 - i) (xs.length+1 - (i+1))=xs.length - i:=ac0;refine⟨ac0,ac0,ac0,ac0,ac0,ac0,xs.drop i,afJ,afz, ?q1,fun z hz=>hsz z (List.mem_of_mem_drop hz),aez,by rw[acU,hfl,hr];omega,agM,ac0,ac0,ac0,hv,ac0, ?ln, ?fin⟩
   case q1=>rw[hmin,f1,List.append_assoc,←f2,List.drop_left,←f3,List.take_left]
   case ln=>simp only[acU,List.length_take,List.length_drop,hfl,hr,f3];omega
   have hrl:(5:Nat)≤rest.length:=by rw[hr];omega
   have hfv:au [v]=v.cells:=agr;have key:=HG (A:=au (xs.take i)) (B:=au (xs.drop i)) (C:=rest) (X:=au [v]) (k1:=(i+1)*5) (k2:=(i+1)*5+(au (xs.drop i)).length) (k3:=i*5) (k4:=i*5+(au [v]).length) agz rfl f2.symm rfl (by rw[hfv,hv];exact hrl)
   rw[←List.append_assoc (au (xs.take i)) (au (xs.drop i)) rest,←f1]at key;rw[key];have e8:au (xs.take i)++(au [v]++(au (xs.drop i)++rest.drop (au [v]).length))=au (xs.take i++([v]++xs.drop i))++rest.drop 5:=by rw[f4,hfv,hv];simp only[List.append_assoc]
   rw[e8];refine .same (.refl _) ⟨.inr ⟨id,hg,cap,rest.drop 5,by rw[←f6];rfl,ah _ _ _,by rw[List.length_drop,hr,f6'];omega,aeE,f5⟩,fun k hk hk2=>ag _ _ fun e=>hk2 agQ,fun k hk=> .inr hk⟩
  ·have e2:=acS d2
   simp -implicitDefEqProofs only[go_sem,wn,d2,wm];refine⟨ac0,?_⟩;simp -implicitDefEqProofs only[go_sem,hid];have eA:List.take (i*5) (au xs++rest)=au (xs.take i):=by rw[f1,List.append_assoc,←f2,List.take_left]
   refine⟨ac0,ac0,ac0,ac0,ac0,ac0,by rw[acU,hfl];omega,?_⟩
   rw[Nat.sub_zero,eA];obtain⟨Z,eZ⟩:∃Z,cJ (AV.agg [AV.s [],AV.s [],AV.s [],AV.sl [] Perm.full,AV.sl [] Perm.full]) (xs.length+1 - i) 5=Z:=⟨_,rfl⟩;have lZ:Z.length=(xs.length+1 - i)*5:=by rw[←eZ];simp[cJ]
   rw[eZ];intro id2 cap2 rest2 hid2 hc2 hr2;have hx:¬id=id2:=fun e=>by rw[e,hid2]at hid;cases hid
   simp -implicitDefEqProofs only[go_sem];have hfv:au [v]=v.cells:=agr;refine⟨ac0,ac0,ac0,hv,ac0,afc,?_⟩;refine .calls cR [0,1,2,3,4,5,6,7,8] (fun _ _ e=>ads) ac3 rfl ?_
   simp -implicitDefEqProofs only[go_sem,wi,hid,hx,Nat.sub_zero];have hmin:min (xs.length - i) (i+(xs.length+1 - i) - (i+1))=xs.length - i:=ac0;have l0:(au (xs.take i)++Z++rest2).length=(i+(xs.length+1 - i))*5+(cap2 - (i+(xs.length+1 - i)))*5:=afc;refine⟨ac0,ac0,ac0,ac0,ac0,ac0,xs.drop i,afJ,afz, ?q2,fun z hz=>hsz z (List.mem_of_mem_drop hz),aez, ?lm,agM, ?fim⟩
   case q2=>rw[hmin,f1,List.append_assoc,←f2,List.drop_left,←f3,List.take_left]
   case lm=>rw[hfv];simp only[acU,List.length_take,List.length_drop,l0,hv];omega
   rw[HI f2.symm rfl agz rfl (by rw[hfv,hv,lZ,f3];omega)]
   have e8:au (xs.take i)++(au [v]++(au (xs.drop i)++rest2))=au (xs.take i++([v]++xs.drop i))++rest2:=by rw[f4,hfv];simp only[List.append_assoc]
   rw[e8];have e9:i+(xs.length+1 - i)=xs.length+1:=ac0;rw[e9]at hr2 hc2⊢;refine .same (.refl _) ⟨.inr ⟨id2,hs0.none hid2,cap2,rest2,by rw[←f6];rfl,ah _ _ _,by rw[hr2,f6'],by rw[f6'];omega,f5⟩,fun k hk hk2=>ag _ _ fun e=>hk (by rw[e];exact hid2),fun k hk=> .inl (by cases hk;exact hid2)⟩
theorem Gn{h:Heap}{v:AV}{id off len cap:Nat}{cs:List AV}{t:TypeId}(hv:v.cells.length=4)(hid:h id=some (.obj cs t))(hcs:cs≠ []):ai Tryz.prog 219 [.sl [v] .full,.ob id off len cap 4] h fun r h' =>r= .b false∧h' =h:=
 wN (U:=U) (tS:=119) (tR:=4) (e:=201) hU Tryz.func219 adg adg adg ac3 adg ac4 (by simp only[go_sem];omega) ac7 hid hcs
theorem DF(y:AV)(xs:List AV)(v:AV)(i:Nat)(h0 h:Heap)(hw:OwE 201 h0 h 4 y xs)(hs0:Ab.Sub h0 h)(hi:i≤xs.length)(hl:xs.length≤1000000)(hv:v.cells.length=4)(hva:fit v 4):
  ai Tryz.prog 173 [y,.i i,.sl [v] .full] h fun r h' =>OwE 201 h0 h' 4 r (xs.take i++([v]++xs.drop i))∧(∀k,h k≠none→nid y≠some k→h' k=h k)∧∀k,nid r=some k→h k=none∨nid y=some k:=by
 rcases hw with⟨rfl,rfl⟩|⟨id,hg,cap,rest,rfl,hid,hr,hc,hsz⟩
 ·obtain rfl:i=0:=by simpa using hi
  refine acZ Tryz.func173 95 [.tmp 6] fun hwf=>?_
  simp -implicitDefEqProofs only[go_sem];refine⟨ac0,ac0,hv,.ob ada (j9.ow (xs:=[v]) aeY agr rfl fun id y' h' hid hw ho=>?_)⟩
  have hw' :Ow 201 h' 4 id y' [v]:=af4;simp -implicitDefEqProofs only[go_sem];refine .same (.refl _) ⟨.inr ⟨id,hs0.none hid,hw'⟩,fun k hk _=>ho k (fun e=>hk (by rw[e];exact hid)),fun k hk=>?_⟩
  rw[show ax [y']=y' from rfl,hw'.nid]at hk
  cases hk;exact .inl hid
 ·have how:OwE 201 h0 h 4 (.ob id 0 xs.length cap 4) xs:=.inr ⟨id,hg,cap,rest,rfl,hid,hr,hc,hsz⟩
  have hfl:=aY hsz;refine acZ Tryz.func173 95 [.tmp 6] fun hwf=>?_
  simp -implicitDefEqProofs only[go_sem];refine⟨ac0,ac0,?_⟩;cases d1:((i:Int)==(xs.length:Int))
  case true=>
   have hin:i=xs.length:=by
    have:(i:Int)=(xs.length:Int):=af2;omega
   simp -implicitDefEqProofs only[go_sem];subst hin;refine⟨ac0,?_⟩;refine OwE.app (U:=U) (tb:=201) how hs0 (.sl afR .full:Rd h 4 (.sl [v] .full) [v]) ada ac4 ac5 ada ac7 afq fun id2 y' h' g2 hor hw ho=>?_
   simp -implicitDefEqProofs only[go_sem];have e1:xs.take xs.length++([v]++xs.drop xs.length)=xs++ [v]:=ac7;refine .same (.refl _) ⟨by have:OwE 201 h0 h' 4 y' (xs++ [v]):=.inr ⟨id2,g2,hw⟩;rw[←e1]at this;exact this,fun k hk hk2=>ho k fun e=>?_,fun k hk=>?_⟩
   ·rcases hor with hor|⟨l,c,ey⟩
    ·exact hk agY
    ·cases ey
     exact hk2 agQ
   ·exact aiq
  have hne:i<xs.length:=by
   have:¬(i:Int)=(xs.length:Int):=af2;omega
  have wn:IntKind.i64.wrap ((xs.length:Int)+1)=((xs.length+1:Nat):Int):=adx;have wi:=acW i ac0;have wm:IntKind.i64.wrap (((xs.length+1:Nat):Int) - (i:Int))=((xs.length+1 - i:Nat):Int):=adx;have f1:au xs=au (xs.take i)++au (xs.drop i):=agq;have f2:(au (xs.take i)).length=i*4:=by rw[aY (sz:=4) fun z hz=>hsz z (List.mem_of_mem_take hz),List.length_take,Nat.min_eq_left hi]
  have f3:(au (xs.drop i)).length=(xs.length - i)*4:=by rw[aY (sz:=4) fun z hz=>hsz z (List.mem_of_mem_drop hz),List.length_drop]
  have f4:au (xs.take i++([v]++xs.drop i))=au (xs.take i)++(v.cells++au (xs.drop i)):=agr;have f5:Sized 4 (xs.take i++([v]++xs.drop i)):=fun z hz=>by
   exact ahX
  have f6:(xs.take i++([v]++xs.drop i)).length=xs.length+1:=adH;have f6' :(xs.take i++v::xs.drop i).length=xs.length+1:=f6;cases d2:decide ((cap:Int)<((xs.length+1:Nat):Int))
  ·have e2:=acT d2
   simp -implicitDefEqProofs only[go_sem,wn,d2];refine⟨ac0,?_⟩;simp -implicitDefEqProofs only[go_sem,wi];have hcs:au xs++rest≠ []:=by
    intro e;have:=congrArg List.length e;rw[acU,hfl]at this;simp at this;omega
   refine⟨ac0,ac0,ac0,ac0,ac0,ac0,?_⟩;refine(Gn hv hid hcs).pthen ?_;simp -implicitDefEqProofs only[go_sem];refine .calls cR [0,1,2,3,4,5,6,7,8] (fun _ _ e=>ads) ac3 rfl ?_
   simp -implicitDefEqProofs only[go_sem,wi,hid,Nat.sub_zero];have hmin:min (xs.length+1 - i) (xs.length+1 - (i+1))=xs.length - i:=ac0;refine⟨ac0,ac0,ac0,ac0,ac0,ac0,xs.drop i,afJ,afz, ?q1,fun z hz=>hsz z (List.mem_of_mem_drop hz),aez,by rw[acU,hfl,hr];omega,agM,ac0,ac0,ac0,hv,ac0, ?ln, ?fin⟩
   case q1=>rw[hmin,f1,List.append_assoc,←f2,List.drop_left,←f3,List.take_left]
   case ln=>simp only[acU,List.length_take,List.length_drop,hfl,hr,f3];omega
   have hrl:(4:Nat)≤rest.length:=by rw[hr];omega
   have hfv:au [v]=v.cells:=agr;have key:=HG (A:=au (xs.take i)) (B:=au (xs.drop i)) (C:=rest) (X:=au [v]) (k1:=(i+1)*4) (k2:=(i+1)*4+(au (xs.drop i)).length) (k3:=i*4) (k4:=i*4+(au [v]).length) agz rfl f2.symm rfl (by rw[hfv,hv];exact hrl)
   rw[←List.append_assoc (au (xs.take i)) (au (xs.drop i)) rest,←f1]at key;rw[key];have e8:au (xs.take i)++(au [v]++(au (xs.drop i)++rest.drop (au [v]).length))=au (xs.take i++([v]++xs.drop i))++rest.drop 4:=by rw[f4,hfv,hv];simp only[List.append_assoc]
   rw[e8];refine .same (.refl _) ⟨.inr ⟨id,hg,cap,rest.drop 4,by rw[←f6];rfl,ah _ _ _,by rw[List.length_drop,hr,f6'];omega,aeE,f5⟩,fun k hk hk2=>ag _ _ fun e=>hk2 agQ,fun k hk=> .inr hk⟩
  ·have e2:=acS d2
   simp -implicitDefEqProofs only[go_sem,wn,d2,wm];refine⟨ac0,?_⟩;simp -implicitDefEqProofs only[go_sem,hid];have eA:List.take (i*4) (au xs++rest)=au (xs.take i):=by rw[f1,List.append_assoc,←f2,List.take_left]
   refine⟨ac0,ac0,ac0,ac0,ac0,ac0,by rw[acU,hfl];omega,?_⟩
   rw[Nat.sub_zero,eA];obtain⟨Z,eZ⟩:∃Z,cJ (AV.agg [AV.s [],AV.v (Value.int IntKind.i64 0),AV.v (Value.int IntKind.i64 0),AV.s []]) (xs.length+1 - i) 4=Z:=⟨_,rfl⟩;have lZ:Z.length=(xs.length+1 - i)*4:=by rw[←eZ];simp[cJ]
   rw[eZ];intro id2 cap2 rest2 hid2 hc2 hr2;have hx:¬id=id2:=fun e=>by rw[e,hid2]at hid;cases hid
   simp -implicitDefEqProofs only[go_sem];have hfv:au [v]=v.cells:=agr;refine⟨ac0,ac0,ac0,hv,ac0,afc,?_⟩;refine .calls cR [0,1,2,3,4,5,6,7,8] (fun _ _ e=>ads) ac3 rfl ?_
   simp -implicitDefEqProofs only[go_sem,wi,hid,hx,Nat.sub_zero];have hmin:min (xs.length - i) (i+(xs.length+1 - i) - (i+1))=xs.length - i:=ac0;have l0:(au (xs.take i)++Z++rest2).length=(i+(xs.length+1 - i))*4+(cap2 - (i+(xs.length+1 - i)))*4:=afc;refine⟨ac0,ac0,ac0,ac0,ac0,ac0,xs.drop i,afJ,afz, ?q2,fun z hz=>hsz z (List.mem_of_mem_drop hz),aez, ?lm,agM, ?fim⟩
   case q2=>rw[hmin,f1,List.append_assoc,←f2,List.drop_left,←f3,List.take_left]
   case lm=>rw[hfv];simp only[acU,List.length_take,List.length_drop,l0,hv];omega
   rw[HI f2.symm rfl agz rfl (by rw[hfv,hv,lZ,f3];omega)]
   have e8:au (xs.take i)++(au [v]++(au (xs.drop i)++rest2))=au (xs.take i++([v]++xs.drop i))++rest2:=by rw[f4,hfv];simp only[List.append_assoc]
   rw[e8];have e9:i+(xs.length+1 - i)=xs.length+1:=ac0;rw[e9]at hr2 hc2⊢;refine .same (.refl _) ⟨.inr ⟨id2,hs0.none hid2,cap2,rest2,by rw[←f6];rfl,ah _ _ _,by rw[hr2,f6'],by rw[f6'];omega,f5⟩,fun k hk hk2=>ag _ _ fun e=>hk (by rw[e];exact hid2),fun k hk=> .inl (by cases hk;exact hid2)⟩
end Go.Proofs.YtfdgemhnlennbaaGreatDoor
namespace Go.Ab
open Go
noncomputable def pick (H:Heap) (l:List Nat):Heap:=fun j=>if j∈l then H j else none
theorem bC{H:Heap}{l:List Nat}{j:Nat}(hj:j∈l):pick H l j=H j:=if_pos hj
theorem iM{H h' :Heap}{l:List Nat}(hs:∀j∈l,h' j=H j):Sub (pick H l) h' :=fun j b hb=>by
 simp_all [bC,pick,if_neg]
theorem bR{H:Heap}{l:List Nat}:Sub (pick H l) H:=iM fun _ _=>rfl
end Go.Ab
namespace Go.Proofs.YtfdgemhnlennbaaGreatDoor
open Go Go.Ab Go.Bf
def cg(c:aL)(f l:AV):List AV:=[.s c.id,.s c.owner,.s c.state,f,l]
theorem sD{h0 h:Heap}{s:an}(y1 y2 y3 y4:AV){k o:Nat}{A B:List AV}{t:TypeId}{c:aL}{f l:AV}(ho:o=A.length)(hk:h k=some (.obj (A++(cg c f l++B)) t))(ht:t≠191)
  (hlo:OwE 191 h0 h 3 l (c.log.map iJ)) (hs0:Ab.Sub h0 h) (hll:c.log.length≤1000000) (actor what:Txt):
  ai Tryz.prog 115 [.agg ([.i s.tick,y1,y2,y3,y4]++fX s.policy++ [.i s.version]),.ptr k o,.s actor,.s what] h fun r h' =>∃l',OwE 191 h0 h' 3 l' ((c.log++ [(⟨s.tick,actor,what⟩:xO)]).map iJ)∧h' k=some (.obj (A++(cg c f l' ++B)) t)∧(∀j,h j≠none→j≠k→nid l≠some j→h' j=h j)∧∀j,nid l' =some j→h j=none∨nid l=some j:=by
 cases hpp:s.policy with
 |mk pid pset palg ptgt prules pkids pobls=>
 have hcC:fX (.mk pid pset palg ptgt prules pkids pobls)= [.s pid,.b pset,.i palg,aV ptgt,.sl (prules.map aC) .no,.sl (pkids.map aM) .no,aA pobls]:=af6;refine acZ Tryz.func115 22 [] fun hwf=>?_
 simp only[go_sem,hcC,List.cons_append,List.nil_append];intro i1 h1;simp only[go_sem];obtain⟨H,eH⟩:∃H,upd h i1 (some (.obj [.i s.tick,y1,y2,y3,y4,.s pid,.b pset,.i palg,aV ptgt,.sl (prules.map aC) .no,.sl (pkids.map aM) .no,aA pobls,.i s.version] 63))=H:=⟨_,rfl⟩;have n1k:k≠i1:=fun e=>by rw[e,h1]at hk;cases hk
 have g1:H i1=some (.obj [.i s.tick,y1,y2,y3,y4,.s pid,.b pset,.i palg,aV ptgt,.sl (prules.map aC) .no,.sl (pkids.map aM) .no,aA pobls,.i s.version] 63):=aeu;have gk:H k=some (.obj (A++(cg c f l++B)) t):=by rw[←eH,ag _ _ n1k];exact hk
 have hH:Ab.Sub h H:=by rw[←eH];exact(Sub.refl h).put h1 _
 have hoj:∀j,j≠i1→H j=h j:=fun j hj=>by rw[←eH];exact ag _ _ hj
 rw[eH];clear eH;refine .stage (hm2 k (.obj (A++(cg c f l++B)) t) i1 (.obj [.i s.tick,y1,y2,y3,y4,.s pid,.b pset,.i palg,aV ptgt,.sl (prules.map aC) .no,.sl (pkids.map aM) .no,aA pobls,.i s.version] 63)) [0,1,2,3,4,5,6,7,8,9,10,11,12,13] [14] (.hm2 gk g1) ac3 ?_;have hc4:(A++(cg c f l++B))[o+4]? =some l:=aeS;obtain⟨CS,eCS⟩:∃CS,A++(cg c f l++B)=CS:=⟨_,rfl⟩;rw[eCS]at hc4 gk⊢;simp only[go_sem,rH,rG _ _ n1k,hc4];have hap1:Rd H 3 (.sl [iJ ⟨s.tick,actor,what⟩] .full) [iJ ⟨s.tick,actor,what⟩]:=.sl adO .full;refine OwE.app (U:=U) (tb:=191) (hlo.sub hH) (hs0.trans hH) hap1 ada ac4 ac5 ada ac7 adA fun id2 y' h' g2 hor hw ho2=>?_
 have hor' :H id2=none∨nid l=some id2:=by
  exact ahP
 have k2:k≠id2:=by
  rcases hor' with hor|hor
  ·exact fun e=>by rw[←e,gk]at hor;cases hor
  ·exact(lV ((hlo.sub hH).nid hor).2.2 gk ht).symm
 have i2:i1≠id2:=by
  rcases hor' with hor|hor
  ·exact fun e=>by rw[←e,g1]at hor;cases hor
  ·exact fun e=>(hlo.nid hor).2.1 (by rw[←e];exact h1)
 have gk' :=(ho2 k k2).trans gk;have gi' :=(ho2 i1 i2).trans g1;refine⟨.hm2 gk' gi',?_⟩;simp only[go_sem];refine⟨cR,(fun _ _ e=>ads),?_⟩
 simp only[go_sem,gk',hw.rd.fit,hw.rd.cells];have lCS:CS.length=A.length+(5+B.length):=by rw[←eCS];simp[cg];omega
 have e5:List.take (o+4) CS++ [y']++List.drop (o+4+1) CS=A++(cg c f y' ++B):=by
  have:=pg (A:=A++ [.s c.id,.s c.owner,.s c.state,f]) (B:=[l]) (C:=B) (X:=[y']) (k:=o+4) (m:=1) (by rw[ho];simp) rfl rfl
  exact aiN
 rw[e5];refine⟨ac0,(fun _ _ e=>ads),.same (.refl _) ⟨y',?_,ah ..,fun j hj hjk hjl=>?_,fun j hj=>?_⟩⟩
 ·have hw' :Ow 191 (upd h' k (some (.obj (A++(cg c f y' ++B)) t))) 3 id2 y' (c.log.map iJ++ [iJ ⟨s.tick,actor,what⟩]):=hw.same (ag _ _ k2.symm)
  rw[List.map_append];exact .inr ⟨id2,g2,hw'⟩
 ·have hj2:j≠id2:=by
   rcases hor' with hor|hor
   ·intro e
    have:=hoj j (fun e' =>hj (by rw[e'];exact h1))
    rw[e,hor]at this;exact hj (by rw[e];exact this.symm)
   ·exact fun e=>hjl agY
  have hj1:j≠i1:=fun e=>hj (by rw[e];exact h1)
  rw[ag _ _ hjk,ho2 j hj2,hoj j hj1]
 ·have:id2=j:=by have:=hw.nid;rw[hj]at this;exact(Option.some.inj this).symm
  rw[←this];rcases hor' with hor|hor
  ·refine .inl ?_
   cases hh:h id2 with
   |none=>rfl
   |some b=>rw[hH _ _ hh]at hor;cases hor
  ·exact .inr hor
theorem Kz{h:Heap}(f:dj){k:Nat}{name:Txt}(hk:h k=some (.obj [.s name] 9)):ai Tryz.prog 172 [bM f,.ptr k 0] h fun r h' =>r= .b (geB f.name name)∧h' =h:=by
 refine acZ Tryz.func172 8 [.tmp 3] fun hwf=>?_
 simp only[go_sem,bM];exact ahv
theorem GW{fs:List dj}{name:Txt}{v:br}(hx:¬fs.findIdx (fun f=>geB f.name name)<fs.length):fh fs name v=fs++ [⟨name,v⟩]:=by
 grind [fh,List.getElem?_eq_none,geB]
theorem zP{fs:List dj}{name:Txt}{v:br}(hx:fs.findIdx (fun f=>geB f.name name)<fs.length)(he:fs[fs.findIdx (fun f=>geB f.name name)].name=name):fh fs name v=fs.set (fs.findIdx (fun f=>geB f.name name)) ⟨name,v⟩:=by
 simp_all [fh,List.getElem?_eq_getElem,if_true]
theorem GX{fs:List dj}{name:Txt}{v:br}(hx:fs.findIdx (fun f=>geB f.name name)<fs.length)(he:fs[fs.findIdx (fun f=>geB f.name name)].name≠name):fh fs name v=fs.take (fs.findIdx (fun f=>geB f.name name))++ [⟨name,v⟩]++fs.drop (fs.findIdx (fun f=>geB f.name name)):=by
 simp_all [fh,List.getElem?_eq_getElem,if_false]
theorem Nw{h0 h:Heap}{k o:Nat}{A B:List AV}{t:TypeId}{c:aL}{f l:AV}(ho:o=A.length)(hk:h k=some (.obj (A++(cg c f l++B)) t))(ht:t≠201)
  (hfo:OwE 201 h0 h 4 f (c.fields.map bM)) (hs0:Ab.Sub h0 h) (hff:c.fields.length≤1000000) (name:Txt) (v:br):
  ai Tryz.prog 117 [.ptr k o,.s name,aQ v] h fun r h' =>∃f',OwE 201 h0 h' 4 f' ((fh c.fields name v).map bM)∧h' k=some (.obj (A++(cg c f' l++B)) t)∧(∀j,h j≠none→j≠k→nid f≠some j→h' j=h j)∧∀j,nid f' =some j→h j=none∨nid f=some j:=by
 have hc3:(A++(cg c f l++B))[o+3]? =some f:=aeS;have lCS:(A++(cg c f l++B)).length=A.length+(5+B.length):=by simp[cg];omega
 have e5:∀y',List.take (o+3) (A++(cg c f l++B))++ [y']++List.drop (o+3+1) (A++(cg c f l++B))=A++(cg c y' l++B):=fun y' =>by
  have:=pg (A:=A++ [.s c.id,.s c.owner,.s c.state]) (B:=[f]) (C:=l::B) (X:=[y']) (k:=o+3) (m:=1) (by rw[ho];simp) rfl rfl
  exact aiW
 obtain⟨CS,eCS⟩:∃CS,A++(cg c f l++B)=CS:=⟨_,rfl⟩;rw[eCS]at hc3 hk lCS e5;refine acZ Tryz.func117 60 [] fun hwf=>?_
 simp only[go_sem,aQ];intro i1 h1;simp only[go_sem];intro i2 h2;have n21:=aH h2;have n2:=aB h2;have nk1:k≠i1:=fun e=>by rw[e,h1]at hk;cases hk
 have nk2:k≠i2:=fun e=>by rw[e,n2]at hk;cases hk
 obtain⟨H,eH⟩:∃H,upd (upd h i1 (some (.obj [.s name] 9))) i2 (some (.obj [.i v.kind,.i v.n,.s v.s] 33))=H:=⟨_,rfl⟩;have g1:H i1=some (.obj [.s name] 9):=aeC;have g2:H i2=some (.obj [.i v.kind,.i v.n,.s v.s] 33):=aeu;have gk:H k=some (.obj CS t):=by rw[←eH,ag _ _ nk2,ag _ _ nk1];exact hk
 have hH:Ab.Sub h H:=ad1;have hoj:∀j,h j≠none→H j=h j:=fun j hj=>by rw[←eH,ag _ _ (fun e=>hj (by rw[e];exact n2)),ag _ _ (fun e=>hj (by rw[e];exact h1))]
 rw[eH];clear eH;simp only[go_sem,gk,hc3];refine(yJ f _ c.fields (fun f=>geB f.name name) _ [.ptr i1 0] _ (hfo.sub hH).rd ac7 adH (oR (fun _=>rfl) _) fun i a b=>by
  rw[acR];exact Kz _ g1).pthen ?_
 have hns:∀G,Ab.Sub cR G:=fun G _ _ e=>ads
 by_cases hx:c.fields.findIdx (fun f=>geB f.name name)<c.fields.length
 ·obtain⟨i,ei⟩:∃i,c.fields.findIdx (fun f=>geB f.name name)=i:=⟨_,rfl⟩
  have hxm:i<(c.fields.map bM).length:=by rw[←ei];simpa using hx
  have e1:ixD (fun f=>geB f.name name) c.fields=(i:Nat):=by rw[ixD,ei];exact if_pos (by rw[←ei];exact hx)
  have d1:decide (((i:Nat):Int)<0)=false:=decide_eq_false ac0;rw[e1];simp only[go_sem,d1];refine⟨.of ac3,?_⟩;simp only[go_sem,gk,hc3];refine(hfo.sub hH).rd.idx (e:=201) i rfl hxm GQ ac4 fun p hp1=>?_
  simp only[go_sem];refine hp1.field (f:=0) (off:=0) (t:=9) rfl Kt fun p2 hp2=>?_
  have hld:=hp2.part (U:=U) (ty:=9) Kt (by rw[acR,Nl];exact acP rfl)
  simp only[go_sem,hld,acR,bM,g1];have hxi:i<c.fields.length:=by rw[←ei];exact hx
  cases d2:(c.fields[i].name==name)
  ·have hne:c.fields[i].name≠name:=by simpa using d2
   simp only[go_sem];refine .stage (pick H [k,i1,i2]) [0,1,2,3,4,5,6,7,8,9,10,11,12] [13] bR ac3 ?_;simp only[go_sem,bC (show k∈ [k,i1,i2] by simp),bC (show i1∈ [k,i1,i2] by simp),bC (show i2∈ [k,i1,i2] by simp),gk,g1,g2,hc3]
   refine(DF f _ (bM ⟨name,v⟩) i h0 H (hfo.sub hH) (hs0.trans hH) ac0 (by simpa using hff) rfl (by simp[bM,Ab.fit])).mono fun f' H1 ⟨w1,fr,ap⟩=>?_
   have nk:nid f≠some k:=fun e=>lV ((hfo.sub hH).nid e).2.2 gk ht rfl
   have n1' :nid f≠some i1:=fun e=>(hfo.nid e).2.1 h1
   have n2' :nid f≠some i2:=fun e=>(hfo.nid e).2.1 n2
   have gk' :H1 k=some (.obj CS t):=(fr k (by rw[gk];simp) nk).trans gk
   refine⟨iM fun j hj=>?_,?_⟩
   ·simp only[List.mem_cons,List.not_mem_nil,or_false]at hj
    rcases hj with rfl|rfl|rfl
    ·exact fr _ (by rw[gk];simp) nk
    ·exact fr _ (by rw[g1];simp) n1'
    ·exact fr _ (by rw[g2];simp) n2'
   simp only[go_sem];refine⟨cR,hns _,?_⟩;simp only[go_sem,gk',w1.rd.fit,w1.rd.cells];have hk2:nid f'≠some k:=fun e=>by
    rcases ap k e with h|h
    ·rw[gk]at h;cases h
    ·exact nk h
   have em:List.take i (c.fields.map bM)++([bM ⟨name,v⟩]++List.drop i (c.fields.map bM))=(fh c.fields name v).map bM:=by
    rw[GX hx (by simp only[ei];exact hne),ei]
    simp[List.map_append,List.map_take,List.map_drop]
   rw[e5];rw[em]at w1;refine⟨ac0,hns _,.same (.refl _) ⟨f',w1.keep fun id e=>ag _ _ fun e' =>hk2 (by rw[←e'];exact e),ah ..,fun j hj hjk hjl=>?_,fun j hj=>?_⟩⟩
   ·rw[ag _ _ hjk,fr j (by rw[hoj j hj];exact hj) hjl,hoj j hj]
   ·rcases ap j hj with h|h
    ·exact .inl (hH.none h)
    ·exact .inr h
  ·have heq:c.fields[i].name=name:=by simpa using d2
   simp only[go_sem];refine⟨.of ac3,?_⟩;simp only[go_sem,gk,g2,hc3];obtain⟨id1,hg1,o1⟩:=(hfo.sub hH).ow (by intro e;rw[e]at hxm;cases hxm)
   have t1:id1≠k:=lV o1 gk ht;have o1' :=o1;obtain⟨cap,rest,ey,hid,hr,hcap,hsz⟩:=o1';refine o1.idx (U:=U) (e:=201) i rfl hxm GQ ac4 ?_;simp only[go_sem,hid];have hxl:=acR (f:=bM) (l:=c.fields) (i:=i) (h:=hxm);have e2:List.take (i*4+1) (au (c.fields.map bM)++rest)++ [.i v.kind,.i v.n,.s v.s]++List.drop (i*4+1+3) (au (c.fields.map bM)++rest)=au ((fh c.fields name v).map bM)++rest:=by
    refine(lC hsz i hxm 1 [.i v.kind,.i v.n,.s v.s] (acP rfl)).trans ?_;rw[zP hx (by simp only[ei];exact heq),ei,List.map_set,hxl]
    have:AV.agg (over (bM c.fields[i]).cells 1 [.i v.kind,.i v.n,.s v.s])=bM ⟨name,v⟩:=by rw[←heq];rfl
    rw[this]
   have lw:(fh c.fields name v).length=c.fields.length:=by rw[zP hx (by simp only[ei];exact heq),List.length_set]
   rw[e2];refine⟨by rw[acU,aY hsz];omega,.same (.refl _) ⟨f,.inr ⟨id1,hg1,cap,rest,by rw[ey];simp[lw],ah ..,by rw[hr];simp[lw],by rw[acQ]at hcap⊢;omega,bw (f:=bM) (n:=4) (fun _=>rfl) _⟩,(ag _ _ t1.symm).trans (by rw[eCS];exact gk),fun j hj hjk hjl=>?_,fun j hj=> .inr hj⟩⟩
   have:j≠id1:=fun e=>hjl (by rw[e];exact o1.nid)
   rw[ag _ _ this,hoj j hj]
 ·have e1:ixD (fun f=>geB f.name name) c.fields= -1:=by rw[ixD];exact if_neg hx
  have d1:decide ((-1:Int)<0)=true:=rfl;rw[e1];simp only[go_sem,d1];refine .stage (pick H [k,i1,i2]) [0,1,2,3,4,5,6,7,8,9,10,11] [12] bR ac3 ?_;simp only[go_sem,bC (show k∈ [k,i1,i2] by simp),bC (show i1∈ [k,i1,i2] by simp),bC (show i2∈ [k,i1,i2] by simp),gk,g1,g2,hc3]
  have hap1:Rd H 4 (.sl [bM ⟨name,v⟩] .full) [bM ⟨name,v⟩]:=.sl adO .full;refine OwE.app (U:=U) (tb:=201) (hfo.sub hH) (hs0.trans hH) hap1 ada ac4 ac5 ada ac7 adA fun id2 y' h' g3 hor hw ho2=>?_
  have hor' :H id2=none∨nid f=some id2:=by
   exact ahP
  have k2:k≠id2:=by
   rcases hor' with hor|hor
   ·exact fun e=>by rw[←e,gk]at hor;cases hor
   ·exact(lV ((hfo.sub hH).nid hor).2.2 gk ht).symm
  have j1:i1≠id2:=by
   rcases hor' with hor|hor
   ·exact fun e=>by rw[←e,g1]at hor;cases hor
   ·exact fun e=>(hfo.nid hor).2.1 (by rw[←e];exact h1)
  have j2:i2≠id2:=by
   rcases hor' with hor|hor
   ·exact fun e=>by rw[←e,g2]at hor;cases hor
   ·exact fun e=>(hfo.nid hor).2.1 (by rw[←e];exact n2)
  refine⟨iM fun j hj=>ho2 j ?_,?_⟩
  ·simp only[List.mem_cons,List.not_mem_nil,or_false]at hj
   rcases hj with rfl|rfl|rfl
   ·exact k2
   ·exact j1
   ·exact j2
  have gk' :=(ho2 k k2).trans gk;simp only[go_sem];refine⟨cR,hns _,?_⟩;simp only[go_sem,gk',hw.rd.fit,hw.rd.cells];rw[e5,GW hx];refine⟨ac0,hns _,.same (.refl _) ⟨y',?_,ah ..,fun j hj hjk hjl=>?_,fun j hj=>?_⟩⟩
  ·have hw' :Ow 201 (upd h' k (some (.obj (A++(cg c y' l++B)) t))) 4 id2 y' (c.fields.map bM++ [bM ⟨name,v⟩]):=hw.same (ag _ _ k2.symm)
   rw[List.map_append];exact .inr ⟨id2,g3,hw'⟩
  ·have hj2:j≠id2:=by
    rcases hor' with hor|hor
    ·intro e
     have:=hoj j hj;rw[e,hor]at this;exact hj (by rw[e];exact this.symm)
    ·exact fun e=>hjl agY
   rw[ag _ _ hjk,ho2 j hj2,hoj j hj]
  ·have:id2=j:=by have:=hw.nid;rw[hj]at this;exact(Option.some.inj this).symm
   rw[←this];rcases hor' with hor|hor
   ·exact .inl (hH.none hor)
   ·exact .inr hor
theorem CZ{cs:List aL}{id:Txt}(h:bY cs id=true):bx cs id=cs[findD cs id]'(jG h):=by
 simp_all [bx,if_pos,List.getD_eq_getElem?_getD,List.getElem?_eq_getElem,jG]
theorem C0{cs:List aL}{id:Txt}(h:bY cs id=false):bx cs id=oO:=by
 simp_all [bx,if_neg]
theorem mu{g h:Heap}{p:Perm}:Frz g h (.sl [] p) (.sl [] .no):=.sl _ _ _ rfl ac0 ac7
theorem Dp{g h:Heap}(c:aL):Frz g h (cq c) (cq c):=.agg _ _ rfl fun j a b=>by
 rcases j with _|_|_|_|_|j
 ·exact adm
 ·exact adm
 ·exact adm
 ·exact .pure (show cL (gw c.fields)=true from bu (fun _=>rfl) c.fields)
 ·exact .pure (show cL (sI c.log)=true from bu (fun _=>rfl) c.log)
 ·simp[nw]at a;omega
theorem B1{h:Heap}{x:AV}{s:an}(hb:RdS h x s)(id:Txt)(hf:Few s):ai Tryz.prog 59 [x,.s id] h fun r h' =>r= .tup [cq (bx s.cases id),.b (bY s.cases id)]∧h' =h:=
 ai.freeze fun g hg _=>by
 replace hb:=hb.sub hg;have hb0:=hb;obtain⟨y1,y2,y3,y4,rfl,⟨xs,hc,hn,hcs⟩,h2,h3,h4⟩:=hb;cases hpp:s.policy with
 |mk pid pset palg ptgt prules pkids pobls=>
 have hcC:fX (.mk pid pset palg ptgt prules pkids pobls)= [.s pid,.b pset,.i palg,aV ptgt,.sl (prules.map aC) .no,.sl (pkids.map aM) .no,aA pobls]:=af6;rw[hpp,hcC]at hb0;refine acZ Tryz.func59 23 [.cell 4 122,.tmp 5] fun hwf=>?_
 simp only[go_sem,hcC,List.cons_append,List.nil_append];intro i1 h1;simp only[go_sem];intro i2 h2';have n21:=aH h2';have n2:=aB h2';simp only[go_sem,ak,n21.symm];have hs:∀a b,Ab.Sub g (upd (upd g i1 a) i2 b):=fun a b=>((Sub.refl g).put h1 a).put n2 b
 refine(Ca (hb0.sub (hs _ _)) id hf.cases).pthen ?_;cases d1:bY s.cases id
 ·simp only[go_sem]
  refine .mk _ (.refl _) (.refl _) ⟨hs _ _,.tup [.agg [.s [],.s [],.s [],.sl [] .no,.sl [] .no],.b false],.tup _ _ rfl fun i a b=>?_,by rw[C0 d1];rfl⟩
  rcases i with _|_|i
  ·refine .agg _ _ rfl fun j c d=>?_
   rcases j with _|_|_|_|_|j
   ·exact adm
   ·exact adm
   ·exact adm
   ·exact mu
   ·exact mu
   grind
  ·exact adm
  grind
 ·have hlt:=jG d1
  have hltx:findD s.cases id<xs.length:=ac0;obtain⟨f,l,ex,hfl,hlg⟩:=hcs _ hltx hlt;simp only[go_sem,ak,n21.symm];refine hc.idx (e:=122) (findD s.cases id) rfl hltx nN ac4 fun p hp1=>?_
  have hld:=fun a b=>(hp1.sub (hs a b)).all (U:=U) (ty:=122) ac4 (by rw[nN,ex];rfl) (by simp only[go_sem];rw[ex];rfl)
  simp only[go_sem,hld];refine(wO ((hcs _ hltx hlt).sub (hs _ _)) (hf.fields _ (acV hlt)) (hf.log _ (acV hlt))).pthen ?_;rw[←CZ d1];simp only[go_sem,cq,nw,gw,sI];refine .mk _ (.refl _) (.refl _) ⟨hs _ _,_,.tup _ _ rfl fun i a b=>?_,rfl⟩
  rcases i with _|_|i
  ·exact Dp _
  ·exact adm
  grind
theorem CA{h:Heap}{x:AV}{s:an}(hb:RdS h x s)(o:OpD)(hf:Few s):ai Tryz.prog 101 [x,opA o] h fun r h' =>r= .i (bX s o)∧h' =h:=by
 have hb0:=hb;obtain⟨y1,y2,y3,y4,rfl,⟨xs,hc,hn,hcs⟩,h2,h3,h4⟩:=hb;cases hpp:s.policy with
 |mk pid pset palg ptgt prules pkids pobls=>
 have hcC:fX (.mk pid pset palg ptgt prules pkids pobls)= [.s pid,.b pset,.i palg,aV ptgt,.sl (prules.map aC) .no,.sl (pkids.map aM) .no,aA pobls]:=af6;rw[hpp,hcC]at hb0;refine acZ Tryz.func101 67 [.tmp 4] fun hwf=>?_
 simp -implicitDefEqProofs only[go_sem,hcC,opA,opC,List.cons_append,List.nil_append];intro i1 h1;simp -implicitDefEqProofs only[go_sem];intro i2 h2';have n21:=aH h2';have n2:=aB h2';simp -implicitDefEqProofs only[go_sem,ak,n21.symm];have hs:∀a b,Ab.Sub h (upd (upd h i1 a) i2 b):=fun a b=>((Sub.refl h).put h1 a).put n2 b
 refine(B1 (hb0.sub (hs _ _)) o.case hf).pthen ?_;simp -implicitDefEqProofs only[go_sem,cq,nw,gw,sI];intro i3 h3';have n32:=aH h3';have h3b:=aB h3';have n31:=aH h3b;have n3:=aB h3b;have hs3:∀a b d,Ab.Sub h (upd (upd (upd h i1 a) i2 b) i3 d):=fun a b d=>(((Sub.refl h).put h1 a).put n2 b).put n3 d
 have hA:=(fun a b d=>Sub.trans (Sub.refl h) (hs3 a b d))
 simp -implicitDefEqProofs only[go_sem,ak,n32.symm];have hfl:(bx s.cases o.case).fields.length≤1000000000:=by
  unfold bx;split
  ·rename_i ht
   have hlt:=jG ht;rw[List.getD_eq_getElem?_getD,List.getElem?_eq_getElem hlt];exact Nat.le_trans (hf.fields _ (acV hlt)) ac4
  decide
 cases d1:bY s.cases o.case
 ·simp -implicitDefEqProofs only[go_sem]
  exact .mk _ (.refl _) (hs3 _ _ _) ⟨by simp only[bX,d1];rfl,rfl⟩
 ·simp -implicitDefEqProofs only[go_sem,ak,n32.symm]
  cases k3:(o.kind==3)
  ·have p3:o.kind≠3:=by grind
   simp -implicitDefEqProofs only[go_sem];cases k2:(o.kind==2)
   ·have p2:o.kind≠2:=by grind
    have k2n:(o.kind !=2)=true:=ac1;cases d256:decide ((256:Int)≤((bx s.cases o.case).log.length:Int))
    ·have p256:¬256≤(bx s.cases o.case).log.length:=by grind
     simp -implicitDefEqProofs only[go_sem,ak,n32.symm,acQ,k3,k2n,d256];cases k4:(o.kind==4)
     ·have p4:o.kind≠4:=by grind
      exact ahr
     ·have p4:o.kind=4:=by grind
      simp -implicitDefEqProofs only[go_sem,ak,n32.symm];refine(FQ _ _ _).pthen ?_;cases dfo:mJ (bx s.cases o.case).state o.to
      ·exact ahr
      ·exact ahr
    ·have p256:256≤(bx s.cases o.case).log.length:=by grind
     simp -implicitDefEqProofs only[go_sem,acQ,k2n,d256];exact .mk _ (.refl _) (hs3 _ _ _) ⟨aeI,rfl⟩
   ·have p2:o.kind=2:=by grind
    have k2n:(o.kind !=2)=false:=ac1;simp -implicitDefEqProofs only[go_sem,ak,n32.symm,k3,k2n];cases k4:(o.kind==4)
    ·have p4:o.kind≠4:=by omega
     exact ahr
    ·have p4:o.kind=4:=by grind
     omega
  ·have p3:o.kind=3:=by grind
   cases d16:decide ((16:Int)≤((bx s.cases o.case).fields.length:Int))
   ·have p16:¬16≤(bx s.cases o.case).fields.length:=by grind
    simp -implicitDefEqProofs only[go_sem,acQ,d16];exact ahi
   ·have p16:16≤(bx s.cases o.case).fields.length:=by grind
    simp -implicitDefEqProofs only[go_sem,ak,n32.symm,acQ,d16];refine(Dj (show RdC _ (.agg [.s (bx s.cases o.case).id,.s (bx s.cases o.case).owner,.s (bx s.cases o.case).state,AV.sl ((bx s.cases o.case).fields.map bM) .no,AV.sl ((bx s.cases o.case).log.map iJ) .no]) (bx s.cases o.case)from rdC _ _) o.field hfl).pthen ?_
    simp -implicitDefEqProofs only[go_sem,aQ];cases dv:((eP (bx s.cases o.case).fields o.field).kind==(0:Int) && ((eP (bx s.cases o.case).fields o.field).n==(0:Int) && (eP (bx s.cases o.case).fields o.field).s==([]:Txt)))
    ·have pv:eqV (eP (bx s.cases o.case).fields o.field) aq=false:=dv
     simp -implicitDefEqProofs only[go_sem];exact ahi
    ·have pv:eqV (eP (bx s.cases o.case).fields o.field) aq=true:=dv
     exact ahr
theorem Aj{h:Heap}{x:AV}{s:an}(hb:RdS h x s)(o:OpD)(hf:Few s)(h0:0<o.review)(hr:o.review≤9223372036854775807):ai Tryz.prog 102 [x,opA o] h fun r h' =>r= .i (fP s o)∧h' =h:=by
 obtain⟨y1,y2,y3,y4,rfl,⟨xs,hc,hn,hcs⟩,h2,h3,h4⟩:=hb;cases hpp:s.policy with
 |mk pid pset palg ptgt prules pkids pobls=>
 have hcC:fX (.mk pid pset palg ptgt prules pkids pobls)= [.s pid,.b pset,.i palg,aV ptgt,.sl (prules.map aC) .no,.sl (pkids.map aM) .no,aA pobls]:=af6;have hfr:=hf.reviews;refine acZ Tryz.func102 35 [.tmp 4] fun hwf=>?_
 simp only[go_sem,hcC,opA,opC,List.cons_append,List.nil_append];intro i1 h1;simp only[go_sem];intro i2 h2';have n21:=aH h2';have n2:=aB h2';have hs:∀a b,Ab.Sub h (upd (upd h i1 a) i2 b):=fun a b=>((Sub.refl h).put h1 a).put n2 b
 simp only[go_sem,ak,n21.symm,h2.len,acQ];obtain⟨n,en⟩:∃n:Nat,o.review=((n:Nat):Int)+1:=⟨(o.review - 1).toNat,ac0⟩;have e1:wQ s.reviews o.review=s.reviews[n]? :=by
  unfold wQ;rw[if_pos ac0,show(o.review - 1).toNat=n by omega]
 have w1:IntKind.i64.wrap (o.review - 1)=((n:Nat):Int):=adf;cases dlt:decide ((s.reviews.length:Int)<o.review)
 ·have hlt:n<s.reviews.length:=by grind
  have hgl:wQ s.reviews o.review=some s.reviews[n]:=ac1;simp only[go_sem,ak,n21.symm,w1];refine h2.idx (e:=135) n rfl ac1 adg ac4 fun p hp1=>?_
  simp only[go_sem];refine hp1.field (f:=6) (off:=6) (t:=4) rfl ac4 fun p2 hp2=>?_
  have hld:=fun a b=>(hp2.sub (hs a b)).part (U:=U) (ty:=4) ac4 (by rw[acR,show(U 4).sz=1 by rfl];exact acP rfl)
  simp only[go_sem,hld,acR,iO];cases dop:s.reviews[n].isOpen
  ·exact ahS
  ·simp only[go_sem,ak,n21.symm]
   refine⟨.of ac3,?_⟩;simp only[go_sem,w1];refine h2.idx (e:=135) n rfl ac1 adg ac4 fun p hp1=>?_
   simp only[go_sem];refine hp1.field (f:=2) (off:=2) (t:=9) rfl Kt fun p2 hp2=>?_
   have hld:=fun a b=>(hp2.sub (hs a b)).part (U:=U) (ty:=9) Kt (by rw[acR,Nl];exact acP rfl)
   simp only[go_sem,hld,acR,iO];cases dsu:(s.reviews[n].subj==o.subj)
   ·have psu:s.reviews[n].subj≠o.subj:=by grind
    exact ahS
   ·have psu:s.reviews[n].subj=o.subj:=by grind
    exact ahS
 ·have hge:¬n<s.reviews.length:=by grind
  have hgn:wQ s.reviews o.review=none:=ac1;exact ahS
theorem Ey{h:Heap}{x:AV}{s:an}(hb:RdS h x s)(o:OpD)(hf:Few s)(hr:i64 o.review)(ht:i64 s.tick):ai Tryz.prog 51 [x,opA o] h fun r h' =>r= .i (bL s o)∧h' =h:=by
 have hb0:=hb;have hfo:=xB o;have hrc:=fun(G:Heap) (hG:Ab.Sub h G)=>CA (hb.sub hG) o hf
 have hrl:=fun(G:Heap) (hG:Ab.Sub h G) (a:0<o.review)=>Aj (hb.sub hG) o hf a hr.2
 have hfi:=fun(G:Heap) (hG:Ab.Sub h G)=>Ca (hb.sub hG) o.case hf.cases
 have hha:=fun(G:Heap) (hG:Ab.Sub h G)=>FY (hb.sub hG) o.case o.field (Nat.le_trans hf.roles ac4)
 obtain⟨y1,y2,y3,y4,rfl,⟨xs,hc,hn,hcs⟩,h2,h3,h4⟩:=hb;cases hpp:s.policy with
 |mk pid pset palg ptgt prules pkids pobls=>
 have hcC:fX (.mk pid pset palg ptgt prules pkids pobls)= [.s pid,.b pset,.i palg,aV ptgt,.sl (prules.map aC) .no,.sl (pkids.map aM) .no,aA pobls]:=af6;rw[hpp,hcC]at hb0 hrc hrl hfi hha;simp only[opA,opC,List.cons_append,List.nil_append]at hfo hrc hrl hfi hha;refine acZ Tryz.func51 63 [.tmp 4] fun hwf=>?_
 simp only[go_sem,hcC,opA,opC,List.cons_append,List.nil_append];intro i1 h1;simp only[go_sem];intro i2 h2';have n21:=aH h2';have n2:=aB h2';have hs:∀a b,Ab.Sub h (upd (upd h i1 a) i2 b):=fun a b=>((Sub.refl h).put h1 a).put n2 b
 simp only[go_sem];refine(hfo _).pthen ?_;cases dform:cV o
 ·exact ahn
 ·simp only[go_sem]
  have hok:okD o=true:=by simp_all [cV,dK,Bool.and_eq_true]
  by_cases p1:o.kind=1
  ·have k1:(o.kind==1)=true:=by grind
   simp only[go_sem,ak,n21.symm,k1];refine(hfi _ (hs _ _)).pthen ?_;cases dth:bY s.cases o.case
   ·simp only[go_sem,ak,n21.symm,hc.len,hn]
    cases d64:decide ((64:Int)≤(s.cases.length:Int))
    ·have p64:¬64≤s.cases.length:=by grind
     exact ahn
    ·have p64:64≤s.cases.length:=by grind
     exact ahn
   ·exact ahn
  have k1:(o.kind==1)=false:=ac1;simp only[go_sem,k1]
  by_cases p2:o.kind=2
  ·have k2:(o.kind==2)=true:=by grind
   simp only[go_sem,ak,n21.symm,k2];refine(hrc _ (hs _ _)).pthen ?_;exact ahn
  have k2:(o.kind==2)=false:=ac1;simp only[go_sem,k2]
  by_cases p3:o.kind=3
  ·have k3:(o.kind==3)=true:=by grind
   simp only[go_sem,ak,n21.symm,k3];refine(hrc _ (hs _ _)).pthen ?_;exact ahn
  have k3:(o.kind==3)=false:=ac1;simp only[go_sem,k3]
  by_cases p4:o.kind=4
  ·have k4:(o.kind==4)=true:=by grind
   simp only[go_sem,ak,n21.symm,k4];refine(hrc _ (hs _ _)).pthen ?_;exact ahn
  have k4:(o.kind==4)=false:=ac1;simp only[go_sem,k4]
  by_cases p5:o.kind=5
  ·have k5:(o.kind==5)=true:=by grind
   simp only[go_sem,ak,n21.symm,k5];have hrv:0<o.review:=by grind [okD]
   refine(hrl _ (hs _ _) hrv).pthen ?_;exact ahn
  have k5:(o.kind==5)=false:=ac1;simp only[go_sem,k5]
  by_cases p6:o.kind=6
  ·have k6:(o.kind==6)=true:=by grind
   simp only[go_sem,ak,n21.symm,k6];simp only[go_sem,h4.len,acQ];cases d64:decide ((64:Int)≤(s.roles.length:Int))
   ·have p64:¬64≤s.roles.length:=by grind
    exact ahn
   ·have p64:64≤s.roles.length:=by grind
    simp only[go_sem,ak,n21.symm];refine(hha _ (hs _ _)).pthen ?_;cases dha:yC s.roles ⟨o.case,o.field⟩
    ·exact ahn
    ·exact ahn
  have k6:(o.kind==6)=false:=ac1;simp only[go_sem,k6]
  by_cases p8:o.kind=8
  ·have k8:(o.kind==8)=true:=by grind
   simp only[go_sem,ak,n21.symm,k8];have hrv:0<o.review∧o.review≤1099511627776:=by grind [okD]
   have w1:IntKind.i64.wrap (1099511627776 - o.review)=1099511627776 - o.review:=bh _ ac0;cases dt:decide (1099511627776 - o.review<s.tick)
   ·have pt:¬1099511627776 - o.review<s.tick:=acT dt
    simp only[go_sem,w1,dt];exact .mk _ (.refl _) (hs _ _) ⟨aey,rfl⟩
   ·have pt:1099511627776 - o.review<s.tick:=acS dt
    simp only[go_sem,w1,dt];exact .mk _ (.refl _) (hs _ _) ⟨aey,rfl⟩
  have k8:(o.kind==8)=false:=ac1;simp only[go_sem,k8];exact .mk _ (.refl _) (hs _ _) ⟨by have:¬(2≤o.kind∧o.kind≤4):=ac0;simp only[bL,dform,p1,p5,p6,p8,this,if_false,Bool.true_eq_false,ax],rfl⟩
end Go.Proofs.YtfdgemhnlennbaaGreatDoor
namespace Go.Bf
open Go Go.Ab
structure qi where
 kind:Int
 pos:Int
 n:Int
 s:Txt
def fB(t:qi):AV:=.agg [.i t.kind,.i t.pos,.i t.n,.s t.s]
def wrd(c:UInt8):Bool:=ltr c||dgt c||(c.toNat:Int)==95
def mY(l:Txt):Nat:=l.foldl (fun n c=>n*10+(c.toNat - 48)) 0
def eY(neg:Bool)(s:Txt):Int×Nat:=
 let d:=s.takeWhile dgt
 if d= []∨(1<d.length∧s.head? =some 48)then(0,0)else
 let v:Int:=if neg then -(mY d:Int)else(mY d:Int)
 if -9223372036854775808≤v∧v≤9223372036854775807 then(v,d.length)else(0,0)
def jH(s:Txt):Txt:=if bl (s.takeWhile wrd)then s.takeWhile wrd else []
def jI(c:UInt8):Int:=if dgt c then(c.toNat:Int) - 48 else if 97≤(c.toNat:Int)∧(c.toNat:Int)≤102 then(c.toNat:Int) - 87 else -1
def tT:Txt→Option UInt8
 |b::x::y::_=>if b=92∧0≤jI x∧0≤jI y∧tQ (UInt8.ofNat (16*jI x+jI y).toNat)=true then some (UInt8.ofNat (16*jI x+jI y).toNat)else none
 |_=>none
def ur:Nat→Txt→Nat→Txt→Txt×Nat
 |0,_,_,_=>([],0)
 |_+1,[],_,_=>([],0)
 |f+1,c::r,at_,out=>
  if c=34 then(if 64<out.length then([],0)else(out,at_+1))
  else if tQ c=false then ur f r (at_+1) (out++ [c])
  else match tT (c::r)with
   |some b=>ur f (r.drop 2) (at_+3) (out++ [b])
   |none=>([],0)
def zH(s:Txt):Txt×Nat:=ur s.length (s.drop 1) 1 []
def DW(c:UInt8):Bool:=c∈([123,125,40,41,46,44,59,61,60,62,33]:Txt)
def bQ(s:Txt):qi×Nat:=
 let c:=s.headD 0
 if ltr c then(⟨1,0,0,jH s⟩,(jH s).length)
 else if dgt c then(⟨2,0,(eY false s).1,[]⟩,(eY false s).2)
 else if c=45 then(⟨2,0,(eY true (s.drop 1)).1,[]⟩,if(eY true (s.drop 1)).1=0 then 0 else(eY true (s.drop 1)).2+1)
 else if c=64 then(⟨3,0,(eY false (s.drop 1)).1,[]⟩,if(eY false (s.drop 1)).2=0∨(eY false (s.drop 1)).1>1099511627776 then 0 else(eY false (s.drop 1)).2+1)
 else if c=35 then(⟨4,0,0,jH (s.drop 1)⟩,if jH (s.drop 1)= []then 0 else(jH (s.drop 1)).length+1)
 else if c=34 then(⟨5,0,0,(zH s).1⟩,(zH s).2)
 else if DW c then(⟨6,0,0,[c]⟩,1)
 else(⟨0,0,0,[]⟩,0)
inductive Lexed where
 |bad (e:Int) (at_:Int)
 |ok (l:List qi)
def qp(c:UInt8):Bool:=(c.toNat:Int)==32||(c.toNat:Int)==10
def tO:Nat→Txt→Nat→List qi→Lexed
 |0,_,at_,_=> .bad 5 at_
 |_+1,[],at_,out=> .ok (out++ [⟨7,at_,0,[]⟩])
 |f+1,c::r,at_,out=>
  if qp c then tO f r (at_+1) out
  else if(bQ (c::r)).2=0 then .bad 5 at_
  else tO f ((c::r).drop (bQ (c::r)).2) (at_+(bQ (c::r)).2) (out++ [{(bQ (c::r)).1 with pos:=at_}])
def qO(s:Txt):Lexed:=if s.length>4096 then .bad 6 4096 else tO (s.length+1) s 0 []
theorem j0(p:UInt8→Bool)(s:Txt):(s.takeWhile p).length≤s.length:=(List.takeWhile_prefix p).length_le
theorem rz(p:UInt8→Bool)(s:Txt):s.take (s.takeWhile p).length=s.takeWhile p:=by
 obtain⟨t,ht⟩:=List.takeWhile_prefix (l:=s) p
 grind
theorem pz(neg:Bool)(s:Txt):(eY neg s).2≤s.length:=by
 have:=j0 dgt s;unfold eY;simp only;split
 ·exact af9
 ·generalize (if neg=true then -(mY (s.takeWhile dgt):Int)else(mY (s.takeWhile dgt):Int))=v
  split
  ·exact adN
  ·exact af9
theorem uA(s:Txt):(jH s).length≤s.length:=by
 grind [j0,wrd,jH]
theorem D7{s:Txt}{b:UInt8}(h:tT s=some b):3≤s.length:=by
 match s,h with
 |_::_::_::_,_=>simp
theorem zI:∀(f:Nat) (r:Txt) (at_:Nat) (out:Txt),(ur f r at_ out).2≤at_+r.length
 |0,_,_,_=>by simp[ur]
 |_+1,[],_,_=>by simp[ur]
 |f+1,c::r,at_,out=>by
  simp only[ur];split
  ·grind
  ·split
   ·have:=zI f r (at_+1) (out++ [c]);simp only[List.length_cons];omega
   ·split
    ·rename_i b hb
     have h3:=D7 hb;have:=zI f (r.drop 2) (at_+3) (out++ [b]);simp only[List.length_cons,List.length_drop]at this h3⊢;omega
    ·simp
theorem so(s:Txt)(hs:s≠ []):(bQ s).2≤s.length:=by
 have h1:1≤s.length:=ac1;have hd:(s.drop 1).length=s.length - 1:=ac7;have k1:=uA s;have k2:=uA (s.drop 1);have k3:=pz false s;have k4:=pz false (s.drop 1);have k5:=pz true (s.drop 1);have k6:=zI s.length (s.drop 1) 1 [];unfold bQ;simp only;split
 ·exact k1
 split
 ·exact k3
 split
 ·simp only;split<;>omega
 split
 ·simp only;split<;>omega
 split
 ·simp only;split<;>omega
 split
 ·simp only[zH];omega
 split
 ·simp only;omega
 ·simp
structure PS where
 ts:List qi
 pos:Nat
 rules:Nat
 bad:Int
 place:Int
def aJ(st:PS):qi:=st.ts.getD st.pos ⟨7,0,0,[]⟩
def bG(st:PS)(e p:Int):PS:=if st.bad=0 then {st with bad:=e,place:=p} else st
def bn(st:PS):PS:=bG st 5 (aJ st).pos
def bD(st:PS)(more:Bool):PS:=if more then bG st 6 (aJ st).pos else st
def isD(st:PS)(s:Txt):Bool:=st.bad==0 && ((aJ st).s==s && ((aJ st).kind==1||(aJ st).kind==6))
def bg(st:PS):PS:={st with pos:=st.pos+1}
def cp(st:PS)(s:Txt):Bool×PS:=if isD st s=true then(true,bg st)else(false,st)
def dV(st:PS)(s:Txt):PS:=if isD st s=true then bg st else bn st
def cm(st:PS):Txt×PS:=
 if(aJ st).kind=1∧st.bad=0 then((aJ st).s,bg st)else([],if(aJ st).kind=1 then st else bn st)
def u7(s:Txt):List Txt→Option Nat
 | []=>none
 |w::r=>if w=s then some 0 else(u7 s r).map (· +1)
def aW(st:PS)(ws:List Txt):Int×PS:=match u7 (aJ st).s ws with
 |some i=>if(aJ st).kind=1∧st.bad=0 then((i:Int)+1,bg st)else(0,bn st)
 |none=>(0,bn st)
def WfP(st:PS):Prop:=st.pos<st.ts.length∧(∀i (h:i<st.ts.length),st.ts[i].kind≠7→i+1<st.ts.length)∧st.ts.length≤5000
theorem DB{st:PS}(h:st.pos<st.ts.length):aJ st=st.ts[st.pos]:=by
 grind [aJ,List.getElem?_eq_getElem]
theorem Ky{st:PS}(e p:Int)(h:WfP st):WfP (bG st e p):=by
 unfold bG;split<;>exact h
theorem Nu{st:PS}(h:WfP st)(hk:(aJ st).kind≠7):WfP (bg st):=by
 rw[DB h.1]at hk;exact⟨h.2.1 _ h.1 hk,h.2⟩
theorem dH{st:PS}{s:Txt}(h:isD st s=true):(aJ st).kind≠7:=by
 simp only[isD,Bool.and_eq_true,Bool.or_eq_true,beq_iff_eq]at h;omega
def Ah(st st' :PS):Prop:=WfP st'∧st'.ts=st.ts∧st.pos≤st'.pos
theorem Ah.refl{st:PS}(h:WfP st):Ah st st:=⟨h,rfl,Nat.le_refl _⟩
theorem Ah.trans{a b c:PS}(x:Ah a b)(y:Ah b c):Ah a c:=⟨y.1,y.2.1.trans x.2.1,Nat.le_trans x.2.2 y.2.2⟩
theorem xS{st:PS}(e p:Int)(h:WfP st):Ah st (bG st e p):=⟨Ky e p h,by grind [bG],by unfold bG;grind⟩
theorem eU{st:PS}(h:WfP st)(hk:(aJ st).kind≠7):Ah st (bg st):=⟨Nu h hk,rfl,Nat.le_succ _⟩
theorem om{st:PS}(h:WfP st):Ah st (bn st):=xS _ _ h
theorem kX{st:PS}(b:Bool)(h:WfP st):Ah st (bD st b):=by
 unfold bD;split
 ·grind [xS]
 ·exact afn
theorem NT{st:PS}(s:Txt)(h:WfP st):Ah st (cp st s).2:=by
 unfold cp;split
 ·grind [eU,dH]
 ·exact afn
theorem jh{st:PS}(s:Txt)(h:WfP st):Ah st (dV st s):=by
 grind [dV,eU,dH,om]
theorem nj{st:PS}(h:WfP st):Ah st (cm st).2:=by
 unfold cm;split
 ·grind [eU]
 ·simp only;split
  ·exact afn
  grind [om]
theorem gA{st:PS}(ws:List Txt)(h:WfP st):Ah st (aW st ws).2:=by
 grind [aW,eU,om]
def vQ:List Txt:=[[115,117,98,106,101,99,116],[97,99,116,105,111,110],[99,97,115,101],[101,110,118]]
def fW(st:PS):qe×PS:=
 (⟨(aW st vQ).1,(cm (dV (aW st vQ).2 [46])).1,(cp (cm (dV (aW st vQ).2 [46])).2 [33]).1⟩,(cp (cm (dV (aW st vQ).2 [46])).2 [33]).2)
theorem BR{st:PS}(h:WfP st):Ah st (fW st).2:=by
 have h1:=gA vQ h;have h2:=jh [46] h1.1;have h3:=nj h2.1;exact((h1.trans h2).trans h3).trans (NT [33] h3.1)
def wZ:Txt:=[116,114,117,101]
def qC:Txt:=[102,97,108,115,101]
def fV(st:PS):br×PS:=
 if(aJ st).kind=2 then(⟨2,(aJ st).n,(aJ st).s⟩,st)
 else if(aJ st).kind=3 then(⟨4,(aJ st).n,(aJ st).s⟩,st)
 else if(aJ st).kind=4 then(⟨5,(aJ st).n,(aJ st).s⟩,st)
 else if(aJ st).kind=5 then(⟨3,(aJ st).n,(aJ st).s⟩,st)
 else if isD st wZ then(⟨1,1,[]⟩,st)
 else if isD st qC then(⟨1,0,[]⟩,st)
 else(⟨0,(aJ st).n,(aJ st).s⟩,bn st)
def aD(st:PS):br×PS:=if(fV st).2.bad=0 then((fV st).1,bg (fV st).2)else(⟨0,0,[]⟩,(fV st).2)
theorem rP(st:PS):(bn st).bad≠0:=by
 grind [bn,bG,Int]
theorem ux(st:PS):(fV st).2=st∧(aJ st).kind≠7∨(fV st).2=bn st:=by
 unfold fV;split
 ·grind
 split
 ·grind
 split
 ·grind
 split
 ·grind
 split
 ·rename_i h;exact .inl ⟨rfl,dH h⟩
 split
 ·rename_i h;exact .inl ⟨rfl,dH h⟩
 simp
theorem CP{st:PS}(h:WfP st):Ah st (aD st).2:=by
 unfold aD;rcases ux st with⟨e,hk⟩|e
 ·rw[e];split
  ·grind [eU]
  ·exact afn
 simp_all [if_neg,rP,om]
def opP(st:PS):Int×PS:=
 if isD st [61]then(1,bg st)else if isD st [60]then(2,bg st)else if isD st [62]then(3,bg st)else(0,bn st)
theorem T8{st:PS}(h:WfP st):Ah st (opP st).2:=by
 grind [opP,eU,dH,om]
def gx(st:PS):bO×PS:=(⟨(fW st).1,(opP (fW st).2).1,(aD (opP (fW st).2).2).1⟩,(aD (opP (fW st).2).2).2)
theorem qj{st:PS}(h:WfP st):Ah st (gx st).2:=by
 have h1:=BR h;have h2:=T8 h1.1;exact(h1.trans h2).trans (CP h2.1)
def fO{α:Type}(one:PS→α×PS)(w:Txt)(most:Nat):Nat→PS→List α→List α×PS
 |0,st,l=>(l,st)
 |f+1,st,l=>if isD st w=true then fO one w most f (bD (one (bg st)).2 (decide (most<l.length+1))) (l++ [(one (bg st)).1])else(l,st)
theorem td{α:Type}{one:PS→α×PS}(ho:∀st,WfP st→Ah st (one st).2)(w:Txt)(most:Nat):∀(f:Nat) (st:PS) (l:List α),WfP st→Ah st (fO one w most f st l).2
 |0,st,l,h=> .refl h
 |f+1,st,l,h=>by
  unfold fO;split
  ·rename_i hi
   have h1:=eU h (dH hi);have h2:=ho _ h1.1;have h3:=kX (decide (most<l.length+1)) h2.1;exact((h1.trans h2).trans h3).trans (td ho w most f _ _ h3.1)
  ·exact afn
def orT:Txt:=[111,114]
def CR:Txt:=[97,110,100]
def E2:Txt:=[119,104,101,110]
def pZ(st:PS):List bO×PS:=fO gx [44] 8 st.ts.length (gx st).2 [(gx st).1]
theorem BP{st:PS}(h:WfP st):Ah st (pZ st).2:=(qj h).trans (td (fun _ h=>qj h) _ _ _ _ _ (qj h).1)
def rR(st:PS):List (List bO)×PS:=
 let a:=pZ (dV st [40])
 let m:=fO pZ orT 8 st.ts.length a.2 [a.1]
 (m.1,dV m.2 [41])
theorem BQ{st:PS}(h:WfP st):Ah st (rR st).2:=by
 have h0:=jh [40] h;have h1:=BP h0.1;have h2:=td (fun _ h=>BP h) orT 8 st.ts.length _ [(pZ (dV st [40])).1] h1.1
 exact((h0.trans h1).trans h2).trans (jh [41] h2.1)
def gN(st:PS):ga×PS:=if isD st E2=true then fO rR CR 8 st.ts.length (rR (bg st)).2 [(rR (bg st)).1]else([],st)
theorem BV{st:PS}(h:WfP st):Ah st (gN st).2:=by
 unfold gN;split
 ·rename_i hi
  have h0:=eU h (dH hi);have h1:=BQ h0.1;exact(h0.trans h1).trans (td (by grind [BQ]) _ _ _ _ _ h1.1)
 ·exact afn
def lO:List Txt:=[[111,110,101],[115,105,122,101],[104,97,115],[101,113],[108,101,115,115],[97,100,100],[115,117,98],[109,117,108],[110,111,116],[97,110,100],[111,114]]
def opers(op:Int):List Bool:=if op=3∨op=4 then [true]else if op=5 then [true,false]else if op=11 then [false]else [false,false]
abbrev ExF:=PS→List aP→(List aP×Bool)×PS
def iq(ex:ExF)(st:PS)(l:List aP)(must:Bool):List aP×PS:=
 ((ex st l).1.1,if(ex st l).1.2=must then(ex st l).2 else bG (ex st l).2 5 (aJ st).pos)
def jr(ex:ExF):List Bool→PS→List aP→List aP×PS
 | [],st,l=>(l,st)
 |b::bs,st,l=>if st.bad=0 then jr ex bs (iq ex st l b).2 (iq ex st l b).1 else(l,st)
def qF(ex:ExF)(st:PS)(l:List aP):(List aP×aP)×PS:=
 (((jr ex (opers (2+(aW st lO).1)) (aW st lO).2 l).1,⟨2+(aW st lO).1,⟨0,0,[]⟩,⟨0,[],false⟩⟩),dV (jr ex (opers (2+(aW st lO).1)) (aW st lO).2 l).2 [41])
def ja(ex:ExF)(st:PS)(l:List aP):(List aP×aP)×PS:=
 if isD st [40]=true then qF ex (bg st) l
 else if(aJ st).kind=1∧(aJ st).s≠wZ∧(aJ st).s≠qC then((l,⟨2,⟨0,0,[]⟩,(fW st).1⟩),(fW st).2)
 else((l,⟨1,(aD st).1,⟨0,[],false⟩⟩),(aD st).2)
def eD:Nat→ExF
 |0,st,l=>((l,false),st)
 |f+1,st,l=>(((ja (eD f) st l).1.1++ [(ja (eD f) st l).1.2],(ja (eD f) st l).1.2.op==2),bD (ja (eD f) st l).2 (decide (32<(ja (eD f) st l).1.1.length+1)))
def E8(ex:ExF):Prop:=∀st l,WfP st→Ah st (ex st l).2∧(ex st l).1.1.length+2*st.pos≤l.length+2*(ex st l).2.pos+1
theorem za{ex:ExF}(he:E8 ex)(st:PS)(l:List aP)(b:Bool)(h:WfP st):Ah st (iq ex st l b).2∧(iq ex st l b).1.length+2*st.pos≤l.length+2*(iq ex st l b).2.pos+1:=by
 obtain⟨h1,h2⟩:=he st l h;unfold iq;split
 ·grind
 ·refine⟨h1.trans (xS _ _ h1.1),?_⟩
  grind [bG,aJ]
theorem Bb{ex:ExF}(he:E8 ex):∀(bs:List Bool) (st:PS) (l:List aP),WfP st→Ah st (jr ex bs st l).2∧(jr ex bs st l).1.length+2*st.pos≤l.length+2*(jr ex bs st l).2.pos+bs.length
 | [],st,l,h=>⟨.refl h,by simp[jr]⟩
 |b::bs,st,l,h=>by
  unfold jr;split
  ·obtain⟨h1,h2⟩:=za he st l b h
   obtain⟨h3,h4⟩:=Bb he bs (iq ex st l b).2 (iq ex st l b).1 h1.1;exact⟨h1.trans h3,ac1⟩
  ·exact⟨.refl h,ac7⟩
theorem Eb(op:Int):(opers op).length≤2:=by
 grind [opers]
theorem LG{ex:ExF}(he:E8 ex)(st:PS)(l:List aP)(h:WfP st):Ah st (qF ex st l).2∧(qF ex st l).1.1.length+2*st.pos≤l.length+2*(qF ex st l).2.pos+2:=by
 have h1:=gA lO h;obtain⟨h2,h3⟩:=Bb he (opers (2+(aW st lO).1)) _ l h1.1;have h4:=jh [41] h2.1;have:=Eb (2+(aW st lO).1);have p1:=h1.2.2;have p4:=h4.2.2;unfold qF;exact⟨(h1.trans h2).trans h4,ac1⟩
theorem DA{ex:ExF}(he:E8 ex)(st:PS)(l:List aP)(h:WfP st):Ah st (ja ex st l).2∧(ja ex st l).1.1.length+2*st.pos≤l.length+2*(ja ex st l).2.pos:=by
 unfold ja;split
 ·rename_i hi
  have h1:=eU h (dH hi);obtain⟨h2,h3⟩:=LG he _ l h1.1;have:(bg st).pos=st.pos+1:=rfl;exact⟨h1.trans h2,ac0⟩
 ·split
  ·have h1:=BR h
   have:=h1.2.2;exact⟨h1,ac1⟩
  ·have h1:=CP h
   have:=h1.2.2;exact⟨h1,ac1⟩
theorem qB:∀f,E8 (eD f)
 |0=>fun st l h=>⟨.refl h,by simp[eD]⟩
 |f+1=>fun st l h=>by
  obtain⟨h1,h2⟩:=DA (qB f) st l h;have h3:=kX (decide (32<(ja (eD f) st l).1.1.length+1)) h1.1;have:=h3.2.2;refine⟨h1.trans h3,?_⟩
  grind [eD,acU,List.length_singleton]
def vm:List Txt:=[[112,101,114,109,105,116],[100,101,110,121]]
def mG:List Txt:=[[108,111,103],[114,101,100,97,99,116],[114,101,118,105,101,119],[110,111,116,105,102,121]]
def wM:Txt:=[111,110]
def Ae(st:PS):cB×PS:=
 (⟨(aW st vm).1,(aW (aW st vm).2 mG).1,(cm (aW (aW st vm).2 mG).2).1⟩,(cm (aW (aW st vm).2 mG).2).2)
theorem KQ{st:PS}(h:WfP st):Ah st (Ae st).2:=by
 have h1:=gA vm h;have h2:=gA mG h1.1;exact(h1.trans h2).trans (nj h2.1)
def gr(st:PS):List cB×PS:=fO Ae wM 8 st.ts.length st []
theorem BT{st:PS}(h:WfP st):Ah st (gr st).2:=td (fun _ h=>KQ h) _ _ _ _ _ h
inductive Rch (a:PS):PS→Prop where
 |refl:Rch a a
 |wrong {b:PS} (e p:Int):Rch a b→(e=5∨e=6)→(∃i,i≤b.pos∧p=(b.ts.getD i ⟨7,0,0,[]⟩).pos)→Rch a (bG b e p)
 |next {b:PS}:Rch a b→b.bad=0→(aJ b).kind≠7→Rch a (bg b)
theorem Rch.trans{a b c:PS}(x:Rch a b)(y:Rch b c):Rch a c:=by
 induction y with
 |refl=>exact x
 |wrong e p _ h1 h2 ih=>grind [wrong]
 |next _ h1 h2 ih=>grind [next]
theorem kI(st:PS):Rch st (bn st):=.wrong _ _ .refl (.inl rfl) ⟨st.pos,Nat.le_refl _,rfl⟩
theorem rL(st:PS)(b:Bool):Rch st (bD st b):=by
 unfold bD;split
 ·exact .wrong _ _ .refl (.inr rfl) ⟨st.pos,Nat.le_refl _,rfl⟩
 ·exact afu
theorem HJ{st:PS}{s:Txt}(h:isD st s=true):st.bad=0:=by
 simp_all [isD,Bool.and_eq_true,beq_iff_eq]
theorem sP{st:PS}{s:Txt}(h:isD st s=true):Rch st (bg st):=.next .refl (HJ h) (dH h)
theorem MJ(st:PS)(s:Txt):Rch st (cp st s).2:=by
 unfold cp;split
 ·grind [sP]
 ·exact afu
theorem mR(st:PS)(s:Txt):Rch st (dV st s):=by
 grind [dV,sP,kI]
theorem uk(st:PS):Rch st (cm st).2:=by
 unfold cm;split
 ·rename_i h;exact .next .refl h.2 ac0
 ·simp only;split
  ·exact afu
  grind [kI]
theorem mC(st:PS)(ws:List Txt):Rch st (aW st ws).2:=by
 unfold aW;split
 ·split
  ·rename_i h;exact .next .refl h.2 ac0
  grind [kI]
 grind [kI]
theorem Er(st:PS):Rch st (fW st).2:=(((mC st vQ).trans (mR _ [46])).trans (uk _)).trans (MJ _ [33])
theorem Bm(st:PS):Rch st (aD st).2:=by
 unfold aD;rcases ux st with⟨e,hk⟩|e
 ·rw[e];split
  ·rename_i h;exact .next .refl h hk
  ·exact afu
 simp_all [if_neg,rP,kI]
theorem Si(st:PS):Rch st (opP st).2:=by
 grind [opP,sP,kI]
theorem Bk(st:PS):Rch st (gx st).2:=((Er st).trans (Si _)).trans (Bm _)
theorem qZ{α:Type}{one:PS→α×PS}(ho:∀st,Rch st (one st).2)(w:Txt)(most:Nat):∀(f:Nat) (st:PS) (l:List α),Rch st (fO one w most f st l).2
 |0,st,l=> .refl
 |f+1,st,l=>by
  unfold fO;split
  ·rename_i h
   exact(((sP h).trans (ho _)).trans (rL _ _)).trans (qZ ho w most f _ _)
  ·exact afu
theorem Ii(st:PS):Rch st (pZ st).2:=(Bk st).trans (qZ Bk _ _ _ _ _)
theorem Ij(st:PS):Rch st (rR st).2:=(((mR st [40]).trans (Ii _)).trans (qZ Ii orT 8 st.ts.length _ [(pZ (dV st [40])).1])).trans (mR _ [41])
theorem Ik(st:PS):Rch st (gN st).2:=by
 unfold gN;split
 ·rename_i h;exact((sP h).trans (Ij _)).trans (qZ Ij _ _ _ _ _)
 ·exact afu
theorem O4(st:PS):Rch st (Ae st).2:=((mC st vm).trans (mC _ mG)).trans (uk _)
theorem Ev(st:PS):Rch st (gr st).2:=qZ O4 _ _ _ _ _
theorem rM{a b:PS}(h:Rch a b):b.ts=a.ts∧a.pos≤b.pos∧b.rules=a.rules:=by
 induction h with
 |refl=>simp
 |wrong e p _ _ _ ih=>
  grind [bG]
 |next _ _ _ ih=>exact⟨ih.1,Nat.le_succ_of_le ih.2.1,ih.2.2⟩
theorem Ew{ex:ExF}(he:∀st l,Rch st (ex st l).2)(st:PS)(l:List aP)(b:Bool):Rch st (iq ex st l b).2:=by
 unfold iq;simp only;split
 ·grind
 ·have:=rM (he st l)
  exact .wrong _ _ (he st l) (.inl rfl) ⟨st.pos,this.2.1,by rw[this.1];rfl⟩
theorem Bl{ex:ExF}(he:∀st l,Rch st (ex st l).2):∀(bs:List Bool) (st:PS) (l:List aP),Rch st (jr ex bs st l).2
 | [],st,l=> .refl
 |b::bs,st,l=>by
  unfold jr;split
  ·exact(Ew he st l b).trans (Bl he bs _ _)
  ·exact afu
theorem Es:∀(f:Nat) (st:PS) (l:List aP),Rch st (eD f st l).2
 |0,st,l=> .refl
 |f+1,st,l=>by
  refine Rch.trans ?_ (rL _ _);unfold ja;split
  ·rename_i h
   exact(sP h).trans (((mC _ lO).trans (Bl (Es f) _ _ _)).trans (mR _ [41]))
  grind [Er,Bm]
def ifT:Txt:=[105,102]
def pH:Txt:=[112,101,114,109,105,116]
def iY:Txt:=[100,101,110,121]
def pI:Txt:=[112,111,108,105,99,121]
def Gx:Txt:=[115,101,116]
def mO:List Txt:=[pI,Gx]
def xT:List Txt:=[[100,101,110,121,111,118,101,114],[112,101,114,109,105,116,111,118,101,114],[102,105,114,115,116],[111,110,108,121],[100,101,110,121,117,110,108,101,115,115],[112,101,114,109,105,116,117,110,108,101,115,115]]
def qw(st:PS):List aP×PS:=if isD st ifT=true then iq (eD st.ts.length) (bg st) [] false else([],st)
theorem MI(st:PS):Rch st (qw st).2:=by
 unfold qw;split
 ·rename_i h;exact(sP h).trans (Ew (Es _) _ _ _)
 ·exact afu
theorem He{st:PS}(h:WfP st):Ah st (qw st).2:=by
 unfold qw;split
 ·rename_i hi
  have h1:=eU h (dH hi);exact h1.trans (za (qB _) _ _ _ h1.1).1
 ·exact afn
def pX(deny:Bool)(st:PS):cQ×PS:=
 (⟨(cm st).1,deny,(gN (cm st).2).1,(qw (gN (cm st).2).2).1,(gr (qw (gN (cm st).2).2).2).1⟩,dV (gr (qw (gN (cm st).2).2).2).2 [59])
theorem zp(deny:Bool)(st:PS):Rch st (pX deny st).2:=((((uk st).trans (Ik _)).trans (MI _)).trans (Ev _)).trans (mR _ [59])
theorem BU(deny:Bool){st:PS}(h:WfP st):Ah st (pX deny st).2:=by
 have h1:=nj h;have h2:=BV h1.1;have h3:=He h2.1;have h4:=BT h3.1;exact(((h1.trans h2).trans h3).trans h4).trans (jh [59] h4.1)
inductive nR (a:PS):PS→Prop where
 |refl:nR a a
 |small {b c:PS}:nR a b→Rch b c→nR a c
 |rule {b:PS}:nR a b→b.bad=0→b.rules≠64→(aJ b).kind≠7→nR a {bg b with rules:=b.rules+1}
theorem nR.trans{a b c:PS}(x:nR a b)(y:nR b c):nR a c:=by
 induction y with
 |refl=>exact x
 |small _ h1 ih=>grind [small]
 |rule _ h1 h2 h3 ih=>grind [rule]
theorem Rch.big{a b:PS}(h:Rch a b):nR a b:=.small .refl h
def jY:Nat→PS→List cQ→List cQ×PS
 |0,st,l=>(l,st)
 |f+1,st,l=>if isD st pH=true∨isD st iY=true then
   if l.length=16∨st.rules=64 then(l,bD st true)
   else jY f (pX (isD st iY) {bg st with rules:=st.rules+1}).2 (l++ [(pX (isD st iY) {bg st with rules:=st.rules+1}).1])
  else(l,st)
abbrev PoF:=PS→bH×PS
def jR(pol:PoF)(deep:Bool):Nat→PS→List bH→List bH×PS
 |0,st,l=>(l,st)
 |f+1,st,l=>if isD st pI=true∨isD st Gx=true then
   if l.length=16∨deep=true then(l,bD st true)
   else jR pol deep f (pol st).2 (l++ [(pol st).1])
  else(l,st)
def cW(st:PS):(Bool×Txt×Int×ga)×PS:=
 (((aW st mO).1==2,(cm (aW st mO).2).1,(aW (cm (aW st mO).2).2 xT).1,(gN (aW (cm (aW st mO).2).2 xT).2).1),dV (gN (aW (cm (aW st mO).2).2 xT).2).2 [123])
theorem Et(st:PS):Rch st (cW st).2:=((((mC st mO).trans (uk _)).trans (mC _ xT)).trans (Ik _)).trans (mR _ [123])
theorem NS{st:PS}(h:WfP st):Ah st (cW st).2:=by
 have h1:=gA mO h;have h2:=nj h1.1;have h3:=gA xT h2.1;have h4:=BV h3.1;exact(((h1.trans h2).trans h3).trans h4).trans (jh [123] h4.1)
def pS(pol:PoF)(deep:Bool)(set:Bool)(st:PS):(List cQ×List bH)×PS:=
 if set=true then(([],(jR pol deep 17 st []).1),(jR pol deep 17 st []).2)else(((jY 17 st []).1,[]),(jY 17 st []).2)
def gD:Nat→PoF
 |0,st=>(.mk [] false 0 [] [] [] [],st)
 |r+1,st=>(.mk (cW st).1.2.1 (cW st).1.1 (cW st).1.2.2.1 (cW st).1.2.2.2 (pS (gD r) (r==0) (cW st).1.1 (cW st).2).1.1 (pS (gD r) (r==0) (cW st).1.1 (cW st).2).1.2
   (gr (dV (pS (gD r) (r==0) (cW st).1.1 (cW st).2).2 [125])).1,(gr (dV (pS (gD r) (r==0) (cW st).1.1 (cW st).2).2 [125])).2)
theorem mM{st:PS}{a b:Txt}(h:isD st a=true∨isD st b=true):st.bad=0∧(aJ st).kind≠7:=by
 grind [HJ,dH]
theorem xR{st:PS}(h:WfP st)(hk:(aJ st).kind≠7):Ah st {bg st with rules:=st.rules+1}:=eU h hk
theorem Hg:∀(f:Nat) (st:PS) (l:List cQ),WfP st→Ah st (jY f st l).2
 |0,st,l,h=> .refl h
 |f+1,st,l,h=>by
  unfold jY;split
  ·rename_i hi
   split
   ·exact kX true h
   ·have h1:=xR h (mM hi).2
    have h2:=BU (isD st iY) h1.1;exact(h1.trans h2).trans (Hg f _ _ h2.1)
  ·exact afn
theorem Ex:∀(f:Nat) (st:PS) (l:List cQ),nR st (jY f st l).2
 |0,st,l=> .refl
 |f+1,st,l=>by
  unfold jY;split
  ·rename_i hi
   split
   ·exact(rL st true).big
   ·rename_i hn
    have h1:nR st {bg st with rules:=st.rules+1}:=.rule .refl (mM hi).1 ac0 (mM hi).2
    exact(h1.trans (zp (isD st iY) _).big).trans (Ex f _ _)
  ·exact afu
theorem Hf{pol:PoF}(hp:∀st,WfP st→Ah st (pol st).2)(deep:Bool):∀(f:Nat) (st:PS) (l:List bH),WfP st→Ah st (jR pol deep f st l).2
 |0,st,l,h=> .refl h
 |f+1,st,l,h=>by
  unfold jR;split
  ·split
   ·exact kX true h
   ·have h1:=hp st h
    exact h1.trans (Hf hp deep f _ _ h1.1)
  ·exact afn
theorem Eu{pol:PoF}(hp:∀st,nR st (pol st).2)(deep:Bool):∀(f:Nat) (st:PS) (l:List bH),nR st (jR pol deep f st l).2
 |0,st,l=> .refl
 |f+1,st,l=>by
  unfold jR;split
  ·split
   ·exact(rL st true).big
   ·exact(hp st).trans (Eu hp deep f _ _)
  ·exact afu
theorem BS{pol:PoF}(hp:∀st,WfP st→Ah st (pol st).2)(deep set:Bool){st:PS}(h:WfP st):Ah st (pS pol deep set st).2:=by
 grind [pS,Hf,Hg]
theorem MH{pol:PoF}(hp:∀st,nR st (pol st).2)(deep set:Bool)(st:PS):nR st (pS pol deep set st).2:=by
 grind [pS,Eu,Ex]
theorem xQ:∀(r:Nat) (st:PS),WfP st→Ah st (gD r st).2
 |0,st,h=> .refl h
 |r+1,st,h=>by
  have h1:=NS h;have h2:=BS (xQ r) (r==0) (cW st).1.1 h1.1;have h3:=jh [125] h2.1;exact((h1.trans h2).trans h3).trans (BT h3.1)
theorem Cz:∀(r:Nat) (st:PS),nR st (gD r st).2
 |0,st=> .refl
 |r+1,st=>(((Et st).big.trans (MH (Cz r) _ _ _)).trans (mR _ [125]).big).trans (Ev _).big
theorem vu{a b:PS}(h:nR a b)(h0:a.rules≤64):b.rules≤64:=by
 induction h with
 |refl=>omega
 |small _ h1 ih=>rw[(rM h1).2.2];omega
 |rule _ _ h2 _ ih=>grind
theorem vf:∀(f:Nat) (s:Txt) (a:Nat) (out l:List qi),tO f s a out= .ok l→∃pre,l=out++pre++ [⟨7,(a+s.length:Nat),0,[]⟩]∧pre.length≤s.length∧∀t∈pre,(a:Int)≤t.pos∧t.pos<((a+s.length:Nat):Int)
 |0,_,_,_,_,h=>by grind [tO]
 |f+1,[],a,out,l,h=>by
  grind [tO,Lexed.ok.injEq]
 |f+1,c::r,a,out,l,h=>by
  simp only[tO]at h;split at h
  ·obtain⟨pre,e1,e2,e3⟩:=vf f r (a+1) out l h
   grind
  ·split at h
   ·cases h
   ·rename_i hn
    have hle:=so (c::r) ac7;obtain⟨pre,e1,e2,e3⟩:=vf f _ _ _ l h;have ee:((a+(bQ (c::r)).2+((c::r).drop (bQ (c::r)).2).length:Nat):Int)=((a+(c::r).length:Nat):Int):=ac1;refine⟨{(bQ (c::r)).1 with pos:=a}::pre,ac1,ac1,fun t ht=>?_⟩
    grind
theorem A2{s:Txt}{ts:List qi}(h:qO s= .ok ts):∃pre,ts=pre++ [⟨7,s.length,0,[]⟩]∧pre.length≤s.length∧(∀t∈pre,0≤t.pos∧t.pos<(s.length:Int))∧s.length≤4096:=by
 grind [qO,vf]
theorem Kx{s:Txt}{ts:List qi}(h:qO s= .ok ts)(x:Nat)(e p:Int):WfP ⟨ts,0,x,e,p⟩:=by
 obtain⟨pre,rfl,h2,_,h3⟩:=A2 h;refine⟨ac7,fun i hi hk=>?_,ac1⟩
 grind
theorem yO:∀(f:Nat) (s:Txt) (a:Nat) (out:List qi) (e p:Int),tO f s a out= .bad e p→e=5∧0≤p∧(s.length<f→p≤((a+s.length:Nat):Int))
 |0,s,a,out,e,p,h=>by
  simp only[tO,Lexed.bad.injEq]at h;omega
 |f+1,[],a,out,e,p,h=>by grind [tO]
 |f+1,c::r,a,out,e,p,h=>by
  simp only[tO]at h;split at h
  ·obtain⟨h1,h2,h3⟩:=yO f r (a+1) out e p h
   grind
  ·split at h
   ·grind
   ·obtain⟨h1,h2,h3⟩:=yO f _ _ _ e p h
    grind [so,List.length_drop]
theorem tN{s:Txt}{e a:Int}(h:qO s= .bad e a):(e=5∨e=6)∧0≤a∧a≤s.length:=by
 unfold qO at h;split at h
 ·grind
 ·obtain⟨h1,h2,h3⟩:=yO _ _ _ _ _ _ h
  omega
def oP:bH:=.mk [] false 0 [] [] [] []
def qb(s:Txt)(x:bH×PS):PS:=
 if(if(aJ x.2).kind=7 then x.2 else bn x.2).bad=0∧gy x.1≠0 then bG (if(aJ x.2).kind=7 then x.2 else bn x.2) 5 s.length else(if(aJ x.2).kind=7 then x.2 else bn x.2)
def zc(s:Txt)(ts:List qi):bH×Int×Int:=
 if(qb s (gD 4 ⟨ts,0,0,0,0⟩)).bad=0 then((gD 4 ⟨ts,0,0,0,0⟩).1,0,0)else(oP,(qb s (gD 4 ⟨ts,0,0,0,0⟩)).bad,(qb s (gD 4 ⟨ts,0,0,0,0⟩)).place)
def aR(s:Txt):bH×Int×Int:=match qO s with
 |.bad e a=>(oP,e,a)
 |.ok ts=>zc s ts
end Go.Bf
namespace Go.Proofs.YtfdgemhnlennbaaGreatDoor
open Go Go.Ab Go.Bf
def Byt(g:FuncId)(p:UInt8→Bool):Prop:=∀(c:UInt8) (h:Heap),ai Tryz.prog g [.v (.int .u8 c.toNat)] h fun r h' =>r= .b (p c)∧h' =h
theorem mN:Byt 193 dgt:=fun c h=>by
 refine acZ Tryz.func193 9 [.tmp 2] fun hwf=>?_
 cases d1:decide (48≤(c.toNat:Int))<;>cases d2:decide ((c.toNat:Int)≤57)
 all_goals
  simp only[go_sem,d1,d2];exact .same (.refl _) ⟨by simp only[dgt,d1,d2];rfl,rfl⟩
theorem JC:Byt 231 wrd:=fun c h=>by
 refine acZ Tryz.func231 17 [.tmp 2] fun hwf=>?_
 cases d1:decide (97≤(c.toNat:Int))<;>cases d2:decide ((c.toNat:Int)≤122)<;>cases d3:dgt c<;>cases d4:((c.toNat:Int)==95)
 all_goals
  simp only[go_sem,d1,d2]
  first
   |exact .same (.refl _) ⟨by simp only[wrd,ltr,d1,d2,d3,d4];rfl,rfl⟩
   |(refine(mN c _).pthen ?_;simp only[go_sem,d3,d4];exact .same (.refl _) ⟨by simp only[wrd,ltr,d1,d2,d3,d4];rfl,rfl⟩)
theorem Ei:Byt 232 (fun c=> !tQ c):=fun c h=>by
 refine acZ Tryz.func232 17 [.tmp 2] fun hwf=>?_
 cases d1:decide (32≤(c.toNat:Int))<;>cases d2:decide ((c.toNat:Int)≤126)<;>cases d3:((c.toNat:Int)==34)<;>cases d4:((c.toNat:Int)==92)
 all_goals
  simp only[go_sem,d1,d2,d3,d4,bne];refine .same (.refl _) ⟨?_,rfl⟩;have e1:decide ((c.toNat:Int)<32)= !decide (32≤(c.toNat:Int)):=by
   grind
  have e2:decide (126<(c.toNat:Int))= !decide ((c.toNat:Int)≤126):=by
   grind
  simp only[tQ,e1,e2,d1,d2,d3,d4];rfl
theorem Pu(p:UInt8→Bool)(s:Txt)(i:Nat)(hi:i<s.length)(h:i≤(s.takeWhile p).length)(hp:p s[i]=true):i+1≤(s.takeWhile p).length:=by
 exact ahU
theorem Vp(p:UInt8→Bool)(s:Txt)(i:Nat)(hi:i<s.length)(h:i≤(s.takeWhile p).length)(hp:p s[i]=false):(s.takeWhile p).length=i:=by
 exact ahU
theorem MV(g:FuncId)(p:UInt8→Bool)(hg:Byt g p)(s:Txt)(h:Heap):ai Tryz.prog 230 [.s s,.fn g []] h fun r h' =>r= .v (.int .i64 (s.takeWhile p).length)∧h' =h:=by
 refine acZ Tryz.func230 20 [.tmp 4] fun hwf=>?_
 have hlen:=hwf (.s s) ac7;simp only[wfA,wf1,lim]at hlen;simp only[go_sem];refine .intro (fun m ρ h' =>h' =h∧∃i:Nat,i≤s.length∧m=s.length - i∧i≤(s.takeWhile p).length∧lk ρ 0=some (.s s)∧lk ρ 1=some (.fn g [])∧lk ρ 5=some (.i i)) s.length ?_ ?_
 ·refine⟨rfl,0,ac0,rfl,ac0,?_,?_,?_⟩<;>simp only[go_sem]
 ·rintro m ρ h' ⟨rfl,i,hi,rfl,hc,r0,r1,r5⟩
  cases d1:decide ((i:Int)<(s.length:Int))
  ·have hge:i=s.length:=by grind
   have:=j0 p s;simp only[go_sem,r0,r5,d1];exact .same (.refl _) ⟨by grind [ax],rfl⟩
  ·have hlt:i<s.length:=by grind
   have w1:IntKind.i64.wrap ((i:Int)+1)=((i+1:Nat):Int):=adf;simp only[go_sem,r0,r1,r5,d1];refine .at i hlt ?_;simp only[go_sem,aK];refine(hg s[i] _).pthen ?_;cases d2:p s[i]
   ·have:=Vp p s i hlt hc d2
    simp only[go_sem,r5];exact .same (.refl _) ⟨by rw[this];rfl,rfl⟩
   ·simp only[go_sem,r5,w1]
    refine⟨_,?_,rfl,i+1,ac0,rfl,Pu p s i hlt hc d2,?_,?_,?_⟩
    ·omega
    all_goals simp only[go_sem,r0,r1]
theorem yX(s:Txt)(h:Heap):ai Tryz.prog 192 [.s s] h fun r h' =>r= .s (jH s)∧h' =h:=by
 refine acZ Tryz.func192 12 [.tmp 2] fun hwf=>?_
 simp only[go_sem];refine(MV _ _ JC s _).pthen ?_;simp only[go_sem];refine⟨ac0,ac0,?_⟩;simp only[go_sem,Option.isSome_none,Option.isSome_some,xx,Int.toNat_natCast,rz];refine⟨by grind [j0,wrd],?_⟩
 refine(pn _ _).pthen ?_;cases d1:bl (s.takeWhile wrd)
 ·exact aiT
 ·exact aiT
theorem wr8{x:Int}(h:0≤x∧x<256):IntKind.u8.wrap x=x:=by
 grind [IntKind.wrap,IntKind.signed,IntKind.bits]
theorem tq(c:UInt8)(h:Heap):ai Tryz.prog 264 [.v (.int .u8 c.toNat)] h fun r h' =>r= .i (jI c)∧h' =h:=by
 refine acZ Tryz.func264 20 [.tmp 2] fun hwf=>?_
 have hc:=c.toNat_lt;simp only[go_sem];refine(mN c _).pthen ?_;cases d1:dgt c
 case true=>
  have e1:48≤(c.toNat:Int)∧(c.toNat:Int)≤57:=by grind [dgt]
  have w1:IntKind.u8.wrap ((c.toNat:Int) - 48)=(c.toNat:Int) - 48:=wr8 ac0;have w2:IntKind.i64.wrap ((c.toNat:Int) - 48)=(c.toNat:Int) - 48:=bh _ ac0;simp only[go_sem,w1,w2];exact .same (.refl _) ⟨by grind [jI,ax],rfl⟩
 cases d2:decide (97≤(c.toNat:Int))<;>cases d3:decide ((c.toNat:Int)≤102)
 case true.true=>
  have e2:=acS d2;have e3:=acS d3;have w1:IntKind.u8.wrap ((c.toNat:Int) - 97)=(c.toNat:Int) - 97:=wr8 ac0;have w2:IntKind.i64.wrap ((c.toNat:Int) - 97)=(c.toNat:Int) - 97:=bh _ ac0;have w3:IntKind.i64.wrap ((c.toNat:Int) - 97+10)=(c.toNat:Int) - 87:=adf;simp only[go_sem,d2,d3,w1,w2,w3];exact .same (.refl _) ⟨by grind [jI,ax],rfl⟩
 all_goals
  simp only[go_sem,d2,d3];simp only[decide_eq_true_eq,decide_eq_false_iff_not]at d2 d3;refine .same (.refl _) ⟨?_,rfl⟩
  grind [Int,jI,ax]
theorem HE(c:UInt8): -1≤jI c∧jI c≤15:=by
 grind [jI,dgt]
theorem Nk(n:Nat)(h:n<256):((UInt8.ofNat n).toNat:Int)=n:=by
 simp;omega
theorem Sa(s:Txt)(h:Heap):ai Tryz.prog 233 [.s s] h fun r h' =>(∃x:Int,r= .tup [.v (.int .u8 x),.v (.bool (tT s).isSome)]∧∀c,tT s=some c→x=c.toNat)∧h' =h:=by
 refine acZ Tryz.func233 38 [.tmp 2,.tmp 3] fun hwf=>?_
 have hlen:=hwf (.s s) ac7;simp only[wfA,wf1,lim]at hlen;cases d0:decide ((s.length:Int)<3)
 case true=>
  have e0:s.length<3:=ac1;have:tT s=none:=by
   match s,e0 with
   | [],_=>rfl
   | [_],_=>rfl
   | [_,_],_=>rfl
  simp only[go_sem,d0];exact .same (.refl _) ⟨⟨0,by rw[this];rfl,fun c hc=>ac1⟩,rfl⟩
 have e0:3≤s.length:=ac1;obtain⟨b,x,y,t,rfl⟩:∃b x y t,s=b::x::y::t:=by
  match s,e0 with
  |b::x::y::t,_=>exact⟨b,x,y,t,rfl⟩
 simp only[List.length_cons]at d0;have bad:tT (b::x::y::t)=none→∃z:Int,AV.tup [.v (.int .u8 0),.b false]= .tup [.v (.int .u8 z),.v (.bool (tT (b::x::y::t)).isSome)]∧∀c,tT (b::x::y::t)=some c→z=c.toNat:=
  fun e=>⟨0,ac1,fun c hc=>ac1⟩
 cases d1:((b.toNat:Int) !=92)
 case true=>
  have e1:b≠92:=by rintro rfl;grind
  simp only[go_sem,d0];refine .at 0 ac7 ?_;simp only[go_sem,aK,List.getElem_cons_zero,d1];exact aiE
 have e1:b=92:=by
  have:(b.toNat:Int)=92:=ac1;exact UInt8.toNat_inj.1 ac1
 simp only[go_sem,d0];refine .at 0 ac7 ?_;simp only[go_sem,aK,List.getElem_cons_zero,d1];refine .at 1 ac7 ?_;simp only[go_sem,aK,List.getElem_cons_zero,List.getElem_cons_succ];refine(tq x _).pthen ?_;cases d2:decide (jI x<0)
 case true=>
  have e2:=acS d2;simp only[go_sem,d2];exact aiE
 have e2:0≤jI x:=ac1;simp only[go_sem,d2];refine .at 2 ac7 ?_;simp only[go_sem,aK,List.getElem_cons_zero,List.getElem_cons_succ];refine(tq y _).pthen ?_;cases d3:decide (jI y<0)
 case true=>
  have e3:=acS d3;simp only[go_sem,d3];exact aiE
 have e3:0≤jI y:=ac1;have hx:=HE x;have hy:=HE y;have w1:IntKind.i64.wrap (16*jI x)=16*jI x:=bh _ ac0;have w2:IntKind.i64.wrap (16*jI x+jI y)=16*jI x+jI y:=bh _ ac0;have w3:IntKind.u8.wrap (16*jI x+jI y)=((UInt8.ofNat (16*jI x+jI y).toNat).toNat:Int):=by
  grind [wr8,Nk]
 simp only[go_sem,d3];refine .quiet ac3 ?_;simp only[go_sem];refine .at 1 ac7 ?_;simp only[go_sem,aK,List.getElem_cons_zero,List.getElem_cons_succ];refine⟨_,tq x _,?_⟩;simp only[go_sem];refine .at 2 ac7 ?_;simp only[go_sem,aK,List.getElem_cons_zero,List.getElem_cons_succ];refine⟨_,tq y _,?_⟩;simp only[go_sem,w1,w2,w3];refine(Ei _ _).pthen ?_;simp only[go_sem];refine .same (.refl _) ⟨⟨((UInt8.ofNat (16*jI x+jI y).toNat).toNat:Int),?_,fun c hc=>?_⟩,rfl⟩
 ·grind [tQ,UInt8.ofNat,jI,tT,ax]
 grind [tT]
theorem u5z:(U 5).sz=1:=adg
theorem u5b:(U 5).bytes=1:=adg
theorem nv(l:List UInt8):Sized 1 (l.map aK):=fun z hz=>by
 obtain⟨c,_,rfl⟩:=List.mem_map.1 hz;rfl
theorem It(s:Txt)(hs:s.length≤10000)(h:Heap):ai Tryz.prog 195 [.s s] h fun r h' =>r= .tup [.s (zH s).1,.v (.int .i64 (zH s).2)]∧h' =h:=by
 refine acZ Tryz.func195 50 [.tmp 2,.tmp 3] fun hwf=>?_
 simp only[go_sem];refine .intro (fun m ρ h' =>∃(i f:Nat) (y:AV) (out:Txt),Acc U 5 h h' y (out.map aK)∧out.length≤i∧m=s.length+1 - i∧i≤s.length+3∧s.length≤f+i∧ur f (s.drop i) i out=zH s∧lk ρ 0=some (.s s)∧lk ρ 4=some y∧lk ρ 5=some (.i i)) s.length ?_ ?_
 ·refine⟨1,s.length,.sl [] .full,[],.full (.refl _),ac7,ac0,ac0,ac0,rfl,?_,?_,?_⟩<;>simp only[go_sem]
 ·rintro m ρ h' ⟨i,f,y,out,hy,hoi,rfl,hi,hf,he,r0,r4,r5⟩
  cases d1:decide ((i:Int)<(s.length:Int))
  ·have hge:s.length≤i:=by grind
   have hd:s.drop i= []:=List.drop_of_length_le hge;have:zH s=([],0):=by
    rw[←he,hd];cases f<;>rfl
   simp only[go_sem,r0,r5,d1];exact .mk _ (.refl _) hy.1 ⟨by rw[this];rfl,rfl⟩
  have hlt:i<s.length:=ac1;obtain⟨f,rfl⟩:∃g,f=g+1:=⟨f - 1,ac0⟩;have hdr:s.drop i=s[i]::s.drop (i+1):=List.drop_eq_getElem_cons hlt;rw[hdr]at he;simp only[ur]at he;have w1:IntKind.i64.wrap ((i:Int)+1)=((i+1:Nat):Int):=adf;have w3:IntKind.i64.wrap ((i:Int)+3)=((i+3:Nat):Int):=adf;simp only[go_sem,r0,r5,d1];refine .at i hlt ?_;cases d2:((s[i].toNat:Int)==34)
  case true=>
   have e2:s[i]=34:=by
    have:(s[i].toNat:Int)=34:=ac1;exact UInt8.toNat_inj.1 ac1
   rw[if_pos e2]at he;cases d3:decide (64<(out.length:Int))
   case true=>
    have e3:64<out.length:=ac1;rw[if_pos e3]at he;simp only[go_sem,r4,aK,d2,hy.len,acQ,d3];exact aiy
   have e3:¬64<out.length:=ac1;rw[if_neg e3]at he;simp only[go_sem,r4,aK,d2,hy.len,acQ,d3];obtain⟨q,rfl⟩:=hy.row;simp only[go_sem,r5,w1];exact aiy
  have e2:s[i]≠34:=by intro e;simp_all
  rw[if_neg e2]at he;simp only[go_sem,r0,r5,aK,d2];refine .at i hlt ?_;simp only[go_sem,aK];refine(Ei _ _).pthen ?_;cases d4:tQ s[i]
  ·rw[if_pos d4]at he
   simp only[go_sem,r0,r4,r5,d4];refine .at i hlt ?_;simp only[go_sem,aK];refine hy.app (zs:=[aK s[i]]) ac4 ac4 (fun k hk=>hk) (by grind [u5z,nv]) (by rw[u5z];exact nv [s[i]]) (by grind [u5b]) fun y' h2 hy' hk2=>?_
   simp only[go_sem,r5,w1];refine⟨_,?_,i+1,f,y',out++ [s[i]],ac1,ac1,rfl,ac0,ac0,he,?_,?_,?_⟩
   ·omega
   all_goals simp only[go_sem,r0]
  ·rw[if_neg ac1]at he
   simp only[go_sem,r0,r5,d4];refine⟨ac0,?_⟩;simp only[go_sem,Option.isSome_none,Option.isSome_some,l8,Int.toNat_natCast];refine⟨ac0,ac0,?_⟩;refine(Sa _ _).mono fun x h2 hx=>?_
   obtain⟨⟨v,rfl,hv⟩,rfl⟩:=hx;rw[←hdr]at he;cases e5:tT (s.drop i)with
   |none=>
    rw[e5]at he;simp only[go_sem,Option.isSome_none];exact aiy
   |some b=>
    rw[e5]at he;have hvb:=hv b e5;subst hvb;have h3:=D7 e5;simp only[List.length_drop]at h3;simp only[go_sem,r4,Option.isSome_some];refine hy.app (zs:=[aK b]) ac4 ac4 (fun k hk=>hk) (by grind [u5z,nv]) (by rw[u5z];exact nv [b]) (by grind [u5b]) fun y' h2 hy' hk2=>?_
    simp only[go_sem,r5,w3];refine⟨_,?_,i+3,f,y',out++ [b],ac1,ac1,rfl,ac0,ac0,?_,?_,?_,?_⟩
    ·omega
    ·simp_all
    all_goals simp only[go_sem,r0]
end Go.Proofs.YtfdgemhnlennbaaGreatDoor
namespace Go.Bf
open Go Go.Ab
theorem Ho(c:UInt8):dgt c=true↔48≤c.toNat∧c.toNat≤57:=by
 simp only[dgt,Bool.and_eq_true,decide_eq_true_eq];omega
def IY(acc:Nat)(l:Txt):Nat:=l.foldl (fun n c=>n*10+(c.toNat - 48)) acc
theorem AI(acc:Nat)(c:UInt8)(r:Txt):IY acc (c::r)=IY (acc*10+(c.toNat - 48)) r:=List.foldl_cons ..
theorem C9:∀(l:Txt) (acc:Nat),acc≤IY acc l
 | [],acc=>Nat.le_refl _
 |c::r,acc=>by rw[AI];exact Nat.le_trans ac0 (C9 r (acc*10+(c.toNat - 48)))
theorem tY:∀(l:Txt) (acc:Nat),(∀c∈l,dgt c=true)→acc<18446744073709551616→
  Lib.parseUint10 acc l=if IY acc l<18446744073709551616 then .ok (IY acc l)else .range
 | [],acc,_,ha=>by
  have:IY acc []=acc:=rfl;rw[this,if_pos ha];rfl
 |c::r,acc,hd,ha=>by
  have hc:=(Ho c).1 (hd c ac7);have hm:=C9 r (acc*10+(c.toNat - 48));rw[AI];unfold Lib.parseUint10;rw[if_pos hc];split
  ·rw[if_neg ac0]
  ·split
   ·rw[if_neg ac0]
   ·exact tY r _ ac1 ac0
def pY(neg:Bool):Txt:=if neg then [45]else []
theorem vO(neg:Bool)(d:Txt)(h0:d≠ [])(hd:∀c∈d,dgt c=true):
  Lib.atoiAll (pY neg++d)=if -9223372036854775808≤(if neg then -(mY d:Int)else(mY d:Int))∧(if neg then -(mY d:Int)else(mY d:Int))≤9223372036854775807 then .ok (if neg then -(mY d:Int)else(mY d:Int))else .range:=by
 have hp:Lib.parseMag d=if mY d<18446744073709551616 then .ok (mY d)else .range:=by
  unfold Lib.parseMag;rw[if_neg h0];exact tY d 0 hd ac4
 cases neg
 ·obtain⟨c,r,rfl⟩:=List.exists_cons_of_ne_nil h0
  have hc:=(Ho c).1 (hd c ac7);simp only[pY,Bool.false_eq_true,if_false,List.nil_append,Lib.atoiAll];rw[if_neg ac0,hp];have e45:(c.toNat=45)=False:=ac1;simp only[e45,not_false_eq_true,true_and,false_and,if_false];split
  ·rename_i h;split at h
   ·cases h
   ·cases h
  ·rename_i h;split at h
   ·cases h
   ·rw[if_neg ac0]
  ·rename_i u h;split at h
   ·cases h
    split
    ·rw[if_neg ac0]
    ·rw[if_pos ac0]
   ·cases h
 ·simp only[pY,if_true,List.cons_append,List.nil_append,Lib.atoiAll]
  rw[if_pos (.inr ac4),hp];simp only[show((45:UInt8).toNat=45)=True by simp,not_true_eq_false,false_and,if_false,true_and,if_true]
  split
  ·rename_i h;split at h
   ·cases h
   ·cases h
  ·rename_i h;split at h
   ·cases h
   ·rw[if_neg ac0]
  ·rename_i u h;split at h
   ·cases h
    split
    ·rw[if_neg ac0]
    ·rw[if_pos ac0]
   ·cases h
theorem Aq(s:Txt):∀c∈s.takeWhile dgt,dgt c=true:=fun c hc=>by
 induction s with
 |nil=>cases hc
 |cons x r ih=>
  simp only[List.takeWhile_cons]at hc
  grind
end Go.Bf
namespace Go.Proofs
open Go.Shelf
def Tryz.DO:Go.Shelf.Ren:=⟨fun|137=>196|217=>234|266=>265|n=>n,fun|9=>9|5=>5|3=>3|n=>n,fun|n=>n⟩
theorem Tryz.HM:Go.Proofs.Lays.n137 Tryz.prog Tryz.DO:={
 mixed:=adg
 f137:=Tryz.func196.trans adg
 f217:=Tryz.func234.trans adg
 f266:=Tryz.func265.trans adg
 t3:=Tryz.underlying3
 a3:=Tryz.isAgg3
 z3:=Tryz.sizeOf3
 v3:=Tryz.zeroValue3
 t5:=Tryz.underlying5
 a5:=Tryz.isAgg5
 z5:=Tryz.sizeOf5
 v5:=Tryz.zeroValue5
 t9:=Tryz.underlying9
 a9:=Tryz.isAgg9
 z9:=Tryz.sizeOf9
 v9:=Tryz.zeroValue9}
open Go.RowKit in
theorem Tryz.strings_IndexByte(s:ByteArray)(c:Int)(w:World):
  Calls Tryz.prog 196 #[.string s,.int .u8 c] w fun e w' =>e= .returned (.int .i64 (Lib.indexByte s.data.toList c.toNat.toUInt8))∧w' =w:=Any.strings_IndexByte Tryz.HM s c w
def Tryz.Cm:Go.Shelf.Ren:=⟨fun|172=>134|244=>179|245=>180|247=>222|279=>223|280=>224|281=>225|282=>226|287=>256|316=>257|171=>136|205=>258|321=>284|322=>285|243=>182|246=>227|283=>259|284=>260|285=>261|286=>262|129=>287|317=>286|318=>288|319=>289|320=>290|337=>309|338=>310|n=>n,fun|9=>9|3=>3|75=>220|76=>221|4=>4|5=>5|167=>303|37=>37|0=>0|85=>304|2=>2|168=>306|53=>48|175=>336|46=>161|210=>339|127=>310|145=>375|143=>373|21=>21|171=>341|173=>344|212=>377|51=>101|20=>20|213=>378|232=>406|233=>407|80=>238|n=>n,fun|15=>1|16=>2|17=>3|18=>4|19=>5|n=>n⟩
theorem Tryz.DP:Go.Proofs.LaysC.n172 Tryz.prog Tryz.Cm:={
 mixed:=adg
 f129:=Tryz.func287.trans adg
 f171:=Tryz.func136.trans adg
 f172:=Tryz.func134.trans adg
 f205:=Tryz.func258.trans adg
 f243:=Tryz.func182.trans adg
 f244:=Tryz.func179.trans adg
 f245:=Tryz.func180.trans adg
 f246:=Tryz.func227.trans adg
 f247:=Tryz.func222.trans adg
 f279:=Tryz.func223.trans adg
 f280:=Tryz.func224.trans adg
 f281:=Tryz.func225.trans adg
 f282:=Tryz.func226.trans adg
 f283:=Tryz.func259.trans adg
 f284:=Tryz.func260.trans adg
 f285:=Tryz.func261.trans adg
 f286:=Tryz.func262.trans adg
 f287:=Tryz.func256.trans adg
 f316:=Tryz.func257.trans adg
 f317:=Tryz.func286.trans adg
 f318:=Tryz.func288.trans adg
 f319:=Tryz.func289.trans adg
 f320:=Tryz.func290.trans adg
 f321:=Tryz.func284.trans adg
 f322:=Tryz.func285.trans adg
 f337:=Tryz.func309.trans adg
 f338:=Tryz.func310.trans adg
 t0:=Tryz.underlying0
 a0:=Tryz.isAgg0
 z0:=Tryz.sizeOf0
 v0:=Tryz.zeroValue0
 t2:=Tryz.underlying2
 a2:=Tryz.isAgg2
 z2:=Tryz.sizeOf2
 v2:=Tryz.zeroValue2
 t3:=Tryz.underlying3
 a3:=Tryz.isAgg3
 z3:=Tryz.sizeOf3
 v3:=Tryz.zeroValue3
 t4:=Tryz.underlying4
 a4:=Tryz.isAgg4
 z4:=Tryz.sizeOf4
 v4:=Tryz.zeroValue4
 t5:=Tryz.underlying5
 a5:=Tryz.isAgg5
 z5:=Tryz.sizeOf5
 v5:=Tryz.zeroValue5
 t9:=Tryz.underlying9
 a9:=Tryz.isAgg9
 z9:=Tryz.sizeOf9
 v9:=Tryz.zeroValue9
 t20:=Tryz.underlying20
 a20:=Tryz.isAgg20
 z20:=Tryz.sizeOf20
 v20:=Tryz.zeroValue20
 t21:=Tryz.underlying21
 a21:=Tryz.isAgg21
 z21:=Tryz.sizeOf21
 v21:=Tryz.zeroValue21
 t37:=Tryz.underlying37
 a37:=Tryz.isAgg37
 z37:=Tryz.sizeOf37
 v37:=Tryz.zeroValue37
 t46:=Tryz.underlying161
 a46:=Tryz.isAgg161
 z46:=Tryz.sizeOf161
 v46:=Tryz.zeroValue161
 t51:=Tryz.underlying101
 a51:=Tryz.isAgg101
 z51:=Tryz.sizeOf101
 v51:=Tryz.zeroValue101
 t53:=Tryz.underlying48
 a53:=Tryz.isAgg48
 z53:=Tryz.sizeOf48
 v53:=Tryz.zeroValue48
 t75:=Tryz.underlying220
 a75:=Tryz.isAgg220
 z75:=Tryz.sizeOf220
 v75:=Tryz.zeroValue220
 t76:=Tryz.underlying221
 a76:=Tryz.isAgg221
 z76:=Tryz.sizeOf221
 v76:=Tryz.zeroValue221
 t85:=Tryz.underlying304
 a85:=Tryz.isAgg304
 z85:=Tryz.sizeOf304
 v85:=Tryz.zeroValue304
 t127:=Tryz.underlying310
 a127:=Tryz.isAgg310
 z127:=Tryz.sizeOf310
 v127:=Tryz.zeroValue310
 t143:=Tryz.underlying373
 a143:=Tryz.isAgg373
 z143:=Tryz.sizeOf373
 v143:=Tryz.zeroValue373
 t145:=Tryz.underlying375
 a145:=Tryz.isAgg375
 z145:=Tryz.sizeOf375
 v145:=Tryz.zeroValue375
 t167:=Tryz.underlying303
 a167:=Tryz.isAgg303
 z167:=Tryz.sizeOf303
 v167:=Tryz.zeroValue303
 t168:=Tryz.underlying306
 a168:=Tryz.isAgg306
 z168:=Tryz.sizeOf306
 v168:=Tryz.zeroValue306
 t171:=Tryz.underlying341
 a171:=Tryz.isAgg341
 z171:=Tryz.sizeOf341
 v171:=Tryz.zeroValue341
 t173:=Tryz.underlying344
 a173:=Tryz.isAgg344
 z173:=Tryz.sizeOf344
 v173:=Tryz.zeroValue344
 t175:=Tryz.underlying336
 a175:=Tryz.isAgg336
 z175:=Tryz.sizeOf336
 v175:=Tryz.zeroValue336
 t210:=Tryz.underlying339
 a210:=Tryz.isAgg339
 z210:=Tryz.sizeOf339
 v210:=Tryz.zeroValue339
 t212:=Tryz.underlying377
 a212:=Tryz.isAgg377
 z212:=Tryz.sizeOf377
 v212:=Tryz.zeroValue377
 t213:=Tryz.underlying378
 a213:=Tryz.isAgg378
 z213:=Tryz.sizeOf378
 t232:=Tryz.underlying406
 a232:=Tryz.isAgg406
 z232:=Tryz.sizeOf406
 v232:=Tryz.zeroValue406
 t233:=Tryz.underlying407
 a233:=Tryz.isAgg407
 z233:=Tryz.sizeOf407
 v233:=Tryz.zeroValue407
 g15:=ac3
 g16:=ac3
 g17:=ac3
 g18:=ac3
 g19:=ac3
 t80:=Tryz.underlying238
 a80:=Tryz.isAgg238
 z80:=Tryz.sizeOf238
 v80:=Tryz.zeroValue238
 i0:=ac3
 i2:=ac3
 i3:=ac3
 i4:=ac3
 i5:=ac3
 i9:=ac3
 i20:=ac3
 i21:=ac3
 i37:=ac3
 i46:=ac3
 i51:=ac3
 i53:=ac3
 i75:=ac3
 i76:=ac3
 i80:=ac3
 i85:=ac3
 i127:=ac3
 i143:=ac3
 i145:=ac3
 i167:=ac3
 i168:=ac3
 i171:=ac3
 i173:=ac3
 i175:=ac3
 i210:=ac3
 i212:=ac3
 i232:=ac3
 i233:=ac3
 m15:=adg
 m16:=adg
 m17:=adg
 m18:=adg
 m19:=adg
 c0:=ac3
 c2:=ac3
 c3:=ac3
 c4:=ac3
 c5:=ac3
 c9:=ac3
 c20:=ac3
 c21:=ac3
 c37:=ac3
 c46:=ac3
 c51:=ac3
 c53:=ac3
 c75:=ac3
 c76:=ac3
 c80:=ac3
 c85:=ac3
 c127:=ac3
 c143:=ac3
 c145:=ac3
 c167:=ac3
 c168:=ac3
 c171:=ac3
 c173:=ac3
 c175:=ac3
 c210:=ac3
 c212:=ac3
 c213:=ac3
 c232:=ac3
 c233:=ac3}
open Go.RowKit in
theorem Tryz.strconv_Atoi_ok(s:ByteArray)(hmax:s.size≤9223372036854775806)(v:Int)(h:Lib.atoiAll s.data.toList= .ok v)(w:World):
  Calls Tryz.prog 134 #[.string s] w fun e w' =>e= .returned (.tuple #[.int .i64 v,.nilIface])∧(w' =w∨∃t,w' =Lib.bytesWorld w 5 t):=Any.strconv_Atoi_ok Tryz.DP s hmax v h w
open Go.RowKit in
theorem Tryz.strconv_Atoi_range(s:ByteArray)(hlim:s.size≤281474976710656)(h:Lib.atoiAll s.data.toList= .range)(ev:Value)(w:World)(hv:w.cell? ⟨2,0,none⟩=some ev)(hev:ev= .nilIface∨∃te pe,ev= .iface te pe):
  Calls Tryz.prog 134 #[.string s] w fun e w' =>∃N,e= .returned (.tuple #[.int .i64 (Lib.atoiSat s.data.toList),.iface 306 (.pointer (some ⟨N,0,none⟩))])∧w.heap.size≤N∧w'.heap[N]? =some (.cells #[.string ⟨#[65,116,111,105]⟩,.string s,ev] 339 (0,0))∧Below w.heap.size w w' :=Any.strconv_Atoi_range Tryz.DP s hlim h ev w hv hev
end Go.Proofs
namespace Go.Proofs.YtfdgemhnlennbaaGreatDoor
open Go Go.Ab Go.Bf Go.RowKit
theorem J8(s:Txt)(hs:s.length≤100000)(w:World):Calls Tryz.prog 230 #[.string ⟨s.toArray⟩,.func (.func 193) #[] #[]] w fun e w' =>e= .returned (.int .i64 (s.takeWhile dgt).length)∧Below w.heap.size w w' :=by
 refine Go.Ab.ai.calls (args:=[.s s,.fn 193 []]) ⟨_,Tryz.func230,adg,rfl⟩ ((MV _ _ mN s cR).mono fun _ _ h=>h.1) rfl (fun i hi=>?_)
 rcases i with _|_|i
 ·exact .s s (by grind [lim,Nat])
 ·exact .fn _ [] #[] rfl (fun i hi=>by cases hi)
 ·simp at hi;omega
def As(neg:Bool)(d:Txt):Int:=if neg then -(mY d:Int)else(mY d:Int)
def inI(neg:Bool)(d:Txt):Prop:= -9223372036854775808≤(if neg then -(mY d:Int)else(mY d:Int))∧(if neg then -(mY d:Int)else(mY d:Int))≤9223372036854775807
instance (neg:Bool) (d:Txt):Decidable (inI neg d):=inferInstanceAs (Decidable (_∧_))
theorem zB(neg:Bool):(pY neg).length≤1:=by cases neg<;>decide
theorem BZ(neg:Bool)(d:Txt)(h0:d≠ [])(hd:∀c∈d,dgt c=true)(hlen:d.length≤10000)(S:ByteArray)(hS:S=⟨(pY neg++d).toArray⟩)(hr:inI neg d)(W:World):
  Calls Tryz.prog 134 #[.string S] W fun e w' =>e= .returned (.tuple #[.int .i64 (As neg d),.nilIface])∧Below W.heap.size W w' :=by
 have hl:=zB neg;have hsz:S.size≤10001:=by grind [ByteArray.size]
 have ha:Lib.atoiAll S.data.toList= .ok (As neg d):=by
  rw[hS];rw[vO neg d h0 hd];exact if_pos hr
 refine(Tryz.strconv_Atoi_ok S ac0 _ ha W).mono ?_
 rintro e w' ⟨rfl,rfl|⟨t,rfl⟩⟩
 ·exact⟨rfl,.refl _ _⟩
 ·exact⟨rfl,Lib.bytesWorld_below W _ t⟩
theorem CV(neg:Bool)(d:Txt)(h0:d≠ [])(hd:∀c∈d,dgt c=true)(hlen:d.length≤10000)(S:ByteArray)(hS:S=⟨(pY neg++d).toArray⟩)(hr:¬inI neg d)(W:World)(ev:Value)(hv:W.cell? ⟨2,0,none⟩=some ev)(hev:ev= .nilIface∨∃te pe,ev= .iface te pe):
  Calls Tryz.prog 134 #[.string S] W fun e w' =>(∃(x:Int) (N:Nat),e= .returned (.tuple #[.int .i64 x,.iface 306 (.pointer (some ⟨N,0,none⟩))]))∧Below W.heap.size W w' :=by
 have hl:=zB neg;have hsz:S.size≤10001:=by grind [ByteArray.size]
 have ha:Lib.atoiAll S.data.toList= .range:=by
  rw[hS];rw[vO neg d h0 hd];exact if_neg hr
 refine(Tryz.strconv_Atoi_range S ac0 ha ev W hv hev).mono ?_
 grind
set_option maxHeartbeats 1000000 in
theorem D6(neg:Bool)(s:Txt)(hs:s.length≤10000)(w:World)(ev:Value)(hv:w.cell? ⟨2,0,none⟩=some ev)(hev:ev= .nilIface∨∃te pe,ev= .iface te pe)(hg:2<w.heap.size):
  Calls Tryz.prog 194 #[.string ⟨(pY neg).toArray⟩,.string ⟨s.toArray⟩] w fun e w' =>e= .returned (.tuple #[.int .i64 (eY neg s).1,.int .i64 ((eY neg s).2:Nat)])∧Below w.heap.size w w' :=by
 have hle:=j0 dgt s;obtain⟨d,ed⟩:∃d,s.takeWhile dgt=d:=⟨_,rfl⟩;have htk:s.take d.length=d:=by grind [rz]
 have hrun:=J8 s ac0 w;have hall:=Aq s;rw[ed]at hrun hle hall
 go_enter Tryz.func194,Tryz.ntmps194
 by_cases h0:d.length=0
 ·have e0:d= []:=by grind
  have en:eY neg s=(0,0):=by simp_all [eY,if_pos]
  go_wp2_with (go_at_call 230;refine hrun.mono ?_)
  rintro e W0 ⟨rfl,b0⟩
  rw[h0]
  go_wp2
  go_ret2
  simp_all
 ·have e0:d≠ []:=by grind
  go_wp2_with (go_at_call 230;refine hrun.mono ?_)
  rintro e W0 ⟨rfl,b0⟩
  have hpos:0<d.length:=ac0;have hs0:0<s.length:=ac0;have hsz:0<(⟨s.toArray⟩:ByteArray).size:=by grind [ByteArray.size]
  have hg0:(⟨s.toArray⟩:ByteArray)[0]=s[0]:=rfl;have hgn:∀x:UInt8,(s.head? =some x)↔s[0]=x:=fun x=>by
   rw[List.head?_eq_getElem?,List.getElem?_eq_getElem hs0];simp
  cases d0:((d.length:Int)==0)
  case true=>exact absurd ac1 h0
  have hS:(⟨(pY neg).toArray⟩:ByteArray)++(⟨s.toArray⟩:ByteArray).extract 0 d.length=⟨(pY neg++d).toArray⟩:=by
   apply ByteArray.ext
   simp_all
  have hcat:¬9223372036854775807<List.length (pY neg)+d.length:=by grind [zB]
  cases d1:decide (1<(d.length:Int))
  ·have f1:¬1<d.length:=by grind
   have en:eY neg s=if inI neg d then(As neg d,d.length)else(0,0):=by
    unfold eY;rw[ed,if_neg ac1];rfl
   have hv0:W0.cell? ⟨2,0,none⟩=some ev:=by rw[b0.cell hg];omega
   by_cases hr:inI neg d
   ·rw[if_pos hr]at en
    go_wp2_with (go_at_call 134;refine(BZ neg d e0 hall ac0 _ adg hr _).mono ?_)
    rintro e W1 ⟨rfl,b1⟩
    go_wp2
    go_ret2
    rw[en];exact aeM
   ·rw[if_neg hr]at en
    go_wp2_with (go_at_call 134;refine(CV neg d e0 hall ac0 _ adg hr _ ev hv0 hev).mono ?_)
    rintro e W1 ⟨⟨x,N,rfl⟩,b1⟩
    go_wp2
    go_ret2
    rw[en];exact aeM
  ·have f1:1<d.length:=by grind
   cases d2:((s[0].toNat:Int)==48)
   ·have f2:s.head?≠some 48:=by
     rw[ne_eq,hgn];intro e;simp_all
    have en:eY neg s=if inI neg d then(As neg d,d.length)else(0,0):=by
     unfold eY;rw[ed,if_neg ac1];rfl
    have hv0:W0.cell? ⟨2,0,none⟩=some ev:=by rw[b0.cell hg];omega
    by_cases hr:inI neg d
    ·rw[if_pos hr]at en
     go_wp2_with (go_at_call 134;refine(BZ neg d e0 hall ac0 _ adg hr _).mono ?_)
     rintro e W1 ⟨rfl,b1⟩
     go_wp2
     go_ret2
     rw[en];exact aeM
    ·rw[if_neg hr]at en
     go_wp2_with (go_at_call 134;refine(CV neg d e0 hall ac0 _ adg hr _ ev hv0 hev).mono ?_)
     rintro e W1 ⟨⟨x,N,rfl⟩,b1⟩
     go_wp2
     go_ret2
     rw[en];exact aeM
   ·have f2:s.head? =some 48:=by
     rw[hgn];have:(s[0].toNat:Int)=48:=ac1;exact UInt8.toNat_inj.1 ac1
    have en:eY neg s=(0,0):=by simp_all [eY,if_pos]
    go_wp2
    go_ret2
    simp_all
def jj(h:Heap):Prop:=∃ev:Value,(ev= .nilIface∨∃te pe,ev= .iface te pe)∧Tab h 2 [ev]
theorem jj.sub{h h' :Heap}(he:jj h)(hs:Ab.Sub h h'):jj h' :=by
 obtain⟨ev,h1,h2⟩:=he;exact⟨ev,h1,h2.sub hs⟩
theorem mA(neg:Bool)(s:Txt)(hs:s.length≤10000)(h:Heap)(he:jj h):ai Tryz.prog 194 [.s (pY neg),.s s] h fun r h' =>r= .tup [.v (.int .i64 (eY neg s).1),.i ((eY neg s).2:Nat)]∧h' =h:=by
 obtain⟨ev,hev,id,hi⟩:=he;refine .lib ⟨_,Tryz.func194,adg,rfl⟩ fun c vs hs' g h1 h2=>?_
 obtain⟨u,v,rfl⟩:∃u v,vs= #[u,v]:=by
  match vs,h1 with
  |⟨[u,v]⟩,_=>exact⟨u,v,rfl⟩
 have e1:u= .string ⟨(pY neg).toArray⟩:=((h2 0 ac7).lD).1;have e2:v= .string ⟨s.toArray⟩:=((h2 1 ac7).lD).1;subst e1;subst e2
 obtain⟨_,t,fr,hh⟩:=g.ro id _ _ (hs' _ _ hi);have hc:c.w.cell? ⟨2,0,none⟩=some ev:=by grind [World.cell?]
 refine(D6 neg s hs c.w ev hc hev (cX hh)).mono ?_;exact aia
end Go.Proofs.YtfdgemhnlennbaaGreatDoor
namespace Go.Bf
open Go Go.Ab
def marks:Txt:=[123,125,40,41,46,44,59,61,60,62,33]
theorem z7:∀n:Fin 256,decide (0≤Lib.indexByte marks (UInt8.ofNat n.val))=DW (UInt8.ofNat n.val):=ac4
theorem rI(c:UInt8):decide (0≤Lib.indexByte marks c)=DW c:=by
 have:=z7 ⟨c.toNat,c.toNat_lt⟩;simpa using this
end Go.Bf
namespace Go.Proofs.YtfdgemhnlennbaaGreatDoor
open Go Go.Ab Go.Bf
theorem DE(l:Txt)(c:UInt8)(h:Heap):ai Tryz.prog 196 [.s l,.v (.int .u8 c.toNat)] h fun r h' =>r= .i (Lib.indexByte l c)∧h' =h:=by
 refine .lib ⟨_,Tryz.func196,adg,rfl⟩ fun cx vs hs' g h1 h2=>?_
 obtain⟨u,v,rfl⟩:∃u v,vs= #[u,v]:=by
  match vs,h1 with
  |⟨[u,v]⟩,_=>exact⟨u,v,rfl⟩
 have e1:u= .string ⟨l.toArray⟩:=((h2 0 ac7).lD).1;have e2:v= .int .u8 c.toNat:=(h2 1 ac7).bP;subst e1;subst e2
 refine(Tryz.strings_IndexByte ⟨l.toArray⟩ c.toNat cx.w).mono ?_;exact aii
theorem IL(s:Txt)(h0:s≠ [])(hs:s.length≤4096)(h:Heap)(he:jj h):ai Tryz.prog 150 [.s s] h fun r h' =>r= .tup [fB (bQ s).1,.i ((bQ s).2:Nat)]∧h' =h:=by
 refine acZ Tryz.func150 106 [.cell 2 172,.tmp 3] fun hwf=>?_
 obtain⟨c,r,rfl⟩:=List.exists_cons_of_ne_nil h0;have hsl:r.length≤4095:=by simpa using hs
 simp only[go_sem];intro i2 hi2;simp only[go_sem];intro i4 hi4;have n24:=aH hi4;have g2:∀(f:Heap) (x:Option Blk),upd f i4 x i2=f i2:=fun f x=>ag f x n24.symm
 have g4:∀(f:Heap) (x:Option Blk),upd f i2 x i4=f i4:=fun f x=>ag f x n24
 have hsub:Ab.Sub h (upd (upd h i2 (some (.obj [.i 0,.i 0,.i 0,.s []] 172))) i4 (some (.obj [.i 0,.i 0,.i 0,.s []] 172))):=(Sub.aj hi2).trans (.aj hi4);have he2:=he.sub hsub;have hi4h:h i4=none:=by rw[ag _ _ n24]at hi4;exact hi4
 simp only[go_sem];refine .at 0 ac7 ?_;cases la:decide (97≤(c.toNat:Int))
 ·have hl:ltr c=false:=by simp only[ltr,la,Bool.false_and]
  simp only[go_sem,aK,List.getElem_cons_zero,la];exact ahd
 ·cases lb:decide ((c.toNat:Int)≤122)
  ·have hl:ltr c=false:=by simp only[ltr,lb,Bool.and_false]
   simp only[go_sem,aK,List.getElem_cons_zero,la,lb];exact ahd
  ·have hl:ltr c=true:=by simp only[ltr,la,lb];rfl
   simp only[go_sem,aK,List.getElem_cons_zero,la,lb];refine(yX _ _).pthen ?_;simp only[go_sem,g2,ah];exact .mk _ (.refl _) ac2 ⟨by simp[bQ,hl,fB,ax],rfl⟩
theorem Px:(U 172).sz=4:=adg
theorem Vv:(U 172).bytes=40:=adg
theorem pQ(l:List qi):Sized 4 (l.map fB):=fun z hz=>by
 obtain⟨c,_,rfl⟩:=List.mem_map.1 hz;rfl
def F9:Lexed→AV
 |.bad e a=> .tup [.sl [] .no,.i e,.i a]
 |.ok l=> .tup [.sl (l.map fB) .no,.i 0,.i 0]
def KE(s:Txt)(h:Heap)(m:Nat)(ρ:Env)(h' :Heap):Prop:=
 ∃(i f:Nat) (y:AV) (out:List qi) (id:Nat),Acc U 172 h h' y (out.map fB)∧out.length≤i∧i≤s.length∧m=s.length - i∧s.length<f+i∧s.length≤4096∧h id=none∧(∃c0 c1 c2 c3,h' id=some (.obj [c0,c1,c2,c3] 172))∧tO f (s.drop i) i out=qO s∧lk ρ 0=some (.s s)∧lk ρ 5=some y∧lk ρ 6=some (.ptr id 0)∧lk ρ 7=some (.i i)
theorem xU(s:Txt)(h:Heap)(he:jj h):ai Tryz.prog 94 [.s s] h fun r h' =>r=F9 (qO s)∧h' =h:=by
 refine ai.of_wp hU Tryz.func94 rfl adg 52 rfl [.tmp 2,.tmp 3,.tmp 4] rfl (acP rfl) ?_;refine .one hU hm ?_;simp only[go_sem];refine WP.MX hU hm 0 (KE s h) rfl ?_ ?_
 ·rintro m ρ h' ⟨i,f,y,out,id,hy,hoi,hi,rfl,hf,hs,hid,⟨c0,c1,c2,c3,hob⟩,hl,r0,r5,r6,r7⟩
  refine .vc hU hm ?_;cases d1:((i:Int)==(s.length:Int))
  case true=>
   have e1:i=s.length:=ac1;subst e1;obtain⟨f,rfl⟩:∃g,f=g+1:=⟨f - 1,ac0⟩;rw[List.drop_length]at hl;simp only[tO]at hl;simp only[go_sem,r0,r5,r7,d1];refine hy.app (zs:=[fB ⟨7,s.length,0,[]⟩]) ac4 ac4 (fun k hk=>hk) (by grind [Px,pQ]) (by rw[Px];exact pQ [⟨7,s.length,0,[]⟩]) (by grind [Vv]) fun y' h2 hy' hk2=>?_
   simp only[go_sem];obtain⟨q,rfl⟩:=hy'.row;refine .mk _ (BF _ _ _ _) hy'.1 ⟨?_,rfl⟩
   grind [F9]
  have e1:i≠s.length:=ac1;have hlt:i<s.length:=ac0;obtain⟨f,rfl⟩:∃g,f=g+1:=⟨f - 1,ac0⟩;have hdr:s.drop i=s[i]::s.drop (i+1):=ac7;have w1:IntKind.i64.wrap ((i:Int)+1)=((i+1:Nat):Int):=adf;have hl2:=hl;rw[hdr]at hl2;simp only[tO]at hl2;rw[←hdr]at hl2;have blank:qp s[i]=true→∃m',m' <s.length - i∧True:=fun _=>⟨s.length - (i+1),ac0,trivial⟩
  cases d2:((s[i].toNat:Int)==32)
  case true=>
   have hb:qp s[i]=true:=by simp only[qp,d2,Bool.true_or]
   rw[if_pos hb]at hl2;simp only[go_sem,r0,r7,d1];refine .at i hlt ?_;simp only[go_sem,r7,aK,d2,w1];exact ah8
  cases d3:((s[i].toNat:Int)==10)
  case true=>
   have hb:qp s[i]=true:=by simp only[qp,d3,Bool.or_true]
   rw[if_pos hb]at hl2;simp only[go_sem,r0,r7,d1];refine .at i hlt ?_;simp only[go_sem,r0,r7,aK,d2];refine .at i hlt ?_;simp only[go_sem,r7,aK,d3,w1];exact ah8
  have hb:¬qp s[i]=true:=by grind [qp]
  rw[if_neg hb]at hl2;have hne:s.drop i≠ []:=fun e=>by have:=congrArg List.length e;simp at this;omega
  have hle:=so (s.drop i) hne;have hdl:(s.drop i).length=s.length - i:=ac7;have hbo:=fun hh eh=>IL (s.drop i) hne ac0 hh eh
  obtain⟨t,n,etn⟩:∃t n,bQ (s.drop i)=(t,n):=⟨_,_,rfl⟩;rw[etn]at hbo hl2 hle;simp only[fB]at hbo hl2 hle;simp only[go_sem,r0,r7,d1];refine .at i hlt ?_;simp only[go_sem,r0,r7,aK,d2];refine .at i hlt ?_;simp only[go_sem,r0,r7,aK,d3,l8,Option.isSome_none,Option.isSome_some,Int.toNat_natCast];refine⟨ac0,ac0,ac0,?_⟩;refine(hbo _ (he.sub hy.1)).pthen ?_;cases d4:((n:Int)==0)
  case true=>
   have e4:n=0:=ac1;rw[if_pos e4]at hl2;simp only[go_sem,r6,r7,hob,d4];refine .mk _ (BF _ _ _ _) (hy.1.put hid _) ⟨?_,rfl⟩;rw[←hl2];rfl
  have e4:n≠0:=ac1;rw[if_neg e4]at hl2;have w2:IntKind.i64.wrap ((i:Int)+(n:Int))=((i+n:Nat):Int):=adf;simp only[go_sem,r5,r6,r7,hob,d4];refine(hy.put hid hob _).app (zs:=[fB {t with pos:=i}]) ac4 ac4 (fun k hk=>hk) (by grind [Px,pQ]) (by rw[Px];exact pQ [{t with pos:=i}]) (by grind [Vv]) fun y' h2 hy' hk2=>?_
  simp only[go_sem,r7,w2];refine⟨s.length - (i+n),ac0,i+n,f,y',out++ [{t with pos:=i}],id,ac1,ac1,ac0,rfl,ac0,hs,hid,⟨_,_,_,_,hk2 _ _ _ (ah ..)⟩,?_,?_,?_,?_,?_⟩
  ·grind [List.drop_drop]
  all_goals simp only[go_sem,r0,r6]
 ·intro nx
  cases d0:decide (4096<(s.length:Int))
  case true=>
   have e0:s.length>4096:=ac1;refine .one hU hm ?_;simp only[go_sem,d0];exact .mk (.tup [.sl [] .no,.i 6,.i 4096]) (fC (.tup [.sl [] .full,.i 6,.i 4096])) (.refl _) ⟨by rw[qO,if_pos e0];rfl,rfl⟩
  have e0:¬s.length>4096:=ac1;refine .one hU hm ?_;simp only[go_sem,d0];refine .one hU hm ?_;simp only[go_sem];refine .one hU hm ?_;simp only[go_sem];intro id hid;simp only[go_sem];refine .one hU hm ?_;simp only[go_sem];refine .one hU hm ?_;simp only[go_sem];refine nx (s.length - 0) _ _ ⟨0,s.length+1,_,[],id,.full (.aj hid),ac7,ac0,rfl,ac0,ac0,hid,⟨_,_,_,_,ah ..⟩,by simp_all [qO,if_neg],?_,?_,?_,?_⟩<;>simp only[go_sem]
def PO(st:PS):Blk:=.obj [.sl (st.ts.map fB) .no,.i st.pos,.i st.rules,.i st.bad,.i st.place] 169
def PC(f:FuncId)(args:List AV)(st:PS)(R:AV)(st' :PS):Prop:=∀(h:Heap) (id:Nat),h id=some (PO st)→ai Tryz.prog f (.ptr id 0::args) h fun r h' =>r=R∧h' =upd h id (some (PO st'))
theorem PC.go{f:FuncId}{args:List AV}{st st' :PS}{R:AV}(hc:PC f args st R st'){h:Heap}{id:Nat}{Q:AV→Heap→Prop}(hid:h id=some (PO st))(k:Q R (upd h id (some (PO st')))):ai Tryz.prog f (.ptr id 0::args) h Q:=
 (hc h id hid).mono fun r h' ⟨e1,e2⟩=>afE
theorem bE{h:Heap}{id:Nat}{b:Option Blk}(e:h id=b):upd h id b=h:=by
 grind [ah,ag]
theorem rD(st:PS)(e p:Int):PC 99 [.i e,.i p] st (.tup []) (bG st e p):=fun h id hid=>by
 refine acZ Tryz.func99 19 [] fun hwf=>?_
 have g:=hid;unfold PO at g;cases d1:(st.bad==0)
 ·have e1:st.bad≠0:=by grind
  simp only[go_sem,g,d1];exact .mk _ (.refl _) (.refl _) ⟨rfl,by rw[bG,if_neg e1,bE hid]⟩
 ·have e1:st.bad=0:=by grind
  simp only[go_sem,g,d1];exact .mk _ (.refl _) (.refl _) ⟨rfl,by rw[bG,if_pos e1];rfl⟩
theorem mc(st:PS)(hw:WfP st):PC 96 [] st (fB (aJ st)) st:=fun h id hid=>by
 refine acZ Tryz.func96 13 [.cell 2 172] fun hwf=>?_
 have g:=hid;unfold PO at g;simp only[go_sem];intro i2 hi2;have n2:id≠i2:=fun e=>ac1
 simp only[go_sem,g,ak,n2];refine⟨.of ac3,?_⟩;refine .at st.pos (by simpa using hw.1) adi ?_
 simp only[go_sem,acR,fB];refine .mk _ (.refl _) (.aj hi2) ⟨by rw[DB hw.1];rfl,(bE hid).symm⟩
theorem lE(st:PS)(hw:WfP st):PC 97 [] st (.tup []) (bn st):=fun h id hid=>by
 refine acZ Tryz.func97 7 [] fun hwf=>?_
 simp only[go_sem];refine(mc st hw).go hid ?_;rw[bE hid];simp only[go_sem,fB];refine(rD st 5 _).go hid ?_;exact ahO
theorem cK(st:PS)(b:Bool)(hw:WfP st):PC 200 [.b b] st (.tup []) (bD st b):=fun h id hid=>by
 refine acZ Tryz.func200 10 [] fun hwf=>?_
 cases b
 ·simp only[go_sem]
  exact afK
 simp only[go_sem];refine(mc st hw).go hid ?_;rw[bE hid];simp only[go_sem,fB];refine(rD st 6 _).go hid ?_;exact ahO
theorem tL(st:PS)(s:Txt)(hw:WfP st):PC 201 [.s s] st (.b (isD st s)) st:=fun h id hid=>by
 refine acZ Tryz.func201 29 [.tmp 4] fun hwf=>?_
 have g:=hid;unfold PO at g;simp only[go_sem];refine(mc st hw).go hid ?_;rw[bE hid];simp only[go_sem,fB];intro i2 hi2;have n2:id≠i2:=fun e=>ac1
 cases d1:(st.bad==0)<;>cases d2:((aJ st).s==s)<;>cases d3:((aJ st).kind==1)<;>cases d4:((aJ st).kind==6)
 all_goals
  simp only[go_sem,g,ak,n2,d1,d2,d3,d4];exact .mk _ (.refl _) (.aj hi2) ⟨by simp only[isD,d1,d2,d3,d4];rfl,rfl⟩
theorem j3(st:PS)(s:Txt)(hw:WfP st):PC 198 [.s s] st (.v (.bool (cp st s).1)) (cp st s).2:=fun h id hid=>by
 refine acZ Tryz.func198 18 [.tmp 4] fun hwf=>?_
 have g:=hid;unfold PO at g;simp only[go_sem];refine(tL st s hw).go hid ?_;rw[bE hid];cases d1:isD st s
 ·have e:cp st s=(false,st):=by grind [cp]
  simp only[go_sem];exact .mk _ (.refl _) (.refl _) ⟨agQ,by grind [bE]⟩
 ·have e:cp st s=(true,bg st):=by grind [cp]
  have w1:IntKind.i64.wrap ((st.pos:Int)+1)=((st.pos+1:Nat):Int):=aeG;simp only[go_sem,g,w1];exact .mk _ (.refl _) (.refl _) ⟨agQ,agQ⟩
theorem kQ(st:PS)(s:Txt)(hw:WfP st):PC 154 [.s s] st (.tup []) (dV st s):=fun h id hid=>by
 refine acZ Tryz.func154 10 [] fun hwf=>?_
 simp only[go_sem];refine(j3 st s hw).go hid ?_;cases d1:isD st s
 ·have e:cp st s=(false,st):=by grind [cp]
  rw[e,bE hid];simp only[go_sem];refine(lE st hw).go hid ?_;exact aiK
 ·have e:cp st s=(true,bg st):=by grind [cp]
  rw[e];exact aiK
theorem ud(st:PS)(hw:WfP st):PC 152 [] st (.s (cm st).1) (cm st).2:=fun h id hid=>by
 refine acZ Tryz.func152 25 [.tmp 2] fun hwf=>?_
 have g:=hid;unfold PO at g;have w1:IntKind.i64.wrap ((st.pos:Int)+1)=((st.pos+1:Nat):Int):=aeG;simp only[go_sem];refine(mc st hw).go hid ?_;rw[bE hid];simp only[go_sem,fB];intro i2 hi2;have n2:id≠i2:=fun e=>ac1
 cases d1:((aJ st).kind !=1)
 case true=>
  have e1:(aJ st).kind≠1:=ac1;have en:cm st=([],bn st):=by grind [cm]
  simp only[go_sem,d1];have hid2:upd h i2 (some (.obj [.v (.int .i64 (aJ st).kind),.v (.int .i64 (aJ st).pos),.v (.int .i64 (aJ st).n),.s (aJ st).s] 172)) id=some (PO st):=adD;refine(lE st hw).go hid2 ?_;have hb:(bn st).bad≠0:=by
   grind [bn,bG,Int]
  have d2:((bn st).bad !=0)=true:=ac1;simp only[go_sem,PO,d2];exact .mk _ (.refl _) (Sub.both (.aj hi2) _ _) ⟨adR,ac1⟩
 have e1:(aJ st).kind=1:=ac1;cases d2:(st.bad !=0)
 case true=>
  have e2:st.bad≠0:=ac1;have en:cm st=([],st):=by grind [cm]
  simp only[go_sem,g,ak,n2,d1,d2];exact .mk _ (.refl _) (.aj hi2) ⟨adR,by grind [bE]⟩
 have e2:st.bad=0:=ac1;have en:cm st=((aJ st).s,bg st):=by grind [cm]
 simp only[go_sem,g,ak,n2,n2.symm,d1,d2,w1];exact .mk _ (.refl _) (Sub.both (.aj hi2) _ _) ⟨adR,by rw[en];try rfl⟩
theorem PC.run{f:FuncId}{args:List AV}{st st' :PS}{R:AV}(hc:PC f args st R st'){G:Heap}{id:Nat}{Q:AV→Heap→Prop}(k:Q R (upd G id (some (PO st')))):ai Tryz.prog f (.ptr id 0::args) (upd G id (some (PO st))) Q:=
 hc.go (ah ..) (by rw[cP];exact k)
theorem PC.of{f:FuncId}{args:List AV}{st st' :PS}{R:AV}(hk:∀(G:Heap) (id:Nat),ai Tryz.prog f (.ptr id 0::args) (upd G id (some (PO st))) fun r h' =>r=R∧h' =upd G id (some (PO st'))):PC f args st R st' :=fun h id hid=>by
 have:=hk h id;rw[bE hid]at this;exact adN
theorem ct{α:Type}(f:Nat→α){i j:Nat}(x y:α)(h:i≠j):upd (upd f i x) j y=upd (upd f j y) i x:=by
 grind [ag,ah]
theorem Ci{s:Txt}:∀ {ws:List Txt} {i:Nat},u7 s ws=some i→i<ws.length
 |w::r,i,h=>by
  simp only[u7]at h;split at h
  ·grind
  ·cases hr:u7 s r with
   |none=>grind
   |some j=>rw[hr]at h;cases h;have:=Ci hr;simp;omega
theorem HF{s:Txt}:∀ {ws:List Txt} (i:Nat) (hi:i<ws.length),(∀j (hj:j<ws.length),j<i→ws[j]≠s)→ws[i]=s→u7 s ws=some i
 |w::r,0,_,_,h=>by grind [u7]
 |w::r,i+1,hi,hb,h=>by
  have h0:=hb 0 ac7 ac0;simp only[List.getElem_cons_zero]at h0;simp only[u7,if_neg h0];rw[HF i ac1 ac1 ac1];rfl
theorem AY{s:Txt}:∀ {ws:List Txt},(∀j (hj:j<ws.length),ws[j]≠s)→u7 s ws=none
 | [],_=>rfl
 |w::r,hb=>by
  have h0:=hb 0 ac7;simp only[List.getElem_cons_zero]at h0;simp only[u7,if_neg h0];rw[AY (fun j hj=>by have:=hb (j+1) ac1;simpa using this)]
  rfl
def RH(o:Option Nat):Int:=match o with
 |some i=>i
 |none=> -1
theorem JB(ws:List Txt)(q:Perm)(s:Txt)(hl:ws.length≤1000)(h:Heap):ai Tryz.prog 197 [.sl (ws.map AV.s) q,.s s] h fun r h' =>r= .i (RH (u7 s ws))∧h' =h:=by
 refine acZ Tryz.func197 19 [.tmp 4] fun hwf=>?_
 simp only[go_sem,acQ];refine .intro (fun m ρ h' =>h' =h∧∃i:Nat,i≤ws.length∧m=ws.length - i∧(∀j (hj:j<ws.length),j<i→ws[j]≠s)∧lk ρ 0=some (.sl (ws.map AV.s) q)∧lk ρ 1=some (.s s)∧lk ρ 7=some (.i ws.length)∧lk ρ 8=some (.i i)) ws.length ?_ ?_
 ·refine⟨rfl,0,ac0,rfl,fun j _ hj=>ac0,?_,?_,?_,?_⟩<;>simp only[go_sem]
 ·rintro m ρ h' ⟨rfl,i,hi,rfl,hc,r0,r1,r7,r8⟩
  simp only[go_sem,r7,r8];refine .intro (fun e=>?_) (fun e=>?_)
  ·have hlt:i<ws.length:=acX e
   have w1:IntKind.i64.wrap ((i:Int)+1)=((i+1:Nat):Int):=adf;simp only[go_sem,r0,r1,r8];refine .at i ac1 adi ?_;cases d1:(s==ws[i])
   ·have e1:ws[i]≠s:=by grind
    simp only[go_sem,r8,acR,d1,w1];refine⟨_,?_,rfl,i+1,ac0,rfl,fun j hj hji=>?_,?_,?_,?_,?_⟩
    ·omega
    ·grind
    all_goals simp only[go_sem,r0,r1,r7]
   ·have e1:ws[i]=s:=by grind
    simp only[go_sem,acR,d1];exact .same (.refl _) ⟨by rw[HF i hlt hc e1];rfl,rfl⟩
  ·have hge:i=ws.length:=by grind
   subst hge;simp only[go_sem];exact .same (.refl _) ⟨by rw[AY fun j hj=>hc j hj hj];rfl,rfl⟩
theorem oo(st:PS)(ws:List Txt)(q:Perm)(hl:ws.length≤1000)(hw:WfP st):PC 151 [.sl (ws.map AV.s) q] st (.v (.int .i64 (aW st ws).1)) (aW st ws).2:=.of fun G id=>by
 refine acZ Tryz.func151 28 [.tmp 4] fun hwf=>?_
 simp only[go_sem];refine(mc st hw).run ?_;simp only[go_sem,fB];intro i2 hi2;have n2:=aH hi2;have hG2:G i2=none:=adD;have c2:∀(f:Heap) (x y:Option Blk),upd (upd f id x) i2 y=upd (upd f i2 y) id x:=fun f x y=>ct f x y n2.symm
 cases d1:((aJ st).kind==1)
 ·have e1:(aJ st).kind≠1:=by grind
  have en:aW st ws=(0,bn st):=by grind [aW]
  simp only[go_sem,c2,ak,n2,d1];exact ahK
 have e1:(aJ st).kind=1:=ac1;simp only[go_sem,c2,ak,n2,d1];refine(JB ws q _ hl _).pthen ?_;cases ei:u7 (aJ st).s ws with
 |none=>
  have en:aW st ws=(0,bn st):=by grind [aW]
  have dm:decide ((0:Int)≤ -1)=false:=ac4;simp only[go_sem,RH,dm];exact ahK
 |some i=>
  have hil:=Ci ei;have d2:decide (0≤(i:Int))=true:=ac7;have w1:IntKind.i64.wrap ((i:Int)+1)=((i:Int)+1):=adf;simp only[go_sem,RH,d2,ak,n2];refine(j3 st _ hw).run ?_;cases d3:(st.bad==0)
  ·have e3:st.bad≠0:=by grind
   have et:cp st (aJ st).s=(false,st):=by grind [cp,isD]
   have en:aW st ws=(0,bn st):=by grind [aW]
   rw[et];simp only[go_sem];exact ahK
  ·have e3:st.bad=0:=by grind
   have et:cp st (aJ st).s=(true,bg st):=by grind [cp,isD]
   have en:aW st ws=((i:Int)+1,bg st):=by grind [aW]
   rw[et];simp only[go_sem,w1];exact .mk _ (.refl _) (Sub.both (.aj hG2) _ _) ⟨adR,by rw[en]⟩
theorem KY(st:PS)(hw:WfP st):PC 291 [] st (CW (fW st).1) (fW st).2:=.of fun G id=>by
 have h1:=gA vQ hw;have h2:=jh [46] h1.1;have h3:=nj h2.1;refine acZ Tryz.func291 17 [.cell 2 213] fun hwf=>?_
 simp only[go_sem];intro i2 hi2;have n2:=aH hi2;have hG2:G i2=none:=adD;have c2:∀(f:Heap) (x y:Option Blk),upd (upd f id x) i2 y=upd (upd f i2 y) id x:=fun f x y=>ct f x y n2.symm
 simp only[go_sem,c2];intro i3 hi3;have n3:=aH hi3;have hi3' :=hi3;rw[ag _ _ n3]at hi3';have n32:=aH hi3';have hG3:G i3=none:=adD;have c3:∀(f:Heap) (x y:Option Blk),upd (upd f id x) i3 y=upd (upd f i3 y) id x:=fun f x y=>ct f x y n3.symm
 have c23:∀(f:Heap) (x y:Option Blk),upd (upd f i3 x) i2 y=upd (upd f i2 y) i3 x:=fun f x y=>ct f x y n32
 have m32:¬i3=i2:=n32;have m23:¬i2=i3:=n32.symm;simp only[go_sem,c3];refine(oo st vQ .full ac4 hw).run ?_;simp only[go_sem,c3,ak,n3];refine(kQ _ [46] h1.1).run ?_;simp only[go_sem];refine(ud _ h2.1).run ?_;simp only[go_sem,c3,ak,n3];refine(j3 _ [33] h3.1).run ?_;simp only[go_sem,c2,c3,c23,ak,n2,n3,m23];exact .mk _ (.refl _) (Sub.both adu _ _) ⟨rfl,rfl⟩
theorem uy(st:PS)(hw:WfP st):PC 292 [] st (aQ (aD st).1) (aD st).2:=.of fun G id=>by
 refine acZ Tryz.func292 56 [.cell 2 33] fun hwf=>?_
 have w1:IntKind.i64.wrap ((st.pos:Int)+1)=((st.pos+1:Nat):Int):=aeG;simp only[go_sem];intro i2 hi2;have n2:=aH hi2;have hG2:G i2=none:=by rw[ag _ _ n2]at hi2;exact hi2
 have c2:∀(f:Heap) (x y:Option Blk),upd (upd f id x) i2 y=upd (upd f i2 y) id x:=fun f x y=>ct f x y n2.symm
 simp only[go_sem,c2];refine(mc st hw).run ?_;simp only[go_sem,fB];intro i3 hi3;have n3:=aH hi3;have hi3' :=hi3;rw[ag _ _ n3]at hi3';have n32:=aH hi3';have hG3:G i3=none:=by rw[ag _ _ n32]at hi3';exact hi3'
 have c3:∀(f:Heap) (x y:Option Blk),upd (upd f id x) i3 y=upd (upd f i3 y) id x:=fun f x y=>ct f x y n3.symm
 have c23:∀(f:Heap) (x y:Option Blk),upd (upd f i3 x) i2 y=upd (upd f i2 y) i3 x:=fun f x y=>ct f x y n32
 have m32:¬i3=i2:=n32;have m23:¬i2=i3:=n32.symm;simp only[go_sem,c3,ak,n3];intro i4 hi4;have n4:=aH hi4;have hi4' :=hi4;rw[ag _ _ n4]at hi4';have n43:=aH hi4';have hi4'' :=hi4';rw[ag _ _ n43]at hi4'';have n42:=aH hi4'';have hG4:G i4=none:=by rw[ag _ _ n42]at hi4'';exact hi4''
 have c4:∀(f:Heap) (x y:Option Blk),upd (upd f id x) i4 y=upd (upd f i4 y) id x:=fun f x y=>ct f x y n4.symm
 have c24:∀(f:Heap) (x y:Option Blk),upd (upd f i4 x) i2 y=upd (upd f i2 y) i4 x:=fun f x y=>ct f x y n42
 have c34:∀(f:Heap) (x y:Option Blk),upd (upd f i4 x) i3 y=upd (upd f i3 y) i4 x:=fun f x y=>ct f x y n43
 have m42:¬i4=i2:=n42;have m24:¬i2=i4:=n42.symm;have m43:¬i4=i3:=n43;have m34:¬i3=i4:=n43.symm;cases k2:((aJ st).kind==2)
 case true=>
  have e2:(aJ st).kind=2:=by simpa using k2
  have ev:fV st=(⟨2,(aJ st).n,(aJ st).s⟩,st):=by simp[fV,e2]
  cases kb:(st.bad !=0)
  ·have eb:st.bad=0:=by simpa using kb
   have en:aD st=(⟨2,(aJ st).n,(aJ st).s⟩,bg st):=aeo;simp only[go_sem,c2,c4,c23,c24,ak,n2,n3,n4,m23,m24,m34,k2,PO,kb,w1];exact ahj
  ·have eb:st.bad≠0:=by simpa using kb
   have en:aD st=(⟨0,0,[]⟩,st):=aeo;simp only[go_sem,c2,c4,c23,c24,ak,n2,n3,n4,m23,m24,m34,k2,PO,kb];exact ahj
 have e2:(aJ st).kind≠2:=by simpa using k2
 cases k3:((aJ st).kind==3)
 case true=>
  have e3:(aJ st).kind=3:=by simpa using k3
  have ev:fV st=(⟨4,(aJ st).n,(aJ st).s⟩,st):=by simp[fV,e3]
  cases kb:(st.bad !=0)
  ·have eb:st.bad=0:=by simpa using kb
   have en:aD st=(⟨4,(aJ st).n,(aJ st).s⟩,bg st):=aeo;simp only[go_sem,c2,c4,c23,c24,ak,n2,n3,n4,m23,m24,m34,k2,k3,PO,kb,w1];exact ahj
  ·have eb:st.bad≠0:=by simpa using kb
   have en:aD st=(⟨0,0,[]⟩,st):=aeo;simp only[go_sem,c2,c4,c23,c24,ak,n2,n3,n4,m23,m24,m34,k2,k3,PO,kb];exact ahj
 have e3:(aJ st).kind≠3:=by simpa using k3
 cases k4:((aJ st).kind==4)
 case true=>
  have e4:(aJ st).kind=4:=by simpa using k4
  have ev:fV st=(⟨5,(aJ st).n,(aJ st).s⟩,st):=by simp[fV,e4]
  cases kb:(st.bad !=0)
  ·have eb:st.bad=0:=by simpa using kb
   have en:aD st=(⟨5,(aJ st).n,(aJ st).s⟩,bg st):=aeo;simp only[go_sem,c2,c4,c23,c24,ak,n2,n3,n4,m23,m24,m34,k2,k3,k4,PO,kb,w1];exact ahj
  ·have eb:st.bad≠0:=by simpa using kb
   have en:aD st=(⟨0,0,[]⟩,st):=aeo;simp only[go_sem,c2,c4,c23,c24,ak,n2,n3,n4,m23,m24,m34,k2,k3,k4,PO,kb];exact ahj
 have e4:(aJ st).kind≠4:=by simpa using k4
 cases k5:((aJ st).kind==5)
 case true=>
  have e5:(aJ st).kind=5:=by simpa using k5
  have ev:fV st=(⟨3,(aJ st).n,(aJ st).s⟩,st):=by simp[fV,e5]
  cases kb:(st.bad !=0)
  ·have eb:st.bad=0:=by simpa using kb
   have en:aD st=(⟨3,(aJ st).n,(aJ st).s⟩,bg st):=aeo;simp only[go_sem,c2,c4,c23,c24,ak,n2,n3,n4,m23,m24,m34,k2,k3,k4,k5,PO,kb,w1];exact ahj
  ·have eb:st.bad≠0:=by simpa using kb
   have en:aD st=(⟨0,0,[]⟩,st):=aeo;simp only[go_sem,c2,c4,c23,c24,ak,n2,n3,n4,m23,m24,m34,k2,k3,k4,k5,PO,kb];exact ahj
 have e5:(aJ st).kind≠5:=by simpa using k5
 simp only[go_sem,c4,ak,n3,n4,m34,k2,k3,k4,k5];refine(tL st wZ hw).run ?_;cases kt:isD st wZ
 case true=>
  have ev:fV st=(⟨1,1,[]⟩,st):=by simp[fV,e2,e3,e4,e5,kt]
  cases kb:(st.bad !=0)
  ·have eb:st.bad=0:=by simpa using kb
   have en:aD st=(⟨1,1,[]⟩,bg st):=aeo;simp only[go_sem,c2,c4,c23,c24,ak,n2,n4,m23,m24,PO,kb,w1];exact ahj
  ·have eb:st.bad≠0:=by simpa using kb
   have en:aD st=(⟨0,0,[]⟩,st):=aeo;simp only[go_sem,c2,c4,c23,c24,ak,n2,n4,m23,m24,PO,kb];exact ahj
 simp only[go_sem];refine(tL st qC hw).run ?_;cases kf:isD st qC
 case true=>
  have ev:fV st=(⟨1,0,[]⟩,st):=by simp[fV,e2,e3,e4,e5,kt,kf]
  cases kb:(st.bad !=0)
  ·have eb:st.bad=0:=by simpa using kb
   have en:aD st=(⟨1,0,[]⟩,bg st):=aeo;simp only[go_sem,c2,c4,c23,c24,ak,n2,n4,m23,m24,PO,kb,w1];exact ahj
  ·have eb:st.bad≠0:=by simpa using kb
   have en:aD st=(⟨0,0,[]⟩,st):=aeo;simp only[go_sem,c2,c4,c23,c24,ak,n2,n4,m23,m24,PO,kb];exact ahj
 have ev:fV st=(⟨0,(aJ st).n,(aJ st).s⟩,bn st):=by simp[fV,e2,e3,e4,e5,kt,kf]
 have en:aD st=(⟨0,0,[]⟩,bn st):=by simp[aD,ev,rP]
 have kb:((bn st).bad !=0)=true:=by simpa using rP st
 simp only[go_sem];refine(lE st hw).run ?_;simp only[go_sem,c2,c23,c24,ak,n2,m23,m24,PO,kb];exact ahj
def tV:List Txt:=[[61],[60],[62]]
theorem Sb{st:PS}(i:Nat)(hi:i<tV.length)(hb:∀j (hj:j<tV.length),j<i→isD st tV[j]=false)(h:isD st tV[i]=true):opP st=((i:Int)+1,bg st):=by
 have h3:i<3:=hi;rcases(by omega:i=0∨i=1∨i=2)with rfl|rfl|rfl
 ·simp only[opP,show isD st [61]=true from h,if_true];rfl
 ·simp only[opP,show isD st [61]=false from hb 0 ac4 ac4,show isD st [60]=true from h,if_true];rfl
 ·simp only[opP,show isD st [61]=false from hb 0 ac4 ac4,show isD st [60]=false from hb 1 ac4 ac4,show isD st [62]=true from h,if_true];rfl
theorem Mp{st:PS}(hb:∀j (hj:j<tV.length),isD st tV[j]=false):opP st=(0,bn st):=by
 simp only[opP,show isD st [61]=false from hb 0 ac4,show isD st [60]=false from hb 1 ac4,show isD st [62]=false from hb 2 ac4];rfl
theorem HO(st:PS)(hw:WfP st):PC 266 [] st (dM (gx st).1) (gx st).2:=.of fun G id=>by
 have h1:=BR hw;obtain⟨a,st1,e1⟩:∃a st1,fW st=(a,st1):=⟨_,_,rfl⟩;have hat:=KY st hw;rw[e1]at h1 hat;simp only at h1 hat;refine acZ Tryz.func266 32 [.cell 2 265] fun hwf=>?_
 simp only[go_sem];intro i2 hi2;have n2:=aH hi2;have hG2:G i2=none:=adD;have c2:∀(f:Heap) (x y:Option Blk),upd (upd f id x) i2 y=upd (upd f i2 y) id x:=fun f x y=>ct f x y n2.symm
 simp only[go_sem,c2];refine hat.run ?_;simp only[go_sem,CW];intro i3 hi3;have n3:=aH hi3;have hi3' :=hi3;rw[ag _ _ n3]at hi3';have n32:=aH hi3';have hG3:G i3=none:=adD;have c3:∀(f:Heap) (x y:Option Blk),upd (upd f id x) i3 y=upd (upd f i3 y) id x:=fun f x y=>ct f x y n3.symm
 have c23:∀(f:Heap) (x y:Option Blk),upd (upd f i3 x) i2 y=upd (upd f i2 y) i3 x:=fun f x y=>ct f x y n32
 have m32:¬i3=i2:=n32;have m23:¬i2=i3:=n32.symm;simp only[go_sem,c3,ak,n3];refine .intro (fun m ρ H=>H=upd (upd (upd G i2 (some (.obj [.i 0,.s [],.b false,.i 0,.i 0,.i 0,.s []] 265))) i3 (some (.obj [.i a.cat,.s a.name,.b a.must,.i 0,.i 0,.i 0,.s []] 265))) id (some (PO st1))∧
  ∃i:Nat,i≤3∧m=3 - i∧(∀j (hj:j<tV.length),j<i→isD st1 tV[j]=false)∧lk ρ 0=some (.ptr id 0)∧lk ρ 2=some (.ptr i2 0)∧lk ρ 3=some (.ptr i3 0)∧lk ρ 9=some (.sl (tV.map AV.s) .full)∧lk ρ 10=some (.i 3)∧lk ρ 11=some (.i i)) 3 ?_ ?_
 ·refine⟨rfl,0,ac0,rfl,fun j _ hj=>ac0,?_,?_,?_,?_,?_,?_⟩<;>simp only[go_sem]<;>rfl
 ·rintro m ρ H ⟨rfl,i,hi,rfl,hb,r0,r2,r3,r9,r10,r11⟩
  simp only[go_sem,r10,r11];refine .intro (fun e=>?_) (fun e=>?_)
  ·have hlt:i<3:=by grind
   have hlo:i<tV.length:=hlt;have w1:IntKind.i64.wrap ((i:Int)+1)=((i+1:Nat):Int):=adf;have w2:IntKind.i64.wrap (1+(i:Int))=((i:Int)+1):=ac1;simp only[go_sem,r9,r11];refine .at i ac1 adi ?_;simp only[go_sem,r0,acR];refine(j3 st1 tV[i] h1.1).run ?_;cases d1:isD st1 tV[i]
   ·have et:cp st1 tV[i]=(false,st1):=by grind [cp]
    rw[et];simp only[go_sem,r11,w1];refine⟨_,?_,rfl,i+1,ac0,rfl,fun j hj hji=>?_,?_,?_,?_,?_,?_,?_⟩
    ·omega
    ·grind
    all_goals simp only[go_sem,r0,r2,r3,r9,r10]
   ·have et:cp st1 tV[i]=(true,bg st1):=by grind [cp]
    have eo:=Sb i hlo hb d1;have h2:Ah st1 (bg st1):=eU h1.1 (dH d1);have en:gx st=(⟨a,(i:Int)+1,(aD (bg st1)).1⟩,(aD (bg st1)).2):=by grind [gx]
    have d2:(((i:Int)+1)==0)=false:=adg;rw[et];simp only[go_sem,c3,ak,n3,r0,r3,w2,d2];refine(uy (bg st1) h2.1).run ?_;exact aid
  ·have hge:i=3:=by grind
   subst hge;have eo:=Mp fun j hj=>hb j hj hj
   have h2:Ah st1 (bn st1):=om h1.1;have en:gx st=(⟨a,0,(aD (bn st1)).1⟩,(aD (bn st1)).2):=by grind [gx]
   simp only[go_sem,r0,r3,ak,n3];refine(lE st1 h1.1).run ?_;simp only[go_sem,r0];refine(uy (bn st1) h2.1).run ?_;exact aid
theorem SC:(U 265).sz=7:=adg
theorem VD:(U 265).bytes=72:=adg
theorem Ip(l:List bO):Sized 7 (l.map dM):=fun z hz=>by
 obtain⟨c,_,rfl⟩:=List.mem_map.1 hz;rfl
theorem SB:(U 266).sz=1:=adg
theorem VB:(U 266).bytes=24:=adg
theorem Io(l:List (List bO)):Sized 1 (l.map iU):=fun z hz=>by
 obtain⟨c,_,rfl⟩:=List.mem_map.1 hz;rfl
theorem SD:(U 262).sz=1:=adg
theorem VF:(U 262).bytes=24:=adg
theorem Ir(l:List (List (List bO))):Sized 1 (l.map cU):=fun z hz=>by
 obtain⟨c,_,rfl⟩:=List.mem_map.1 hz;rfl
theorem PW(st:PS)(hw:WfP st):PC 235 [] st (iU (pZ st).1) (pZ st).2:=.of fun G id=>by
 have h1:=qj hw;have hm1:=HO st hw;obtain⟨x0,st1,e1⟩:∃x0 st1,gx st=(x0,st1):=⟨_,_,rfl⟩;have ep:fO gx [44] 8 st.ts.length st1 [x0]=pZ st:=by grind [pZ]
 rw[e1]at h1 hm1;simp only[dM]at h1 hm1;refine acZ Tryz.func235 20 [.tmp 2] fun hwf=>?_
 simp only[go_sem];refine hm1.run ?_;simp only[go_sem];have hB:upd G id none id=none:=ah ..;refine .intro (fun m ρ H=>∃(f:Nat) (st' :PS) (l:List _) (y:AV),H id=some (PO st')∧Acc U 265 (upd G id none) H y (l.map dM)∧Ah st1 st'∧fO gx [44] 8 f st' l=pZ st∧st1.ts.length≤f+st'.pos∧l.length≤st'.pos+1∧m=st1.ts.length - st'.pos∧lk ρ 0=some (.ptr id 0)∧lk ρ 3=some y) (st1.ts.length - st1.pos) ?_ ?_
 ·refine⟨st.ts.length,st1,[x0],.sl ([x0].map dM) .full,ah ..,.full (base_start G id _),.refl h1.1,ep,by rw[h1.2.1];omega,ac7,rfl,?_,?_⟩<;>simp only[go_sem]<;>rfl
 ·rintro m ρ H ⟨f,st',l,y,hH,hy,ha,hfin,hf,hll,rfl,r0,r3⟩
  have hlen:=ha.1.2.2;have hpos:=ha.1.1;have htl:=ha.2.1;simp only[go_sem,r0];refine(j3 st' [44] ha.1).go hH ?_;cases d1:isD st' [44]
  ·have et:cp st' [44]=(false,st'):=by grind [cp]
   have ef:fO gx [44] 8 f st' l=(l,st'):=ags;rw[et,bE hH];rw[ef]at hfin;simp only[go_sem,r3];exact .mk (h' :=upd G id (some (PO (pZ st).2))) (iU l) hy.weak (by rw[←hfin];exact fo hy.1 hH) ⟨ac1,rfl⟩
  ·have et:cp st' [44]=(true,bg st'):=by grind [cp]
   obtain⟨g,rfl⟩:∃g,f=g+1:=⟨f - 1,ac1⟩;simp only[fO,d1,if_true]at hfin;have h2:=eU ha.1 (dH d1);have hone:=HO (bg st') h2.1;have h3:=(fun _ h=>qj h:∀st,WfP st→Ah st (gx st).2) _ h2.1
   obtain⟨x,st2,e2⟩:∃x st2,gx (bg st')=(x,st2):=⟨_,_,rfl⟩;rw[e2]at hfin hone h3;simp only[dM]at hfin hone h3;have hdec:decide ((8:Int)<((l.length+1:Nat):Int))=decide (8<l.length+1):=by
    grind
   have h4:=kX (decide (8<l.length+1)) h3.1;have hnp:(bg st').pos=st'.pos+1:=rfl;have hp3:=h3.2.2;have hp4:=h4.2.2;rw[et];simp only[go_sem,r0,r3];refine hone.run ?_;simp only[go_sem];refine(hy.put hB hH _).app (zs:=[dM x]) (by grind [SC]) (by grind [VD]) (fun k hk=>hk) (by grind [SC,Ip]) (by rw[SC];exact Ip [x]) (by grind [VD]) fun y' H2 hy' hk2=>?_
   exact ahh
theorem PX(st:PS)(hw:WfP st):PC 199 [] st (cU (rR st).1) (rR st).2:=.of fun G id=>by
 have h0:=jh [40] hw;have h1:=BP h0.1;have hm1:=PW _ h0.1;obtain⟨x0,st1,e1⟩:∃x0 st1,pZ (dV st [40])=(x0,st1):=⟨_,_,rfl⟩;obtain⟨M,eM⟩:∃M,fO pZ orT 8 st.ts.length st1 [x0]=M:=⟨_,rfl⟩;have epp:(M.1,dV M.2 [41])=rR st:=by grind [rR]
 rw[e1]at h1 hm1;simp only[iU]at h1 hm1;refine acZ Tryz.func199 24 [.tmp 2] fun hwf=>?_
 simp only[go_sem];refine(kQ st [40] hw).run ?_;simp only[go_sem];refine hm1.run ?_;simp only[go_sem];have hB:upd G id none id=none:=ah ..;refine .intro (fun m ρ H=>∃(f:Nat) (st' :PS) (l:List _) (y:AV),H id=some (PO st')∧Acc U 266 (upd G id none) H y (l.map iU)∧Ah st1 st'∧fO pZ orT 8 f st' l=M∧st1.ts.length≤f+st'.pos∧l.length≤st'.pos+1∧m=st1.ts.length - st'.pos∧lk ρ 0=some (.ptr id 0)∧lk ρ 3=some y) (st1.ts.length - st1.pos) ?_ ?_
 ·refine⟨st.ts.length,st1,[x0],.sl ([x0].map iU) .full,ah ..,.full (base_start G id _),.refl h1.1,eM,by rw[h1.2.1,h0.2.1];omega,ac7,rfl,?_,?_⟩<;>simp only[go_sem]<;>rfl
 ·rintro m ρ H ⟨f,st',l,y,hH,hy,ha,hfin,hf,hll,rfl,r0,r3⟩
  have hlen:=ha.1.2.2;have hpos:=ha.1.1;have htl:=ha.2.1;simp only[go_sem,r0];refine(j3 st' orT ha.1).go hH ?_;cases d1:isD st' orT
  ·have et:cp st' orT=(false,st'):=by grind [cp]
   have ef:fO pZ orT 8 f st' l=(l,st'):=ags;rw[et,bE hH];rw[ef]at hfin;simp only[go_sem,r0];refine(kQ st' [41] ha.1).go hH ?_;simp only[go_sem,r3];exact .mk (h' :=upd G id (some (PO (rR st).2))) (cU l) hy.weak (by rw[←epp,←hfin];exact fo (hy.1.put hB _) (ah ..)) ⟨ac1,rfl⟩
  ·have et:cp st' orT=(true,bg st'):=by grind [cp]
   obtain⟨g,rfl⟩:∃g,f=g+1:=⟨f - 1,ac1⟩;simp only[fO,d1,if_true]at hfin;have h2:=eU ha.1 (dH d1);have hone:=PW (bg st') h2.1;have h3:=(fun _ h=>BP h:∀st,WfP st→Ah st (pZ st).2) _ h2.1
   obtain⟨x,st2,e2⟩:∃x st2,pZ (bg st')=(x,st2):=⟨_,_,rfl⟩;rw[e2]at hfin hone h3;simp only[iU]at hfin hone h3;have hdec:decide ((8:Int)<((l.length+1:Nat):Int))=decide (8<l.length+1):=by
    grind
   have h4:=kX (decide (8<l.length+1)) h3.1;have hnp:(bg st').pos=st'.pos+1:=rfl;have hp3:=h3.2.2;have hp4:=h4.2.2;rw[et];simp only[go_sem,r0,r3];refine hone.run ?_;simp only[go_sem];refine(hy.put hB hH _).app (zs:=[iU x]) (by grind [SB]) (by grind [VB]) (fun k hk=>hk) (by grind [SB,Io]) (by rw[SB];exact Io [x]) (by grind [VB]) fun y' H2 hy' hk2=>?_
   exact ahh
theorem Qy(st:PS)(hw:WfP st):PC 153 [] st (aV (gN st).1) (gN st).2:=.of fun G id=>by
 refine acZ Tryz.func153 23 [.tmp 2] fun hwf=>?_
 simp only[go_sem];refine(j3 st E2 hw).run ?_;cases d0:isD st E2
 ·have et:cp st E2=(false,st):=by grind [cp]
  have ep:gN st=([],st):=by grind [gN]
  rw[et];simp only[go_sem];exact .mk (h' :=upd G id (some (PO (gN st).2))) (aV []) (.sl _ _) (by rw[ep];exact .refl _) ⟨by rw[ep],rfl⟩
 have et:cp st E2=(true,bg st):=by grind [cp]
 have h0:=eU hw (dH d0);have h1:=BQ h0.1;have hm1:=PX _ h0.1;obtain⟨x0,st1,e1⟩:∃x0 st1,rR (bg st)=(x0,st1):=⟨_,_,rfl⟩;obtain⟨M,eM⟩:∃M,fO rR CR 8 st.ts.length st1 [x0]=M:=⟨_,rfl⟩;have ep:M=gN st:=by simp_all [gN,if_true]
 rw[e1]at h1 hm1;simp only[cU]at h1 hm1;rw[et];simp only[go_sem];refine hm1.run ?_;simp only[go_sem];have hB:upd G id none id=none:=ah ..;refine .intro (fun m ρ H=>∃(f:Nat) (st' :PS) (l:List _) (y:AV),H id=some (PO st')∧Acc U 262 (upd G id none) H y (l.map cU)∧Ah st1 st'∧fO rR CR 8 f st' l=M∧st1.ts.length≤f+st'.pos∧l.length≤st'.pos+1∧m=st1.ts.length - st'.pos∧lk ρ 0=some (.ptr id 0)∧lk ρ 3=some y) (st1.ts.length - st1.pos) ?_ ?_
 ·refine⟨st.ts.length,st1,[x0],.sl ([x0].map cU) .full,ah ..,.full (base_start G id _),.refl h1.1,eM,by rw[h1.2.1,h0.2.1];omega,ac7,rfl,?_,?_⟩<;>simp only[go_sem]<;>rfl
 ·rintro m ρ H ⟨f,st',l,y,hH,hy,ha,hfin,hf,hll,rfl,r0,r3⟩
  have hlen:=ha.1.2.2;have hpos:=ha.1.1;have htl:=ha.2.1;simp only[go_sem,r0];refine(j3 st' CR ha.1).go hH ?_;cases d1:isD st' CR
  ·have et:cp st' CR=(false,st'):=by grind [cp]
   have ef:fO rR CR 8 f st' l=(l,st'):=ags;rw[et,bE hH];rw[ef]at hfin;simp only[go_sem,r3];exact .mk (h' :=upd G id (some (PO (gN st).2))) (aV l) hy.weak (by rw[←ep,←hfin];exact fo hy.1 hH) ⟨ac1,rfl⟩
  ·have et:cp st' CR=(true,bg st'):=by grind [cp]
   obtain⟨g,rfl⟩:∃g,f=g+1:=⟨f - 1,ac1⟩;simp only[fO,d1,if_true]at hfin;have h2:=eU ha.1 (dH d1);have hone:=PX (bg st') h2.1;have h3:=(fun _ h=>BQ h:∀st,WfP st→Ah st (rR st).2) _ h2.1
   obtain⟨x,st2,e2⟩:∃x st2,rR (bg st')=(x,st2):=⟨_,_,rfl⟩;rw[e2]at hfin hone h3;simp only[cU]at hfin hone h3;have hdec:decide ((8:Int)<((l.length+1:Nat):Int))=decide (8<l.length+1):=by
    grind
   have h4:=kX (decide (8<l.length+1)) h3.1;have hnp:(bg st').pos=st'.pos+1:=rfl;have hp3:=h3.2.2;have hp4:=h4.2.2;rw[et];simp only[go_sem,r0,r3];refine hone.run ?_;simp only[go_sem];refine(hy.put hB hH _).app (zs:=[cU x]) (by grind [SD]) (by grind [VF]) (fun k hk=>hk) (by grind [SD,Ir]) (by rw[SD];exact Ir [x]) (by grind [VF]) fun y' H2 hy' hk2=>?_
   exact ahh
theorem Ea(op:Int)(h:Heap):ai Tryz.prog 311 [.i op] h fun r h' =>r= .sl ((opers op).map jN) .no∧h' =h:=by
 refine acZ Tryz.func311 15 [.tmp 2] fun hwf=>?_
 cases k3:(op==3)<;>cases k4:(op==4)<;>cases k5:(op==5)<;>cases k11:(op==11)
 all_goals
  simp only[go_sem,k3,k4,k5,k11];simp only[beq_iff_eq,beq_eq_false_iff_ne]at k3 k4 k5 k11;refine .mk _ (.sl _ _) (.refl _) ⟨?_,rfl⟩
  grind [opers,jN]
theorem VG:(U 131).sz=3:=adg
theorem XZ:(U 131).bytes=32:=adg
theorem Iq(l:List cB):Sized 3 (l.map bt):=fun z hz=>by
 obtain⟨c,_,rfl⟩:=List.mem_map.1 hz;rfl
theorem tr(st:PS)(hw:WfP st):PC 157 [] st (aA (gr st).1) (gr st).2:=.of fun G id=>by
 obtain⟨M,eM⟩:∃M,gr st=M:=⟨_,rfl⟩;have eM2:fO Ae wM 8 st.ts.length st []=M:=eM;refine acZ Tryz.func157 28 [.tmp 2] fun hwf=>?_
 simp only[go_sem];have hB:upd G id none id=none:=ah ..;refine .intro (fun m ρ H=>∃(f:Nat) (st' :PS) (l:List cB) (y:AV),H id=some (PO st')∧Acc U 131 (upd G id none) H y (l.map bt)∧Ah st st'∧fO Ae wM 8 f st' l=M∧st.ts.length≤f+st'.pos∧l.length≤st'.pos+1∧m=st.ts.length - st'.pos∧lk ρ 0=some (.ptr id 0)∧lk ρ 3=some y) (st.ts.length - st.pos) ?_ ?_
 ·refine⟨st.ts.length,st,[],.sl ([].map bt) .full,ah ..,.full (base_start G id _),.refl hw,eM2,ac0,ac7,rfl,?_,?_⟩<;>simp only[go_sem]<;>rfl
 ·rintro m ρ H ⟨f,st',l,y,hH,hy,ha,hfin,hf,hll,rfl,r0,r3⟩
  have hlen:=ha.1.2.2;have hpos:=ha.1.1;have htl:=ha.2.1;simp only[go_sem,r0];refine(j3 st' wM ha.1).go hH ?_;cases d1:isD st' wM
  ·have et:cp st' wM=(false,st'):=by grind [cp]
   have ef:fO Ae wM 8 f st' l=(l,st'):=ags;rw[et,bE hH];rw[ef]at hfin;simp only[go_sem,r3];exact .mk (h' :=upd G id (some (PO (gr st).2))) (aA l) hy.weak (by rw[eM,←hfin];exact fo hy.1 hH) ⟨ac1,rfl⟩
  ·have et:cp st' wM=(true,bg st'):=by grind [cp]
   obtain⟨g,rfl⟩:∃g,f=g+1:=⟨f - 1,ac1⟩;simp only[fO,d1,if_true]at hfin;have h2:=eU ha.1 (dH d1);have ho1:=gA vm h2.1;have ho2:=gA mG ho1.1;have ho3:=nj ho2.1;have h3:Ah (bg st') (Ae (bg st')).2:=KQ h2.1;have hdec:decide ((8:Int)<((l.length+1:Nat):Int))=decide (8<l.length+1):=by
    grind
   have h4:=kX (decide (8<l.length+1)) h3.1;have hnp:(bg st').pos=st'.pos+1:=rfl;have hp3:=h3.2.2;have hp4:=h4.2.2;have eX:(Ae (bg st'))=(⟨(aW (bg st') vm).1,(aW (aW (bg st') vm).2 mG).1,(cm (aW (aW (bg st') vm).2 mG).2).1⟩,(cm (aW (aW (bg st') vm).2 mG).2).2):=rfl;obtain⟨x,st2,e2⟩:∃x st2,Ae (bg st')=(x,st2):=⟨_,_,rfl⟩;rw[et];simp only[go_sem];intro i4 hi4;have n4:=aH hi4;have hH4:H i4=none:=adD;have c4:∀(f:Heap) (x y:Option Blk),upd (upd f id x) i4 y=upd (upd f i4 y) id x:=fun f x y=>ct f x y n4.symm
   simp only[go_sem,r0,c4];refine(oo _ vm .full ac4 h2.1).run ?_;simp only[go_sem,r0,c4,ak,n4];refine(oo _ mG .full ac4 ho1.1).run ?_;simp only[go_sem,r0,c4,ak,n4];refine(ud _ ho2.1).run ?_;simp only[go_sem,r3,c4,ak,n4];rw[e2]at hfin h3 h4 hp3 hp4;simp only at hfin h3 h4 hp3 hp4;have ex1:x=(Ae (bg st')).1:=by rw[e2]
   have ex2:st2=(cm (aW (aW (bg st') vm).2 mG).2).2:=by
    grind
   rw[←ex2];refine((hy.sub (Sub.aj (k:=_) hH4)).put hB (by rw[ag _ _ n4.symm];exact hH) _).app (zs:=[bt x]) ac4 ac4 (fun k hk=>by rw[ex1]at hk;exact hk) (by grind [VG,Iq]) (by rw[VG];exact Iq [x]) (by grind [XZ]) fun y' H2 hy' hk2=>?_
   exact ahh
theorem tc{U:TypeId→TI}{e:TypeId}{B B' H:Heap}{y:AV}{xs:List AV}(hs:Sub B B')(ha:Acc U e B' H y xs):Acc U e B H y xs:=by
 obtain⟨h1,rfl|⟨k,i1,rfl,i2⟩⟩:=ha
 ·exact⟨hs.trans h1,.inl rfl⟩
 ·refine⟨hs.trans h1,.inr ⟨k,?_,rfl,i2⟩⟩
  cases hk:B k with
  |none=>rfl
  |some b=>rw[hs _ _ hk]at i1;omega
theorem xP{U:TypeId→TI}{e:TypeId}{B H:Heap}{y:AV}{xs:List AV}(ha:Acc U e B H y xs){i:Nat}(hi:H i=none)(b:Option Blk):Acc U e (upd B i b) (upd H i b) y xs:=by
 obtain⟨h1,rfl|⟨k,i1,rfl,i2⟩⟩:=ha
 ·exact⟨h1.both _ _,.inl rfl⟩
 ·have hne:k≠i:=fun hh=>by subst hh;rw[hi]at i2;cases i2
  exact⟨h1.both _ _,.inr ⟨k,adD,rfl,adD⟩⟩
theorem oh{U:TypeId→TI}{e:TypeId}{G K:Heap}{id:Nat}{st:PS}{y:AV}{xs:List AV}(ha:Acc U e (upd G id none) (upd K id (some (PO st))) y xs)(st' :PS):Acc U e (upd G id none) (upd K id (some (PO st'))) y xs:=by
 have:=ha.put (id:=id) (ah ..) (cs:=_) (t:=_) (ah ..) (some (PO st'));rw[cP]at this;exact adN
def XC(f:FuncId)(args:List AV)(st:PS)(l:List aP)(mk:AV→AV)(st' :PS)(l' :List aP):Prop:=
 ∀(G K:Heap) (id:Nat) (y:AV),Acc U 215 (upd G id none) (upd K id (some (PO st))) y (l.map dI)→ai Tryz.prog f (.ptr id 0::y::args) (upd K id (some (PO st))) fun r h' =>∃y',r=mk y'∧h' id=some (PO st')∧Acc U 215 (upd G id none) h' y' (l'.map dI)
theorem XC.run{f:FuncId}{args:List AV}{st st' :PS}{l l' :List aP}{mk:AV→AV}(hc:XC f args st l mk st' l'){G K:Heap}{id:Nat}{y:AV}{Q:AV→Heap→Prop}(ha:Acc U 215 (upd G id none) (upd K id (some (PO st))) y (l.map dI))
  (k:∀y' K',Acc U 215 (upd G id none) (upd K' id (some (PO st'))) y' (l'.map dI)→Q (mk y') (upd K' id (some (PO st')))):ai Tryz.prog f (.ptr id 0::y::args) (upd K id (some (PO st))) Q:=
 (hc G K id y ha).mono fun r h' ⟨y',e1,e2,e3⟩=>by
  subst e1;have:=k y' h' (by grind [bE])
  rwa [bE e2]at this
def EH(ex:ExF)(f:Nat):Prop:=∀st l,WfP st→st.ts.length≤f+st.pos→l.length≤2*st.pos+1→XC 267 [] st l (fun y=> .tup [y,.v (.bool (ex st l).1.2)]) (ex st l).2 (ex st l).1.1
theorem IF(st:PS)(ws:List Txt):0≤(aW st ws).1∧(aW st ws).1≤ws.length:=by
 unfold aW;cases ei:u7 (aJ st).s ws with
 |none=>simp
 |some i=>
  have:=Ci ei;simp only;split<;>simp<;>omega
theorem Ba{ex:ExF}(ho:E8 ex){f:Nat}(he:EH ex f)(st:PS)(l:List aP)(b:Bool)(hw:WfP st)(hf:st.ts.length≤f+st.pos)(hl:l.length≤2*st.pos+1):XC 236 [.b b] st l (fun y=>y) (iq ex st l b).2 (iq ex st l b).1:=fun G K id y ha=>by
 refine acZ Tryz.func236 25 [.tmp 6] fun hwf=>?_
 simp only[go_sem];refine(mc st hw).run ?_;simp only[go_sem,fB];refine(he st l hw hf hl).run ha fun y' K' ha' =>?_
 cases db:((ex st l).1.2==b)
 ·have e1:(ex st l).1.2≠b:=by grind
  have en:iq ex st l b=((ex st l).1.1,bG (ex st l).2 5 (aJ st).pos):=by grind [iq]
  simp only[go_sem,db,Bool.not_false];refine(rD _ 5 _).run ?_;simp only[go_sem];exact .mk (h' :=upd K' id (some (PO (bG (ex st l).2 5 (aJ st).pos)))) y' (.refl _) (.refl _) ⟨y',rfl,ag7,by grind [oh]⟩
 ·have e1:(ex st l).1.2=b:=by grind
  have en:iq ex st l b=((ex st l).1.1,(ex st l).2):=by grind [iq]
  simp only[go_sem,db,Bool.not_true];exact .mk (h' :=upd K' id (some (PO (ex st l).2))) y' (.refl _) (.refl _) ⟨y',rfl,ag7,ac1⟩
theorem FR{ex:ExF}(ho:E8 ex){f:Nat}(he:EH ex f)(st:PS)(l:List aP)(hw:WfP st)(hf:st.ts.length≤f+st.pos)(hl:l.length+1≤2*st.pos):XC 293 [] st l (fun y=> .tup [y,dI (qF ex st l).1.2]) (qF ex st l).2 (qF ex st l).1.1:=fun G K id y ha=>by
 have h1:=gA lO hw;have hrg:=IF st lO;have hfl:lO.length=11:=rfl;have w2:IntKind.i64.wrap (2+(aW st lO).1)=2+(aW st lO).1:=adf;refine acZ Tryz.func293 36 [.tmp 4,.cell 5 215] fun hwf=>?_
 simp only[go_sem];intro i5 hi5;have n5:=aH hi5;have hK5:K i5=none:=adD;have c5:∀(f:Heap) (x y:Option Blk),upd (upd f id x) i5 y=upd (upd f i5 y) id x:=fun f x y=>ct f x y n5.symm
 simp only[go_sem,c5];refine(oo _ lO .full ac4 hw).run ?_;simp only[go_sem,w2];intro i6 hi6;have n6:=aH hi6;have c6:∀(f:Heap) (x y:Option Blk),upd (upd f id x) i6 y=upd (upd f i6 y) id x:=fun f x y=>ct f x y n6.symm
 have hi6' :=hi6;rw[ag _ _ n6]at hi6';have n65:=aH hi6';have hK6:K i6=none:=adD;simp only[go_sem,c6,ak,n6];refine(Ea _ _).pthen ?_;simp only[go_sem];have h5f:=ha;obtain⟨bs,ebs⟩:∃bs,opers (2+(aW st lO).1)=bs:=⟨_,rfl⟩;obtain⟨M,eM⟩:∃M,jr ex bs (aW st lO).2 l=M:=⟨_,rfl⟩;have hb2:bs.length≤2:=by grind [Eb]
 have hMr:qF ex st l=((M.1,⟨2+(aW st lO).1,⟨0,0,[]⟩,⟨0,[],false⟩⟩),dV M.2 [41]):=by grind [qF]
 obtain⟨st1,es1⟩:∃st1,(aW st lO).2=st1:=⟨_,rfl⟩;have hac0:=xP (xP (oh ha st1) (by rw[ag _ _ n5];omega) (some (.obj [.i 0,.i 0,.i 0,.s [],.i 0,.s [],.b false] 215))) (by rw[ag _ _ n65,ag _ _ n6];omega) (some (.obj [.i (2+(aW st lO).1),.i 0,.i 0,.s [],.i 0,.s [],.b false] 215))
 simp only[c5,c6]at hac0;obtain⟨G',eG⟩:∃G',G' =upd (upd G i5 (some (.obj [.i 0,.i 0,.i 0,.s [],.i 0,.s [],.b false] 215))) i6 (some (.obj [.i (2+(aW st lO).1),.i 0,.i 0,.s [],.i 0,.s [],.b false] 215)):=⟨_,rfl⟩;have g5:upd G' id none i5=some (.obj [.i 0,.i 0,.i 0,.s [],.i 0,.s [],.b false] 215):=by simp_all [ag,Ne.symm,ah]
 have g6:upd G' id none i6=some (.obj [.i (2+(aW st lO).1),.i 0,.i 0,.s [],.i 0,.s [],.b false] 215):=by simp_all [ag,ah]
 rw[←eG]at hac0;have gi5:upd G id none i5=none:=by
  cases hk:upd G id none i5 with
  |none=>rfl
  |some b=>rw[ha.1 _ _ hk]at hi5;omega
 have hsG:Sub (upd G id none) (upd G' id none):=fun k b hk=>by
  have hs1:=ha.1 k b hk;have hk5:k≠i5:=fun e=>ac1
  have hk6:k≠i6:=fun e=>by
   grind [ag]
  by_cases hkid:k=id
  ·subst hkid;rw[ah]at hk;cases hk
  ·rw[ag _ _ hkid]at hk⊢
   rw[eG,ag _ _ hk6,ag _ _ hk5];exact hk
 simp only[es1,ebs]at h1 eM⊢;refine .intro (fun m ρ H=>∃(i:Nat) (st' :PS) (l' :List aP) (y' :AV) (K' :Heap),H=upd K' id (some (PO st'))∧Acc U 215 (upd G' id none) (upd K' id (some (PO st'))) y' (l'.map dI)∧Ah st1 st'∧i≤bs.length∧jr ex (bs.drop i) st' l' =M∧l'.length+1≤2*st'.pos+i∧m=bs.length - i∧lk ρ 0=some (.ptr id 0)∧lk ρ 1=some y'∧lk ρ 5=some (.ptr i5 0)∧lk ρ 6=some (.ptr i6 0)∧lk ρ 16=some (.sl (bs.map jN) .no)∧lk ρ 17=some (.i bs.length)∧lk ρ 18=some (.i i)) bs.length ?_ ?_
 ·refine⟨0,st1,l,y,_,rfl,hac0,.refl h1.1,ac0,ac1,by have:=h1.2.2;omega,rfl,?_,?_,?_,?_,?_,?_,?_⟩<;>simp only[go_sem]<;>(try rfl)<;>simp
 ·rintro m ρ H ⟨i,st',l',y',K',rfl,hac,hah,hi,hfin,hll,rfl,r0,r1,r5,r6,r16,r17,r18⟩
  simp only[go_sem,r17,r18];have k6:upd K' id (some (PO st')) i6=some (.obj [.i (2+(aW st lO).1),.i 0,.i 0,.s [],.i 0,.s [],.b false] 215):=hac.1 _ _ g6;have k5:upd K' id (some (PO st')) i5=some (.obj [.i 0,.i 0,.i 0,.s [],.i 0,.s [],.b false] 215):=hac.1 _ _ g5;rw[ag _ _ n6]at k6;rw[ag _ _ n5]at k5;refine .intro (fun e=>?_) (fun e=>?_)
  ·have hlt:i<bs.length:=acX e
   simp only[go_sem,r16,r18];refine .at i ac1 adi ?_;cases db:(st'.bad !=0)
   ·have e1:st'.bad=0:=by grind
    rw[List.drop_eq_getElem_cons hlt]at hfin;simp only[jr,e1,if_true]at hfin;simp only[go_sem,r0,r1,acR,jN,PO,db];have hpl:=hah.2.2;refine(Ba ho he st' l' bs[i] hah.1 (by rw[hah.2.1,h1.2.1];have:=h1.2.2;omega) ac0).run hac fun y2 K2 hac2=>?_
    obtain⟨q1,q2⟩:=za ho st' l' bs[i] hah.1;have w1:IntKind.i64.wrap ((i:Int)+1)=((i+1:Nat):Int):=adf;simp only[go_sem,r18,w1];refine⟨_,?_,i+1,(iq ex st' l' bs[i]).2,(iq ex st' l' bs[i]).1,y2,K2,rfl,hac2,hah.trans q1,hlt,hfin,ac0,rfl,?_⟩
    ·omega
    refine⟨?_,?_,?_,?_,?_,?_,?_⟩
    all_goals simp only[go_sem,r0,r5,r6,r16,r17]
   ·have e1:st'.bad≠0:=by grind
    have hfin2:(l',st')=M:=by
     grind [List.drop_eq_getElem_cons,jr]
    clear hfin;have hfin:=hfin2;simp only[go_sem,r0,acR,jN,PO,db];refine(kQ _ [41] hah.1).run ?_;simp only[go_sem,r1,r5,r6,ak,n5,n6,k5,k6];refine⟨.of ac3,?_⟩;exact .mk (.tup [y',dI ⟨2+(aW st lO).1,⟨0,0,[]⟩,⟨0,[],false⟩⟩]) (.refl _) (.refl _) ⟨y',adg,by rw[hMr,←hfin];exact(ag _ _ (Ne.symm n5)).trans (ah ..),aew⟩
  ·have hge:i=bs.length:=by grind
   subst hge;rw[List.drop_length]at hfin;simp only[jr]at hfin;simp only[go_sem,r0];refine(kQ _ [41] hah.1).run ?_;simp only[go_sem,r1,r5,r6,ak,n5,n6,k5,k6];refine⟨.of ac3,?_⟩;exact .mk (.tup [y',dI ⟨2+(aW st lO).1,⟨0,0,[]⟩,⟨0,[],false⟩⟩]) (.refl _) (.refl _) ⟨y',adg,by rw[hMr,←hfin];simp_all [ag,Ne.symm,trans,ah],aew⟩
theorem sU:(U 215).sz=7:=adg
theorem Ar:(U 215).bytes=72:=adg
theorem kU(l:List aP):Sized 7 (l.map dI):=fun z hz=>by
 obtain⟨c,_,rfl⟩:=List.mem_map.1 hz;rfl
theorem RD(f:Nat)(ih:EH (eD f) f):EH (eD (f+1)) (f+1):=fun st l hw hf hl G K id y ha=>by
 refine acZ Tryz.func267 52 [.tmp 4,.tmp 5] fun hwf=>?_
 simp only[go_sem];intro i6 hi6;have n6:=aH hi6;have hK6:K i6=none:=by rw[ag _ _ n6]at hi6;exact hi6
 have c6:∀(f:Heap) (x y:Option Blk),upd (upd f id x) i6 y=upd (upd f i6 y) id x:=fun f x y=>ct f x y n6.symm
 have gi6:upd G id none i6=none:=by
  cases hk:upd G id none i6 with
  |none=>rfl
  |some b=>rw[ha.1 _ _ hk]at hi6;cases hi6
 have hac:=xP ha hi6 (some (.obj [.i 0,.i 0,.i 0,.s [],.i 0,.s [],.b false] 215));simp only[go_sem,c6];refine(mc st hw).run ?_;simp only[go_sem,fB];intro i7 hi7;have n7:=aH hi7;have hi7' :=hi7;rw[ag _ _ n7]at hi7';have n76:=aH hi7';have m76:¬i7=i6:=n76;have m67:¬i6=i7:=fun e=>n76 e.symm
 have hK7:K i7=none:=by rw[ag _ _ n76]at hi7';exact hi7'
 have c7:∀(f:Heap) (x y:Option Blk),upd (upd f id x) i7 y=upd (upd f i7 y) id x:=fun f x y=>ct f x y n7.symm
 have e6:upd (upd G id none) i6 (some (.obj [.i 0,.i 0,.i 0,.s [],.i 0,.s [],.b false] 215))=upd (upd G i6 (some (.obj [.i 0,.i 0,.i 0,.s [],.i 0,.s [],.b false] 215))) id none:=c6 G none _;have hac7:∀k,Acc U 215 (upd (upd G i6 (some (.obj [.i 0,.i 0,.i 0,.s [],.i 0,.s [],.b false] 215))) id none) (upd (upd (upd K i6 (some (.obj [.i 0,.i 0,.i 0,.s [],.i 0,.s [],.b false] 215))) i7 k) id (some (PO st))) y (l.map dI):=fun k=>by
  have:=hac.sub (Sub.aj (k:=k) (by rw[c6];exact hi7))
  rw[e6,c6 K,c7]at this;exact adN
 have hsG:Sub (upd G id none) (upd (upd G i6 (some (.obj [.i 0,.i 0,.i 0,.s [],.i 0,.s [],.b false] 215))) id none):=by
  rw[←e6];exact Sub.aj gi6
 have g6:upd (upd G i6 (some (.obj [.i 0,.i 0,.i 0,.s [],.i 0,.s [],.b false] 215))) id none i6=some (.obj [.i 0,.i 0,.i 0,.s [],.i 0,.s [],.b false] 215):=by rw[←e6,ah]
 simp only[go_sem,c7,ak,n7];refine(j3 st [40] hw).run ?_;have hacX:∀tk NB st',Acc U 215 (upd G id none) (upd (upd (upd (upd K i6 (some (.obj [.i 0,.i 0,.i 0,.s [],.i 0,.s [],.b false] 215))) i7 tk) i6 NB) id (some (PO st'))) y (l.map dI):=fun tk NB st' =>by
  have:=(oh (tc hsG (hac7 tk)) st').put gi6 ((ag _ _ n6).trans ((ag _ _ m67).trans (ah ..))) NB;rw[c6]at this;exact adN
 obtain⟨⟨⟨lh,n⟩,sth⟩,eh⟩:∃x,ja (eD f) st l=x:=⟨_,rfl⟩;obtain⟨hha,hhl⟩:=DA (qB f) st l hw;rw[eh]at hha hhl;simp only at hha hhl;have hwp:=hha.1.2.2;have hwq:=hha.1.1;have hpl:=hha.2.2;have hdec:decide ((32:Int)<((lh.length+1:Nat):Int))=decide (32<lh.length+1):=by
  by_cases h:32<lh.length+1
  ·simp only[h,decide_true];exact decide_eq_true ac0
  ·simp only[h,decide_false];exact decide_eq_false ac0
 cases d0:isD st [40]
 ·have et:cp st [40]=(false,st):=by simp[cp,d0]
  rw[et];cases d1:((aJ st).kind==1)
  ·have en:ja (eD f) st l=((l,⟨1,(aD st).1,⟨0,[],false⟩⟩),(aD st).2):=by
    have:(aJ st).kind≠1:=af2;simp[ja,d0,this]
   simp only[go_sem,ak,n7,d1];exact ahg
  ·have k1:(aJ st).kind=1:=by simpa using d1
   cases d2:((aJ st).s== [116,114,117,101])
   ·have k2:(aJ st).s≠wZ:=by unfold wZ;simpa using d2
    cases d3:((aJ st).s== [102,97,108,115,101])
    ·have k3:(aJ st).s≠qC:=by unfold qC;simpa using d3
     have en:ja (eD f) st l=((l,⟨2,⟨0,0,[]⟩,(fW st).1⟩),(fW st).2):=by simp[ja,d0,k1,k2,k3]
     simp only[go_sem,ak,n7,d1,d2,d3,Bool.not_false];refine(KY st hw).run ?_;rw[en]at eh;injection eh with eh1 eh2
     injection eh1 with eh3 eh4
     subst eh2;subst eh3;subst eh4;simp only[go_sem,c6,ak,n6,m67,CW];refine(hacX _ _ _).app (zs:=[dI (⟨2,⟨0,0,[]⟩,(fW st).1⟩:aP)]) agT agS (fun k hk=>hk) agb (by rw[sU];exact kU [(⟨2,⟨0,0,[]⟩,(fW st).1⟩:aP)]) afS fun y3 H3 hy3 hk3=>?_
     have hH3:H3 id=some (PO (fW st).2):=hk3 _ _ _ (ah ..);have hb3:H3 i6=some (.obj [.v (.int .i64 (⟨2,⟨0,0,[]⟩,(fW st).1⟩:aP).op),.v (.int .i64 (⟨2,⟨0,0,[]⟩,(fW st).1⟩:aP).val.kind),.v (.int .i64 (⟨2,⟨0,0,[]⟩,(fW st).1⟩:aP).val.n),.s (⟨2,⟨0,0,[]⟩,(fW st).1⟩:aP).val.s,.v (.int .i64 (⟨2,⟨0,0,[]⟩,(fW st).1⟩:aP).attr.cat),.s (⟨2,⟨0,0,[]⟩,(fW st).1⟩:aP).attr.name,.v (.bool (⟨2,⟨0,0,[]⟩,(fW st).1⟩:aP).attr.must)] 215):=hk3 _ _ _ ((ag _ _ n6).trans (ah ..));simp only[go_sem,hy3.len,acU,acQ,List.length_cons,List.length_nil,Nat.zero_add,hdec];refine(cK (fW st).2 _ hha.1).go hH3 ?_;simp only[go_sem,ak,n6,hb3];refine⟨.of ac3,?_⟩;have efin:eD (f+1) st l=((l++ [(⟨2,⟨0,0,[]⟩,(fW st).1⟩:aP)],(⟨2,⟨0,0,[]⟩,(fW st).1⟩:aP).op==2),bD (fW st).2 (decide (32<l.length+1))):=agZ;exact .mk (.tup [y3,.b ((⟨2,⟨0,0,[]⟩,(fW st).1⟩:aP).op==2)]) (.refl _) (.refl _) ⟨y3,by rw[efin],afv,adP⟩
    ·have k3:(aJ st).s=qC:=by unfold qC;simpa using d3
     have en:ja (eD f) st l=((l,⟨1,(aD st).1,⟨0,[],false⟩⟩),(aD st).2):=by simp[ja,d0,k1,k3]
     simp only[go_sem,ak,n7,d1,d2,d3,Bool.not_false,Bool.not_true];exact ahg
   ·have k2:(aJ st).s=wZ:=by unfold wZ;simpa using d2
    have en:ja (eD f) st l=((l,⟨1,(aD st).1,⟨0,[],false⟩⟩),(aD st).2):=by simp[ja,d0,k1,k2]
    simp only[go_sem,ak,n7,d1,d2,Bool.not_true];exact ahg
 ·have et:cp st [40]=(true,bg st):=by simp[cp,d0]
  have h1:=eU hw (dH d0);have hnp:(bg st).pos=st.pos+1:=rfl;have hnt:(bg st).ts=st.ts:=rfl;rw[et];simp only[go_sem];have ef:qF (eD f) (bg st) l=((lh,n),sth):=by rw[←eh];simp[ja,d0]
  have hfx:=FR (qB f) ih (bg st) l h1.1 (by rw[hnt];omega) ac0
  simp only[ef]at hfx;refine hfx.run (oh (hac7 _) _) fun y2 K2 hac2=>?_
  have k6:=hac2.1 _ _ g6;rw[ag _ _ n6]at k6;simp only[go_sem,c6,ak,n6,k6,dI];have hac3:=(tc hsG hac2).put gi6 ((ag _ _ n6).trans k6) (some (.obj [.i n.op,.i n.val.kind,.i n.val.n,.s n.val.s,.i n.attr.cat,.s n.attr.name,.b n.attr.must] 215));rw[c6]at hac3;refine(hac3).app (zs:=[dI n]) agT agS (fun k hk=>hk) agb (by rw[sU];exact kU [n]) afS fun y3 H3 hy3 hk3=>?_
  have hH3:H3 id=some (PO sth):=hk3 _ _ _ (ah ..);have hb3:H3 i6=some (.obj [.i n.op,.i n.val.kind,.i n.val.n,.s n.val.s,.i n.attr.cat,.s n.attr.name,.b n.attr.must] 215):=hk3 _ _ _ ((ag _ _ n6).trans (ah ..));simp only[go_sem,hy3.len,acU,acQ,List.length_cons,List.length_nil,Nat.zero_add,hdec];refine(cK sth _ hha.1).go hH3 ?_;simp only[go_sem,ak,n6,hb3];refine⟨.of ac3,?_⟩;have efin:eD (f+1) st l=((lh++ [n],n.op==2),bD sth (decide (32<lh.length+1))):=by simp only[eD,eh]
  exact .mk (.tup [y3,.b (n.op==2)]) (.refl _) (.refl _) ⟨y3,by rw[efin],afv,adP⟩
theorem Lx:∀f,EH (eD f) f
 |0=>fun st l hw hf _=>absurd hw.1 ac0
 |f+1=>RD f (Lx f)
theorem FN{P:Program}{f:FuncId}{args:List AV}{h:Heap}{Q Q' :AV→Heap→Prop}(hf:ai P f args h Q)(hq:∀x h1,Q x h1→∃y h2,Weak x y∧Sub h2 h1∧Q' y h2):ai P f args h Q' :=
 fun c vs h1 h2 h3 h4=>(hf c vs h1 h2 h3 h4).mono fun u w' ⟨c',x,h',g1,g2,g3,g4,g5,g6⟩=>by
  obtain⟨y,h'',k1,k2,k3⟩:=hq x h' g6;exact⟨c',y,h'',g1,g2,g3,g4.weak k1,k2.trans g5,k3⟩
def flat:AV→AV
 |.sl xs _=> .sl xs .no
 |x=>x
theorem gp(xs:List AV):Weak (.agg xs) (.agg (xs.map flat)):=.agg _ _ ac7 fun i h1 h2=>by
 rw[acR];cases xs[i]<;>first|exact .refl _|exact .sl _ _
theorem JT(st:PS)(hw:WfP st):PC 236 [.sl [] .full,.b false] st (fq (iq (eD st.ts.length) st [] false).1) (iq (eD st.ts.length) st [] false).2:=.of fun G id=>by
 have hx:=Ba (qB st.ts.length) (Lx st.ts.length) st [] false hw ac0 ac7;refine FN (hx G G id (.sl [] .full) (.full (base_start G id _))) fun r h1 ⟨y',e1,e2,e3⟩=>⟨_,upd G id (some (PO (iq (eD st.ts.length) st [] false).2)),?_,fo e3.1 e2,rfl,rfl⟩
 subst e1;exact e3.weak
theorem MO(deny:Bool)(st:PS)(hw:WfP st):PC 202 [.b deny] st (aC (pX deny st).1) (pX deny st).2:=.of fun G id=>by
 have h1:=nj hw;have h2:=BV h1.1;have h3:=He h2.1;have h4:=BT h3.1;have ht:=Qy _ h1.1;simp only[aV]at ht;refine acZ Tryz.func202 23 [.cell 4 210] fun hwf=>?_
 simp only[go_sem];intro i4 hi4;have n4:=aH hi4;have hG4:G i4=none:=adD;have c4:∀(f:Heap) (x y:Option Blk),upd (upd f id x) i4 y=upd (upd f i4 y) id x:=fun f x y=>ct f x y n4.symm
 simp only[go_sem,c4];refine(ud st hw).run ?_;simp only[go_sem];refine ht.run ?_;simp only[go_sem];intro i5 hi5;have n5:=aH hi5;have hi5' :=hi5;rw[ag _ _ n5]at hi5';have n54:=aH hi5';have m54:¬i5=i4:=n54;have m45:¬i4=i5:=n54.symm;have hG5:G i5=none:=adD;have c5:∀(f:Heap) (x y:Option Blk),upd (upd f id x) i5 y=upd (upd f i5 y) id x:=fun f x y=>ct f x y n5.symm
 have c45:∀(f:Heap) (x y:Option Blk),upd (upd f i5 x) i4 y=upd (upd f i4 y) i5 x:=fun f x y=>ct f x y n54
 simp only[go_sem,c5,ak,n5];refine(j3 _ ifT h2.1).run ?_;cases d0:isD (gN (cm st).2).2 ifT
 ·have et:cp (gN (cm st).2).2 ifT=(false,(gN (cm st).2).2):=by grind [cp]
  have ec:qw (gN (cm st).2).2=([],(gN (cm st).2).2):=by grind [qw]
  have er:pX deny st=(⟨(cm st).1,deny,(gN (cm st).2).1,[],(gr (gN (cm st).2).2).1⟩,dV (gr (gN (cm st).2).2).2 [59]):=by grind [pX]
  rw[ec]at h4;have ho:=tr _ h2.1;simp only[aA]at ho;rw[et];simp only[go_sem];refine ho.run ?_;simp only[go_sem,c5,ak,n5];refine(kQ _ [59] h4.1).run ?_;simp only[go_sem,c4,c45,ak,n4,n5,m45];exact .mk (h' :=upd G id (some (PO (dV (gr (gN (cm st).2).2).2 [59])))) (aC ⟨(cm st).1,deny,(gN (cm st).2).1,[],(gr (gN (cm st).2).2).1⟩) (gp _) (Sub.both adu _ _) ⟨by rw[er],by rw[er]⟩
 ·have et:cp (gN (cm st).2).2 ifT=(true,bg (gN (cm st).2).2):=by grind [cp]
  obtain⟨⟨cn,stc⟩,ec⟩:∃x,qw (gN (cm st).2).2=x:=⟨_,rfl⟩;have er:pX deny st=(⟨(cm st).1,deny,(gN (cm st).2).1,cn,(gr stc).1⟩,dV (gr stc).2 [59]):=by grind [pX]
  have hcnd:=JT (bg (gN (cm st).2).2) (eU h2.1 (dH d0)).1;have ec2:iq (eD (bg (gN (cm st).2).2).ts.length) (bg (gN (cm st).2).2) [] false=(cn,stc):=by rw[←ec];simp only[qw,d0,if_true];rfl
  rw[ec2]at hcnd;simp only[fq]at hcnd;rw[ec]at h3 h4;have ho:=tr _ h3.1;simp only[aA]at ho;rw[et];simp only[go_sem];refine hcnd.run ?_;simp only[go_sem,c5,ak,n5];refine ho.run ?_;simp only[go_sem,c5,ak,n5];refine(kQ _ [59] h4.1).run ?_;simp only[go_sem,c4,c45,ak,n4,n5,m45];exact .mk (h' :=upd G id (some (PO (dV (gr stc).2 [59])))) (aC ⟨(cm st).1,deny,(gN (cm st).2).1,cn,(gr stc).1⟩) (gp _) (Sub.both adu _ _) ⟨by rw[er],by rw[er]⟩
theorem Pz:(U 210).sz=5:=adg
theorem VE:(U 210).bytes=96:=adg
theorem xI(l:List cQ):Sized 5 (l.map aC):=fun z hz=>by
 obtain⟨c,_,rfl⟩:=List.mem_map.1 hz;rfl
theorem Sm(st:PS)(hw:WfP st)(hr:st.rules≤64):PC 156 [] st (.sl ((jY 17 st []).1.map aC) .no) (jY 17 st []).2:=.of fun G id=>by
 obtain⟨M,eM⟩:∃M,jY 17 st []=M:=⟨_,rfl⟩;rw[eM];refine acZ Tryz.func156 51 [.tmp 2] fun hwf=>?_
 simp only[go_sem];have hB:upd G id none id=none:=ah ..;refine .intro (fun m ρ H=>∃(f:Nat) (st' :PS) (l:List cQ) (y:AV),H id=some (PO st')∧Acc U 210 (upd G id none) H y (l.map aC)∧Ah st st'∧st'.rules≤64∧jY f st' l=M∧f+l.length=17∧l.length≤16∧m=f∧lk ρ 0=some (.ptr id 0)∧lk ρ 3=some y) 17 ?_ ?_
 ·refine⟨17,st,[],.sl ([].map aC) .full,ah ..,.full (base_start G id _),.refl hw,hr,eM,ac7,ac7,rfl,?_,?_⟩<;>simp only[go_sem]<;>rfl
 ·rintro m ρ H ⟨f,st',l,y,hH,hy,ha,hru,hfin,hf,hll,rfl,r0,r3⟩
  have hlen:=ha.1.2.2;have hpos:=ha.1.1;obtain⟨g,rfl⟩:∃g,m=g+1:=⟨m - 1,ac0⟩;simp only[go_sem,r0];refine(tL st' pH ha.1).go hH ?_;rw[bE hH];have fin:isD st' pH=false→isD st' iY=false→(l,st')=M:=fun d1 d2=>by
   grind [jY]
  have rest:isD st' pH=true∨isD st' iY=true→True:=fun _=>trivial
  cases d1:isD st' pH
  ·simp only[go_sem,r0]
   refine(tL st' iY ha.1).go hH ?_;rw[bE hH];cases d2:isD st' iY
   ·simp only[go_sem,r3]
    have e:=fin d1 d2;exact .mk (h' :=upd G id (some (PO M.2))) (.sl (M.1.map aC) .no) ad6 (by rw[←e];exact fo hy.1 hH) ⟨rfl,rfl⟩
   ·exact ahf
  ·exact ahf
theorem Py:(U 61).sz=7:=adg
theorem VC:(U 61).bytes=128:=adg
theorem xH(l:List bH):Sized 7 (l.map aM):=fun z hz=>by
 obtain⟨c,_,rfl⟩:=List.mem_map.1 hz;cases c;rfl
theorem RU(pol:PoF)(d:Nat)(hd5:d≤5)(hp:∀st,WfP st→st.rules≤64→d≤4→PC 95 [.i d] st (aM (pol st).1) (pol st).2)(hpa:∀st,WfP st→Ah st (pol st).2)(hpr:∀st,nR st (pol st).2)
  (st:PS) (hw:WfP st) (hr:st.rules≤64):PC 155 [.i d] st (.sl ((jR pol (decide ((4:Int)<(d:Int))) 17 st []).1.map aM) .no) (jR pol (decide ((4:Int)<(d:Int))) 17 st []).2:=.of fun G id=>by
 obtain⟨M,eM⟩:∃M,jR pol (decide ((4:Int)<(d:Int))) 17 st []=M:=⟨_,rfl⟩;rw[eM];refine acZ Tryz.func155 33 [.tmp 4] fun hwf=>?_
 simp only[go_sem];have hB:upd G id none id=none:=ah ..;refine .intro (fun m ρ H=>∃(f:Nat) (st' :PS) (l:List bH) (y:AV),H id=some (PO st')∧Acc U 61 (upd G id none) H y (l.map aM)∧Ah st st'∧st'.rules≤64∧jR pol (decide ((4:Int)<(d:Int))) f st' l=M∧f+l.length=17∧l.length≤16∧m=f∧lk ρ 0=some (.ptr id 0)∧lk ρ 1=some (.i d)∧lk ρ 5=some y) 17 ?_ ?_
 ·refine⟨17,st,[],.sl ([].map aM) .full,ah ..,.full (base_start G id _),.refl hw,hr,eM,ac7,ac7,rfl,?_,?_,?_⟩<;>simp only[go_sem]<;>rfl
 ·rintro m ρ H ⟨f,st',l,y,hH,hy,ha,hru,hfin,hf,hll,rfl,r0,r1,r5⟩
  have hlen:=ha.1.2.2;have hpos:=ha.1.1;obtain⟨g,rfl⟩:∃g,m=g+1:=⟨m - 1,ac0⟩;simp only[go_sem,r0];refine(tL st' pI ha.1).go hH ?_;rw[bE hH];have fin:isD st' pI=false→isD st' Gx=false→(l,st')=M:=fun d1 d2=>by
   grind [jR]
  cases d1:isD st' pI
  ·simp only[go_sem,r0]
   refine(tL st' Gx ha.1).go hH ?_;rw[bE hH];cases d2:isD st' Gx
   ·simp only[go_sem,r5]
    have e:=fin d1 d2;exact .mk (h' :=upd G id (some (PO M.2))) (.sl (M.1.map aM) .no) ad6 (by rw[←e];exact fo hy.1 hH) ⟨rfl,rfl⟩
   ·have hd:isD st' pI=true∨isD st' Gx=true:=by grind
    have eb:=(mM hd).1;have ek:=(mM hd).2;have db:(st'.bad !=0)=false:=ac1;have gP:=hH;unfold PO at gP;have lim:l.length=16∨decide ((4:Int)<(d:Int))=true→(l,bD st' true)=M:=fun h=>by
     rw[←hfin];simp only[jR,if_pos hd,if_pos h]
    have hdl:bD st' true=bG st' 6 (aJ st').pos:=rfl;have hlb:((bD st' true).bad !=0)=true:=by grind [bG]
    cases dA:((l.length:Int)==16)
    ·cases dB:decide ((4:Int)<(d:Int))
     ·have nA:l.length≠16:=fun e=>by grind
      have hno:¬(l.length=16∨decide ((4:Int)<(d:Int))=true):=fun h=>h.elim nA (fun e=>ac1)
      simp only[jR,if_pos hd,if_neg hno]at hfin;rw[dB]at hfin;have hd4:d≤4:=ac1;simp only[go_sem,r0,r1,r5,hy.len,acQ,dA,dB];refine(cK st' false ha.1).go hH ?_;rw[show bD st' false=st' from rfl,bE hH]
      have h3:=hpa st' ha.1;have hrp:=hp st' ha.1 hru hd4;have hr3:=vu (hpr st') hru;obtain⟨x,st2,e2⟩:∃x st2,pol st' =(x,st2):=⟨_,_,rfl⟩;rw[e2]at hfin hrp h3 hr3;obtain⟨pid,pset,palg,ptgt,prules,pkids,pobls⟩:=x;simp only[aM]at hrp hfin h3 hr3;simp only[go_sem,r0,r1,r5,gP,db];refine hrp.go hH ?_;simp only[go_sem];refine(hy.put hB hH _).app (zs:=[aM ⟨pid,pset,palg,ptgt,prules,pkids,pobls⟩]) ac4 ac4 (fun k hk=>hk) (by grind [Py,xH]) afm (by grind [VC]) fun y' H2 hy' hk2=>?_
      have hH2:H2 id=some (PO st2):=hk2 _ _ _ (ah ..);simp only[go_sem];refine⟨_,?_,g,st2,l++ [⟨pid,pset,palg,ptgt,prules,pkids,pobls⟩],y',hH2,ac1,ha.trans h3,hr3,hfin,ac1,ac1,rfl,?_,?_,?_⟩
      ·omega
      all_goals simp only[go_sem,r0,r1]
     ·have e:=lim (.inr dB)
      simp only[go_sem,r0,r1,r5,hy.len,acQ,dA,dB];refine(cK st' true ha.1).go hH ?_;have g3:upd H id (some (PO (bD st' true))) id=some (PO (bD st' true)):=ah ..;unfold PO at g3;simp only[go_sem,r0,r5,g3,hlb,PO];exact .mk (h' :=upd G id (some (PO M.2))) (.sl (M.1.map aM) .no) ad6 adB ⟨rfl,rfl⟩
    ·have nA:l.length=16:=by grind
     have e:=lim (.inl nA);simp only[go_sem,r0,r5,hy.len,acQ,dA];refine(cK st' true ha.1).go hH ?_;have g3:upd H id (some (PO (bD st' true))) id=some (PO (bD st' true)):=ah ..;unfold PO at g3;simp only[go_sem,r0,r5,g3,hlb,PO];exact .mk (h' :=upd G id (some (PO M.2))) (.sl (M.1.map aM) .no) ad6 adB ⟨rfl,rfl⟩
  ·have hd:isD st' pI=true∨isD st' Gx=true:=by grind
   have eb:=(mM hd).1;have ek:=(mM hd).2;have db:(st'.bad !=0)=false:=ac1;have gP:=hH;unfold PO at gP;have lim:l.length=16∨decide ((4:Int)<(d:Int))=true→(l,bD st' true)=M:=fun h=>by
    rw[←hfin];simp only[jR,if_pos hd,if_pos h]
   have hdl:bD st' true=bG st' 6 (aJ st').pos:=rfl;have hlb:((bD st' true).bad !=0)=true:=by grind [bG]
   cases dA:((l.length:Int)==16)
   ·cases dB:decide ((4:Int)<(d:Int))
    ·have nA:l.length≠16:=fun e=>by grind
     have hno:¬(l.length=16∨decide ((4:Int)<(d:Int))=true):=fun h=>h.elim nA (fun e=>ac1)
     simp only[jR,if_pos hd,if_neg hno]at hfin;rw[dB]at hfin;have hd4:d≤4:=ac1;simp only[go_sem,r0,r1,r5,hy.len,acQ,dA,dB];refine(cK st' false ha.1).go hH ?_;rw[show bD st' false=st' from rfl,bE hH]
     have h3:=hpa st' ha.1;have hrp:=hp st' ha.1 hru hd4;have hr3:=vu (hpr st') hru;obtain⟨x,st2,e2⟩:∃x st2,pol st' =(x,st2):=⟨_,_,rfl⟩;rw[e2]at hfin hrp h3 hr3;obtain⟨pid,pset,palg,ptgt,prules,pkids,pobls⟩:=x;simp only[aM]at hrp hfin h3 hr3;simp only[go_sem,r0,r1,r5,gP,db];refine hrp.go hH ?_;simp only[go_sem];refine(hy.put hB hH _).app (zs:=[aM ⟨pid,pset,palg,ptgt,prules,pkids,pobls⟩]) ac4 ac4 (fun k hk=>hk) (by grind [Py,xH]) afm (by grind [VC]) fun y' H2 hy' hk2=>?_
     have hH2:H2 id=some (PO st2):=hk2 _ _ _ (ah ..);simp only[go_sem];refine⟨_,?_,g,st2,l++ [⟨pid,pset,palg,ptgt,prules,pkids,pobls⟩],y',hH2,ac1,ha.trans h3,hr3,hfin,ac1,ac1,rfl,?_,?_,?_⟩
     ·omega
     all_goals simp only[go_sem,r0,r1]
    ·have e:=lim (.inr dB)
     simp only[go_sem,r0,r1,r5,hy.len,acQ,dA,dB];refine(cK st' true ha.1).go hH ?_;have g3:upd H id (some (PO (bD st' true))) id=some (PO (bD st' true)):=ah ..;unfold PO at g3;simp only[go_sem,r0,r5,g3,hlb,PO];exact .mk (h' :=upd G id (some (PO M.2))) (.sl (M.1.map aM) .no) ad6 adB ⟨rfl,rfl⟩
   ·have nA:l.length=16:=by grind
    have e:=lim (.inl nA);simp only[go_sem,r0,r5,hy.len,acQ,dA];refine(cK st' true ha.1).go hH ?_;have g3:upd H id (some (PO (bD st' true))) id=some (PO (bD st' true)):=ah ..;unfold PO at g3;simp only[go_sem,r0,r5,g3,hlb,PO];exact .mk (h' :=upd G id (some (PO M.2))) (.sl (M.1.map aM) .no) ad6 adB ⟨rfl,rfl⟩
theorem El(r:Nat)(d:Nat)(hrd:r+d=4)(hp:∀st,WfP st→st.rules≤64→d+1≤4→PC 95 [.i (d+1:Nat)] st (aM (gD r st).1) (gD r st).2)(st:PS)(hw:WfP st)(hr:st.rules≤64):
  PC 95 [.i d] st (aM (gD (r+1) st).1) (gD (r+1) st).2:=.of fun G id=>by
 have h1:=gA mO hw;have h2:=nj h1.1;have h3:=gA xT h2.1;have h4:=BV h3.1;have h5:Ah _ (cW st).2:=jh [123] h4.1;have ht:=Qy _ h3.1;simp only[aV]at ht;have hrh:=vu (Et st).big hr;have hset:(cW st).1.1=((aW st mO).1==2):=rfl;have w1:IntKind.i64.wrap ((d:Int)+1)=((d+1:Nat):Int):=adf;have hdp:(r==0)=decide ((4:Int)<((d+1:Nat):Int)):=by
  grind
 have hk:=RU (gD r) (d+1) ac0 hp (fun _ h=>xQ r _ h) (Cz r) _ h5.1 hrh
 have hs:=Sm _ h5.1 hrh;refine acZ Tryz.func95 39 [.cell 4 61] fun hwf=>?_
 simp only[go_sem];intro i4 hi4;have n4:=aH hi4;have hG4:G i4=none:=adD;have c4:∀(f:Heap) (x y:Option Blk),upd (upd f id x) i4 y=upd (upd f i4 y) id x:=fun f x y=>ct f x y n4.symm
 simp only[go_sem,c4];intro i5 hi5;have n5:=aH hi5;have hi5' :=hi5;rw[ag _ _ n5]at hi5';have n54:=aH hi5';have m54:¬i5=i4:=n54;have m45:¬i4=i5:=n54.symm;have hG5:G i5=none:=adD;have c5:∀(f:Heap) (x y:Option Blk),upd (upd f id x) i5 y=upd (upd f i5 y) id x:=fun f x y=>ct f x y n5.symm
 have c45:∀(f:Heap) (x y:Option Blk),upd (upd f i5 x) i4 y=upd (upd f i4 y) i5 x:=fun f x y=>ct f x y n54
 simp only[go_sem,c5];refine(oo st mO .full ac4 hw).run ?_;simp only[go_sem,c5,ak,n5];refine(ud _ h1.1).run ?_;simp only[go_sem,c5,ak,n5];refine(oo _ xT .full ac4 h2.1).run ?_;simp only[go_sem,c5,ak,n5];refine ht.run ?_;simp only[go_sem,c5,ak,n5];refine(kQ _ [123] h4.1).run ?_;cases ds:((aW st mO).1==2)
 ·rw[ds]at hset
  simp only[go_sem,ak,n5];have eb:pS (gD r) (r==0) (cW st).1.1 (cW st).2=(((jY 17 (cW st).2 []).1,[]),(jY 17 (cW st).2 []).2):=by grind [pS]
  have hb:=BS (fun _ h=>xQ r _ h) (r==0) (cW st).1.1 h5.1
  obtain⟨⟨rl,stb⟩,er⟩:∃x,jY 17 (cW st).2 []=x:=⟨_,rfl⟩;rw[er]at eb hs;rw[eb]at hb;have ho:=tr _ (jh [125] hb.1).1;simp only[aA]at ho hs;refine hs.run ?_;simp only[go_sem,c5,ak,n5];refine(kQ _ [125] hb.1).run ?_;simp only[go_sem];refine ho.run ?_;simp only[go_sem,c4,c5,c45,ak,n4,n5,m45];have efin:gD (r+1) st=(.mk (cW st).1.2.1 false (cW st).1.2.2.1 (cW st).1.2.2.2 rl [] (gr (dV stb [125])).1,(gr (dV stb [125])).2):=by grind [gD]
  exact .mk (h' :=upd G id (some (PO (gr (dV stb [125])).2))) (aM (.mk (cW st).1.2.1 false (cW st).1.2.2.1 (cW st).1.2.2.2 rl [] (gr (dV stb [125])).1)) (gp _) (Sub.both adu _ _) ⟨ac1,ac1⟩
 ·rw[ds]at hset
  simp only[go_sem,ak,n5,w1];have eb:pS (gD r) (r==0) (cW st).1.1 (cW st).2=(([],(jR (gD r) (r==0) 17 (cW st).2 []).1),(jR (gD r) (r==0) 17 (cW st).2 []).2):=by grind [pS]
  have hb:=BS (fun _ h=>xQ r _ h) (r==0) (cW st).1.1 h5.1
  rw[←hdp]at hk;obtain⟨⟨kl,stb⟩,er⟩:∃x,jR (gD r) (r==0) 17 (cW st).2 []=x:=⟨_,rfl⟩;rw[er]at eb hk;rw[eb]at hb;have ho:=tr _ (jh [125] hb.1).1;simp only[aA]at ho hk;refine hk.run ?_;simp only[go_sem,c5,ak,n5];refine(kQ _ [125] hb.1).run ?_;simp only[go_sem];refine ho.run ?_;simp only[go_sem,c4,c5,c45,ak,n4,n5,m45];have efin:gD (r+1) st=(.mk (cW st).1.2.1 true (cW st).1.2.2.1 (cW st).1.2.2.2 [] kl (gr (dV stb [125])).1,(gr (dV stb [125])).2):=by grind [gD]
  exact .mk (h' :=upd G id (some (PO (gr (dV stb [125])).2))) (aM (.mk (cW st).1.2.1 true (cW st).1.2.2.1 (cW st).1.2.2.2 [] kl (gr (dV stb [125])).1)) (by simp only[aM,aX];exact gp _) (Sub.both adu _ _) ⟨ac1,ac1⟩
theorem Ek:∀(r d:Nat),r+d=4→∀st,WfP st→st.rules≤64→PC 95 [.i d] st (aM (gD (r+1) st).1) (gD (r+1) st).2
 |0,d,hrd=>fun st hw hr=>El 0 d hrd ac0 st hw hr
 |r+1,d,hrd=>fun st hw hr=>El (r+1) d hrd (fun st hw hr _=>Ek r (d+1) ac0 st hw hr) st hw hr
def Keeps(S:List Nat)(h h' :Heap):Prop:=∀j k,j∉S→h j=some k→h' j=some k
theorem Keeps.trans{S:List Nat}{a b c:Heap}(x:Keeps S a b)(y:Keeps S b c):Keeps S a c:=fun j k hj e=>y j k hj (x j k hj e)
theorem Keeps.of{S:List Nat}{a b:Heap}(x:Ab.Sub a b):Keeps S a b:=fun j k _ e=>x j k e
theorem Keeps.upd{S:List Nat}{a:Heap}{i:Nat}{b:Option Blk}(hi:i∈S):Keeps S a (Ab.upd a i b):=fun j k hj e=>by
 grind [ag]
def ia(h:Heap)(idw mid:Nat)(m:eu):Prop:=h idw=some (.obj [.mp mid,.i m.rules] 247)∧h mid=some (.mp (Al m.met))∧(∀l∈m.met,l.length≤16)∧m.rules≤64
theorem ia.ne{h:Heap}{idw mid:Nat}{m:eu}(hw:ia h idw mid m):idw≠mid:=fun e=>by
 have h1:=hw.1;have h2:=hw.2.1
 rw[e,h2]at h1;cases h1
theorem ia.keep{h h' :Heap}{idw mid:Nat}{m:eu}(hw:ia h idw mid m)(hs:Ab.Sub h h'):ia h' idw mid m:=⟨hs _ _ hw.1,hs _ _ hw.2.1,hw.2.2⟩
theorem XX:(U 352).sz=0:=adg
theorem Gf{s:Txt}(h:bl s=true):s.length≤16:=by
 grind [bl]
theorem yW{m:eu}{s:Txt}(h:s∈m.met∨bl s=false):jg m s=none:=by
 unfold jg
 grind
theorem E3(idw mid:Nat)(m:eu)(s:Txt)(h:Heap)(hw:ia h idw mid m):ai Tryz.prog 237 [.ptr idw 0,.s s] h fun r h' =>match jg m s with
  |none=>r= .b false∧Ab.Sub h h'
  |some m' =>r= .b true∧Keeps [idw,mid] h h'∧ia h' idw mid m' :=by
 refine acZ Tryz.func237 28 [.tmp 4] fun hwf=>?_
 obtain⟨w1,w2,w3,w4⟩:=hw;have hlen:s.length≤maxLen:=by
  have:=hwf (.s s) ac7;simp only[wfA,wf1,lim]at this;unfold maxLen;omega
 have hkeys:Az .str (Al m.met):=JH fun l hl=>by grind [maxLen]
 simp only[go_sem,w1,w2];refine⟨hlen,.inr adg,hkeys,?_⟩;rw[JL _ _ XX];simp only[go_sem];intro idv hidv;simp only[go_sem];cases d1:decide (s∈m.met)
 case true=>
  have hm:=yW (.inl (acS d1));simp only[go_sem];rw[hm];exact .mk _ (.refl _) (.aj hidv) ⟨rfl,.refl _⟩
 have e1:=acT d1;simp only[go_sem];refine(pn _ _).pthen ?_;cases d2:bl s
 ·have hm:=yW (m:=m) (.inr d2)
  simp only[go_sem];rw[hm];exact .mk _ (.refl _) (.aj hidv) ⟨rfl,.refl _⟩
 have hm:jg m s=some ⟨m.met++ [s],m.rules⟩:=by grind [jg]
 have w1' :upd h idv (some (.obj [] 352)) idw=some (.obj [.mp mid,.i m.rules] 247):=adD;have w2' :upd h idv (some (.obj [] 352)) mid=some (.mp (Al m.met)):=adD;simp only[go_sem,w1',w2'];refine⟨hlen,hkeys,?_⟩;rw[MZ e1];rw[hm];refine .same (.refl _) ⟨rfl,(Keeps.of (.aj hidv)).trans (.upd ac7),?_,?_,?_,w4⟩
 ·grind [ag]
 ·rw[ah]
 grind [List.mem_singleton,Gf]
theorem Nx(idw mid:Nat)(m:eu)(r:cQ)(h:Heap)(hw:ia h idw mid m):ai Tryz.prog 204 [.ptr idw 0,aC r] h fun x h' =>x= .v (.int .i64 (gu m r).err)∧Keeps [idw,mid] h h'∧∀m',gu m r= .ok m'→ia h' idw mid m' :=by
 refine acZ Tryz.func204 39 [.tmp 4] fun hwf=>?_
 simp only[go_sem,aC,aV,fq,aA];intro id hid;have n1:idw≠id:=fun e=>by have:=hw.1;rw[e,hid]at this;cases this
 have n2:mid≠id:=fun e=>by have:=hw.2.1;rw[e,hid]at this;cases this
 have hwb:=hw.keep (Sub.aj (k:=some (.obj [.s r.id,.b r.deny,.sl (r.tgt.map cU) .no,.sl (r.cond.map dI) .no,.sl (r.obls.map bt) .no] 210)) hid);have hk0:Keeps [idw,mid] h (upd h id (some (.obj [.s r.id,.b r.deny,.sl (r.tgt.map cU) .no,.sl (r.cond.map dI) .no,.sl (r.obls.map bt) .no] 210))):=.of (.aj hid);simp only[go_sem];obtain⟨hb,ehb⟩:∃hb,upd h id (some (.obj [.s r.id,.b r.deny,.sl (r.tgt.map cU) .no,.sl (r.cond.map dI) .no,.sl (r.obls.map bt) .no] 210))=hb:=⟨_,rfl⟩;have hbid:hb id=some (.obj [.s r.id,.b r.deny,.sl (r.tgt.map cU) .no,.sl (r.cond.map dI) .no,.sl (r.obls.map bt) .no] 210):=agu;rw[ehb]at hwb hk0⊢;refine(E3 idw mid m r.id hb hwb).mono fun x h2 hx=>?_
 cases hm:jg m r.id with
 |none=>
  rw[hm]at hx;obtain⟨rfl,hs⟩:=hx;have hr:gu m r= .bad 1:=by grind [gu]
  simp only[go_sem];exact .same (.refl _) ⟨ag8,hk0.trans (.of hs),fun m' h' =>ac1⟩
 |some m1=>
  rw[hm]at hx;obtain⟨rfl,hk,hw2⟩:=hx;have g2:=hw2.1;have hle:=hw2.2.2.2;have hid2:h2 id=some (.obj [.s r.id,.b r.deny,.sl (r.tgt.map cU) .no,.sl (r.cond.map dI) .no,.sl (r.obls.map bt) .no] 210):=hk id _ ac1 hbid;have w1:IntKind.i64.wrap ((m1.rules:Int)+1)=((m1.rules+1:Nat):Int):=adf;have hk3:Keeps [idw,mid] h (upd h2 idw (some (.obj [.mp mid,.i ((m1.rules+1:Nat):Int)] 247))):=(hk0.trans hk).trans (.upd ac7);have hid3:upd h2 idw (some (.obj [.mp mid,.i ((m1.rules+1:Nat):Int)] 247)) id=some (.obj [.s r.id,.b r.deny,.sl (r.tgt.map cU) .no,.sl (r.cond.map dI) .no,.sl (r.obls.map bt) .no] 210):=by
   grind [ag]
  cases d1:decide (64<((m1.rules+1:Nat):Int))
  case true=>
   have e1:m1.rules+1>64:=ac1;have hr:gu m r= .bad 6:=by grind [gu]
   simp only[go_sem,g2,w1,d1];exact aic
  have e1:¬m1.rules+1>64:=ac1;have hr:gu m r=need (lG r.tgt) (need (j7 r.cond) (need (ij r.obls) (.ok ⟨m1.met,m1.rules+1⟩))):=by grind [gu]
  simp only[go_sem,g2,w1,d1,hid3];refine(vC r.tgt _).pthen ?_;cases d2:(lG r.tgt !=0)
  case true=>
   have e2:lG r.tgt≠0:=ac1;have hr:gu m r= .bad (lG r.tgt):=by grind [need]
   simp only[go_sem,d2];exact aic
  have e2:lG r.tgt=0:=ac1;rw[need,if_pos e2]at hr;simp only[go_sem,d2,hid3];refine(Ht r.cond _).pthen ?_;cases d3:(j7 r.cond !=0)
  case true=>
   have e3:j7 r.cond≠0:=ac1;have hr:gu m r= .bad (j7 r.cond):=by grind [need]
   simp only[go_sem,d3];exact aic
  have e3:j7 r.cond=0:=ac1;rw[need,if_pos e3]at hr;simp only[go_sem,d3,hid3];refine(Cs r.obls _).pthen ?_;simp only[go_sem]
  by_cases e4:ij r.obls=0
  ·rw[need,if_pos e4]at hr
   refine .same (.refl _) ⟨by rw[hr,e4];rfl,hk3,fun m' h' =>?_⟩
   rw[hr]at h';cases h';refine⟨ah ..,?_,hw2.2.2.1,ac1⟩;rw[ag _ _ hw2.ne.symm];exact hw2.2.1
  ·rw[need,if_neg e4]at hr
   exact aic
theorem yD{m:eu}{id:Txt}{set:Bool}{alg:Int}{tgt:ga}{nr nk:Nat}{obls:List cB}(h:jg m id=none):fj m id set alg tgt nr nk obls= .bad 1:=by
 grind [fj]
theorem Nv(idw mid:Nat)(m:eu)(id:Txt)(set:Bool)(alg:Int)(tgt:ga)(rules:List cQ)(kids:List bH)(obls:List cB)(h:Heap)(hw:ia h idw mid m):
  ai Tryz.prog 203 [.ptr idw 0,aM (.mk id set alg tgt rules kids obls)] h fun x h' =>x= .v (.int .i64 (fj m id set alg tgt rules.length kids.length obls).err)∧Keeps [idw,mid] h h'∧∀m',fj m id set alg tgt rules.length kids.length obls= .ok m'→ia h' idw mid m' :=by
 refine acZ Tryz.func203 68 [.tmp 4] fun hwf=>?_
 simp -implicitDefEqProofs only[go_sem,aM,aV,aA];intro ip hip;have n1:idw≠ip:=fun e=>by have:=hw.1;rw[e,hip]at this;cases this
 have n2:mid≠ip:=fun e=>by have:=hw.2.1;rw[e,hip]at this;cases this
 have hwb:=hw.keep (Sub.aj (k:=some (.obj [.s id,.b set,.i alg,.sl (tgt.map cU) .no,.sl (rules.map aC) .no,.sl (fG kids) .no,.sl (obls.map bt) .no] 61)) hip);have hk0:Keeps [idw,mid] h (upd h ip (some (.obj [.s id,.b set,.i alg,.sl (tgt.map cU) .no,.sl (rules.map aC) .no,.sl (fG kids) .no,.sl (obls.map bt) .no] 61))):=.of (.aj hip);simp -implicitDefEqProofs only[go_sem];obtain⟨hb,ehb⟩:∃hb,upd h ip (some (.obj [.s id,.b set,.i alg,.sl (tgt.map cU) .no,.sl (rules.map aC) .no,.sl (fG kids) .no,.sl (obls.map bt) .no] 61))=hb:=⟨_,rfl⟩;have hbip:hb ip=some (.obj [.s id,.b set,.i alg,.sl (tgt.map cU) .no,.sl (rules.map aC) .no,.sl (fG kids) .no,.sl (obls.map bt) .no] 61):=agu;rw[ehb]at hwb hk0⊢;refine(E3 idw mid m id hb hwb).mono fun x h2 hx=>?_
 cases hm:jg m id with
 |none=>
  rw[hm]at hx;obtain⟨rfl,hs⟩:=hx;simp -implicitDefEqProofs only[go_sem];exact .same (.refl _) ⟨by rw[yD hm];rfl,hk0.trans (.of hs),fun m' h' =>by rw[yD hm]at h';cases h'⟩
 |some m1=>
  rw[hm]at hx;obtain⟨rfl,hk,hw2⟩:=hx;have hip2:h2 ip=some (.obj [.s id,.b set,.i alg,.sl (tgt.map cU) .no,.sl (rules.map aC) .no,.sl (fG kids) .no,.sl (obls.map bt) .no] 61):=hk ip _ (by simp[n1.symm,n2.symm]) hbip
  have hkk:=hk0.trans hk;have bad:∀e,fj m id set alg tgt rules.length kids.length obls= .bad e→(.i e:AV)= .v (.int .i64 (fj m id set alg tgt rules.length kids.length obls).err)∧Keeps [idw,mid] h h2∧∀m',fj m id set alg tgt rules.length kids.length obls= .ok m'→ia h2 idw mid m' :=
   fun e he=>⟨by rw[he];rfl,hkk,fun m' h' =>by rw[he]at h';cases h'⟩
  cases d1:decide (alg<1)
  case true=>
   have e1:=acS d1;simp -implicitDefEqProofs only[go_sem,d1,hip2];exact .same (.refl _) (bad 1 (by simp[fj,hm,e1]))
  cases d2:decide (6<alg)
  case true=>
   have e2:=acS d2;simp -implicitDefEqProofs only[go_sem,d1,d2,hip2];exact .same (.refl _) (bad 1 (by simp[fj,hm,e2]))
  have e1:¬(alg<1∨alg>6):=by have:=acT d1;have:=acT d2;omega
  have tail:∀(z:Unit),¬(set=true∧rules.length>0∨set=false∧(kids.length>0∨alg=4))→fj m id set alg tgt rules.length kids.length obls=need (lG tgt) (need (ij obls) (if rules.length>16∨kids.length>16 then .bad 6 else .ok m1)):=fun _ hh=>by
   simp only[fj,hm];rw[if_neg e1,if_neg hh]
  cases set
  ·cases d4:decide (0<(kids.length:Int))
   case true=>
    have f4:0<kids.length:=by have:=acS d4;omega
    simp -implicitDefEqProofs only[go_sem,d1,d2,hip2,aX,acQ,d4];exact .same (.refl _) (bad 1 (by simp[fj,hm,e1,f4]))
   have g4:¬0<kids.length:=by have:=acT d4;omega
   cases d5:(alg==4)
   case true=>
    have f5:alg=4:=by simpa using d5
    simp -implicitDefEqProofs only[go_sem,d1,d2,hip2,aX,acQ,d4,d5];exact .same (.refl _) (bad 1 (by simp[fj,hm,f5]))
   have g5:alg≠4:=by simpa using d5
   simp -implicitDefEqProofs only[go_sem,d1,d2,hip2,aX,acQ,d4,d5];have e3:=tail () (by simp[g4,g5])
   refine(vC tgt _).pthen ?_;cases t1:(lG tgt !=0)
   case true=>
    exact aih
   have f1:lG tgt=0:=by simpa using t1
   simp -implicitDefEqProofs only[go_sem,t1,hip2];refine(Cs obls _).pthen ?_;cases t2:(ij obls !=0)
   case true=>
    exact aie
   have f2:ij obls=0:=by simpa using t2
   cases t3:decide (16<(rules.length:Int))
   case true=>
    exact ah9
   have f3:¬16<rules.length:=by have:=acT t3;omega
   cases t4:decide (16<(kids.length:Int))
   case true=>
    exact ah5
   have f4:¬16<kids.length:=by have:=acT t4;omega
   simp -implicitDefEqProofs only[go_sem,t2,hip2,acQ,t3,aX,t4];have e4:fj m id false alg tgt rules.length kids.length obls= .ok m1:=by rw[e3];simp[need,f1,f2,f3,f4]
   exact aiI
  ·cases d3:decide (0<(rules.length:Int))
   case true=>
    have f3:0<rules.length:=by have:=acS d3;omega
    simp -implicitDefEqProofs only[go_sem,d1,d2,hip2,acQ,d3];exact .same (.refl _) (bad 1 (by simp[fj,hm,e1,f3]))
   have g3:¬0<rules.length:=by have:=acT d3;omega
   simp -implicitDefEqProofs only[go_sem,d1,d2,hip2,acQ,d3];have e3:=tail () (by simp[g3])
   refine(vC tgt _).pthen ?_;cases t1:(lG tgt !=0)
   case true=>
    exact aih
   have f1:lG tgt=0:=by simpa using t1
   simp -implicitDefEqProofs only[go_sem,t1,hip2];refine(Cs obls _).pthen ?_;cases t2:(ij obls !=0)
   case true=>
    exact aie
   have f2:ij obls=0:=by simpa using t2
   cases t3:decide (16<(rules.length:Int))
   case true=>
    exact ah9
   have f3:¬16<rules.length:=by have:=acT t3;omega
   cases t4:decide (16<(kids.length:Int))
   case true=>
    exact ah5
   have f4:¬16<kids.length:=by have:=acT t4;omega
   simp -implicitDefEqProofs only[go_sem,t2,hip2,acQ,t3,aX,t4];have e4:fj m id true alg tgt rules.length kids.length obls= .ok m1:=by rw[e3];simp[need,f1,f2,f3,f4]
   exact aiI
theorem MB(k:bH):(aM k).cells.length=7:=by
 cases k;rfl
theorem vp{m:eu}{d:Nat}{p:bH}(h:4<d):kG m d p= .bad 6:=by
 cases p;grind [kG]
theorem vq{m:eu}{d:Nat}{id:Txt}{set:Bool}{alg:Int}{tgt:ga}{rules:List cQ}{kids:List bH}{obls:List cB}{e:Int}(h:¬4<d)
  (hh:fj m id set alg tgt rules.length kids.length obls= .bad e):kG m d (.mk id set alg tgt rules kids obls)= .bad e:=by
 grind [kG]
theorem zj{m m1:eu}{d:Nat}{id:Txt}{set:Bool}{alg:Int}{tgt:ga}{rules:List cQ}{kids:List bH}{obls:List cB}{e:Int}(h:¬4<d)
  (hh:fj m id set alg tgt rules.length kids.length obls= .ok m1) (hr:fA m1 rules= .bad e):kG m d (.mk id set alg tgt rules kids obls)= .bad e:=by
 grind [kG]
theorem Bg{m m1 m2:eu}{d:Nat}{id:Txt}{set:Bool}{alg:Int}{tgt:ga}{rules:List cQ}{kids:List bH}{obls:List cB}(h:¬4<d)
  (hh:fj m id set alg tgt rules.length kids.length obls= .ok m1) (hr:fA m1 rules= .ok m2):kG m d (.mk id set alg tgt rules kids obls)=iR m2 (d+1) kids:=by
 grind [kG]
theorem ue:∀(n d:Nat) (m:eu) (p:bH) (e:Int),d+n=5→kG m d p= .bad e→e≠0
 |0,d,m,p,e,hd,h=>by grind [vp]
 |n+1,d,m,.mk id set alg tgt rules kids obls,e,hd,h=>by
  by_cases h4:4<d
  ·omega
  cases hh:fj m id set alg tgt rules.length kids.length obls with
  |bad e' =>grind [vq,AT]
  |ok m1=>
   cases hr:fA m1 rules with
   |bad e' =>
    rw[zj h4 hh hr]at h;cases h
    clear hh hd
    induction rules generalizing m1 with
    |nil=>cases hr
    |cons r l ih=>
     grind [fA,gu,Bq]
   |ok m2=>
    rw[Bg h4 hh hr]at h;have ih:=fun m p e=>ue n (d+1) m p e ac0
    clear hh hr
    induction kids generalizing m2 with
    |nil=>cases h
    |cons k l ihk=>
     simp only[iR]at h;cases hx:kG m2 (d+1) k with
     |bad x=>rw[hx]at h;cases h;exact ih _ _ _ hx
     |ok m3=>rw[hx]at h;exact ihk m3 h
theorem HS{e:Int}{w:Went}{m:eu}(h:need e w= .ok m):e=0∧w= .ok m:=by
 grind [need]
theorem LK{m m1:eu}{id:Txt}{set:Bool}{alg:Int}{tgt:ga}{nr nk:Nat}{obls:List cB}(h:fj m id set alg tgt nr nk obls= .ok m1):
  jg m id=some m1∧1≤alg∧alg≤6∧(set=true→nr=0)∧(set=false→nk=0∧alg≠4)∧lG tgt=0∧ij obls=0∧nr≤16∧nk≤16:=by
 unfold fj at h;split at h
 ·cases h
 split at h
 ·cases h
 split at h
 ·cases h
 obtain⟨h3,h⟩:=HS h;obtain⟨h4,h⟩:=HS h
 grind
theorem IA:∀(n d:Nat),d+n=5→∀(idw mid:Nat) (m:eu) (p:bH) (h:Heap),ia h idw mid m→
  ai Tryz.prog 158 [.ptr idw 0,aM p,.i d] h fun x h' =>x= .v (.int .i64 (kG m d p).err)∧Keeps [idw,mid] h h'∧∀m',kG m d p= .ok m'→ia h' idw mid m'
 |n,d,hd,idw,mid,m,.mk id set alg tgt rules kids obls,h,hw=>by
  refine acZ Tryz.func158 52 [.tmp 6] fun hwf=>?_
  simp only[go_sem,aM,aV,aA];intro ip hip;have n1:idw≠ip:=fun e=>by have:=hw.1;rw[e,hip]at this;cases this
  have n2:mid≠ip:=fun e=>by have:=hw.2.1;rw[e,hip]at this;cases this
  have hwb:=hw.keep (Sub.aj (k:=some (.obj [.s id,.b set,.i alg,.sl (tgt.map cU) .no,.sl (rules.map aC) .no,.sl (fG kids) .no,.sl (obls.map bt) .no] 61)) hip);have hk0:Keeps [idw,mid] h (upd h ip (some (.obj [.s id,.b set,.i alg,.sl (tgt.map cU) .no,.sl (rules.map aC) .no,.sl (fG kids) .no,.sl (obls.map bt) .no] 61))):=.of (.aj hip);obtain⟨hb,ehb⟩:∃hb,upd h ip (some (.obj [.s id,.b set,.i alg,.sl (tgt.map cU) .no,.sl (rules.map aC) .no,.sl (fG kids) .no,.sl (obls.map bt) .no] 61))=hb:=⟨_,rfl⟩;have hbip:hb ip=some (.obj [.s id,.b set,.i alg,.sl (tgt.map cU) .no,.sl (rules.map aC) .no,.sl (fG kids) .no,.sl (obls.map bt) .no] 61):=agu;rw[ehb]at hwb hk0⊢;cases d0:decide (4<(d:Int))
  case true=>
   have e0:4<d:=ac1;simp only[go_sem,d0];exact .same (.refl _) ⟨by rw[vp e0];rfl,hk0,fun m' h' =>by grind [vp]⟩
  have e0:¬4<d:=ac1;simp only[go_sem,d0,hbip];have hhead:=Nv idw mid m id set alg tgt rules kids obls hb hwb;simp only[aM,aV,aA]at hhead;refine hhead.mono fun x h2 ⟨ex,hk,hw2⟩=>?_
  subst ex;have hk2:=hk0.trans hk;cases hh:fj m id set alg tgt rules.length kids.length obls with
  |bad e=>
   have hne:=AT hh;have t1:(e !=0)=true:=ac1;simp only[go_sem,Went.err,t1];exact .same (.refl _) ⟨by rw[vq e0 hh];rfl,hk2,fun m' h' =>by grind [vq]⟩
  |ok m1=>
   have hw2:=hw2 _ hh;have hle:=(LK hh).2.2.2.2.2.2.2;have hip2:=hk ip _ ac1 hbip;simp only[go_sem,Went.err,hip2,acQ];refine .intro (fun k ρ h' =>∃(i:Nat) (mi:eu),i≤rules.length∧k=rules.length - i∧fA m1 (rules.take i)= .ok mi∧Keeps [idw,mid] h h'∧ia h' idw mid mi∧
    h' ip=some (.obj [.s id,.b set,.i alg,.sl (tgt.map cU) .no,.sl (rules.map aC) .no,.sl (fG kids) .no,.sl (obls.map bt) .no] 61)∧
    lk ρ 0=some (.ptr idw 0)∧lk ρ 2=some (.i d)∧lk ρ 4=some (.ptr ip 0)∧lk ρ 23=some (.sl (rules.map aC) .no)∧lk ρ 24=some (.i rules.length)∧lk ρ 25=some (.i i)) rules.length ?_ ?_
   ·refine⟨0,m1,ac0,rfl,rfl,hk2,hw2,hip2,?_,?_,?_,?_,?_,?_⟩<;>simp only[go_sem]
   ·rintro k ρ h' ⟨i,mi,hi,rfl,hri,hki,hwi,hipi,r0,r2,r4,r23,r24,r25⟩
    simp only[go_sem,r24,r25];refine .intro (fun e=>?_) (fun e=>?_)
    ·have hlt:i<rules.length:=acX e
     have w1:IntKind.i64.wrap ((i:Int)+1)=((i+1:Nat):Int):=adf;simp only[go_sem,r23,r25];refine .at i ac1 adi ?_;simp only[go_sem,acR,aC];intro ir hir;have hrl:=Nx idw mid mi rules[i] _ (hwi.keep (Sub.aj (k:=some (.obj [.s rules[i].id,.b rules[i].deny,aV rules[i].tgt,fq rules[i].cond,aA rules[i].obls] 210)) hir));simp only[aC]at hrl;simp only[go_sem,r0];refine hrl.mono fun x h3 ⟨ex,hk3,hw3⟩=>?_
     subst ex;have hk4:=(hki.trans (.of (Sub.aj hir))).trans hk3;have hip3:=hk3 ip _ ac1 ((Sub.aj hir) _ _ hipi);cases hx:gu mi rules[i]with
     |bad x=>
      have t1:(x !=0)=true:=by grind [Bq]
      simp only[go_sem,Went.err,t1];have hp:=zj (d:=d) (kids:=kids) e0 hh (EB hlt hri hx);exact .same (.refl _) ⟨by rw[hp];rfl,hk4,fun m' h' =>ac1⟩
     |ok m3=>
      simp only[go_sem,r25,Went.err,w1];refine⟨_,?_,i+1,m3,ac0,rfl,by grind [wR],hk4,hw3 _ hx,hip3,?_,?_,?_,?_,?_,?_⟩
      ·omega
      all_goals simp only[go_sem,r0,r2,r4,r23,r24]
    ·have hge:i=rules.length:=by grind
     subst hge;rw[List.take_length]at hri;have hpk:=Bg (d:=d) (kids:=kids) e0 hh hri;simp only[go_sem,r4,hipi,aX,acQ];refine .intro (fun k ρ h' =>∃(i:Nat) (mj:eu),i≤kids.length∧k=kids.length - i∧iR mi (d+1) (kids.take i)= .ok mj∧Keeps [idw,mid] h h'∧ia h' idw mid mj∧
      lk ρ 0=some (.ptr idw 0)∧lk ρ 2=some (.i d)∧lk ρ 37=some (.sl (kids.map aM) .no)∧lk ρ 38=some (.i kids.length)∧lk ρ 39=some (.i i)) kids.length ?_ ?_
     ·refine⟨0,mi,ac0,rfl,rfl,hki,hwi,?_,?_,?_,?_,?_⟩<;>simp only[go_sem,r0,r2]
     ·rintro k ρ h' ⟨i,mj,hi,rfl,hkj,hki,hwi,r0,r2,r37,r38,r39⟩
      simp only[go_sem,r38,r39];refine .intro (fun e=>?_) (fun e=>?_)
      ·have hlt:i<kids.length:=acX e
       have w1:IntKind.i64.wrap ((i:Int)+1)=((i+1:Nat):Int):=adf;have w2:IntKind.i64.wrap ((d:Int)+1)=((d+1:Nat):Int):=adf;obtain⟨n',rfl⟩:∃n',n=n' +1:=⟨n - 1,ac0⟩;have hrec:=IA n' (d+1) ac0 idw mid mj kids[i];cases hki' :kids[i]with
       |mk kid kset kalg ktgt krules kkids kobls=>
       rw[hki']at hrec;simp only[aM,aV,aA]at hrec;simp only[go_sem,r37,r39];refine .at i ac1 (by grind [MB]) ?_
       simp only[go_sem,acR,hki',aM,aV,aA];intro ir hir;simp only[go_sem,r0,r2,w2];refine(hrec _ (hwi.keep (Sub.aj hir))).mono fun x h3 ⟨ex,hk3,hw3⟩=>?_
       subst ex;have hk4:=(hki.trans (.of (Sub.aj hir))).trans hk3;cases hx:kG mj (d+1) (.mk kid kset kalg ktgt krules kkids kobls)with
       |bad x=>
        have t1:(x !=0)=true:=by simpa using ue n' (d+1) _ _ _ ac0 hx
        simp only[go_sem,Went.err,t1];have hp:=F7 hlt hkj (by rw[hki'];exact hx)
        exact .same (.refl _) ⟨by rw[hpk,hp];rfl,hk4,fun m' h' =>ac1⟩
       |ok m3=>
        simp only[go_sem,r39,Went.err,w1];refine⟨_,?_,i+1,m3,ac0,rfl,by grind [yK],hk4,hw3 _ hx,?_,?_,?_,?_,?_⟩
        ·omega
        all_goals simp only[go_sem,r0,r2,r37,r38]
      ·have hge:i=kids.length:=by grind
       subst hge;rw[List.take_length]at hkj;simp only[go_sem];exact .same (.refl _) ⟨by rw[hpk,hkj];rfl,hki,fun m' h' =>ac1⟩
theorem Gg{h:Heap}{i j:Nat}{b:Blk}(e:upd h i (some b) j=none):j≠i:=fun hh=>by
 subst hh;rw[ah]at e;cases e
theorem uo(p:bH)(h:Heap):ai Tryz.prog 98 [aM p] h fun r h' =>r= .i (gy p)∧h' =h:=by
 cases p with
 |mk id set alg tgt rules kids obls=>
 refine acZ Tryz.func98 10 [.tmp 2] fun hwf=>?_
 simp only[go_sem,aM,aV,aA];intro ip hip;simp only[go_sem];intro im him;simp only[go_sem];intro iw hiw;have n1:=Gg him;have n2:=Gg hiw;have hiw1:=hiw;rw[ag _ _ n2]at hiw1;have n3:=Gg hiw1;have s1:Ab.Sub h (upd (upd (upd h ip (some (.obj [.s id,.b set,.i alg,.sl (tgt.map cU) .no,.sl (rules.map aC) .no,.sl (fG kids) .no,.sl (obls.map bt) .no] 61))) im (some (.mp []))) iw (some (.obj [.mp im,.i 0] 247))):=
  ((Sub.aj hip).trans (.aj him)).trans (.aj hiw)
 obtain⟨h3,e3⟩:∃h3,upd (upd (upd h ip (some (.obj [.s id,.b set,.i alg,.sl (tgt.map cU) .no,.sl (rules.map aC) .no,.sl (fG kids) .no,.sl (obls.map bt) .no] 61))) im (some (.mp []))) iw (some (.obj [.mp im,.i 0] 247))=h3:=⟨_,rfl⟩;have g1:h3 ip=some (.obj [.s id,.b set,.i alg,.sl (tgt.map cU) .no,.sl (rules.map aC) .no,.sl (fG kids) .no,.sl (obls.map bt) .no] 61):=by
  rw[←e3,ag _ _ n3.symm,ag _ _ n1.symm,ah]
 have g2:ia h3 iw im ⟨[],0⟩:=by
  refine⟨by rw[←e3,ah];rfl,by rw[←e3,ag _ _ n2.symm,ah];rfl,fun l hl=>ac1,ac4⟩
 have hi0:h im=none:=adD;have hw0:h iw=none:=adD;simp only[go_sem];rw[e3]at s1⊢;simp only[go_sem,g1];have hp:=IA 4 1 rfl iw im ⟨[],0⟩ (.mk id set alg tgt rules kids obls) h3 g2;refine hp.mono fun x h4 ⟨ex,hk,_⟩=>?_
 subst ex;simp only[go_sem];refine .mk _ (.refl _) (fun j k hj=>?_) ⟨rfl,rfl⟩
 refine hk j k ?_ (s1 _ _ hj)
 grind
def jW(x:bH×Int×Int):AV:=.tup [aM x.1,.i x.2.1,.i x.2.2]
theorem jw(a b c:AV)(h:Weak a b)(d:AV):Weak (.tup [a,c,d]) (.tup [b,c,d]):=.tup _ _ rfl fun i h1 h2=>by
 rcases i with _|_|_|i
 ·exact h
 ·exact ael
 ·exact ael
 grind
theorem ze(s:Txt)(h:Heap)(he:jj h):ai Tryz.prog 49 [.s s] h fun r h' =>r=jW (aR s)∧h' =h:=by
 refine acZ Tryz.func49 61 [.cell 2 61,.tmp 3,.tmp 4] fun hwf=>?_
 simp only[go_sem];intro i2 hi2;simp only[go_sem];refine(xU s _ (he.sub (.aj hi2))).pthen ?_;cases el:qO s with
 |bad e a=>
  have e1:=tN el;have d1:(e !=0)=true:=by
   grind
  have efin:aR s=(oP,e,a):=by grind [aR]
  simp only[go_sem,F9,d1];rw[efin];exact .mk (h' :=h) (jW (oP,e,a)) (jw _ _ _ (gp _) _) (.aj hi2) ⟨rfl,rfl⟩
 |ok ts=>
  have efin:aR s=zc s ts:=by grind [aR]
  have hw:=Kx el 0 0 0;have hpol:=Ek 3 1 rfl ⟨ts,0,0,0,0⟩ hw (Nat.zero_le _);have hap:=xQ 4 ⟨ts,0,0,0,0⟩ hw;obtain⟨⟨⟨pid,pset,palg,ptgt,prules,pkids,pobls⟩,st1⟩,ep⟩:∃x,gD 4 ⟨ts,0,0,0,0⟩=x:=⟨_,rfl⟩;rw[show 3+1=4 from rfl,ep]at hpol
  rw[ep]at hap;simp only[aM]at hpol hap;simp only[zc,ep]at efin;simp only[go_sem,F9];intro i8 hi8;have n8:=aH hi8;have m82:¬i8=i2:=n8;have m28:¬i2=i8:=fun e=>n8 e.symm
  have hh8:h i8=none:=adD;simp only[go_sem];refine hpol.go (ah ..) ?_;rw[cP];simp only[go_sem];intro i9 hi9;have n9:=aH hi9;have hi9' :=hi9;rw[ag _ _ n9]at hi9';have n92:=aH hi9';have m92:¬i9=i2:=n92;have m29:¬i2=i9:=fun e=>n92 e.symm
  have m98:¬i9=i8:=n9;have m89:¬i8=i9:=fun e=>n9 e.symm
  have hh9:h i9=none:=adD;have c9:∀(f:Heap) (x y:Option Blk),upd (upd f i8 x) i9 y=upd (upd f i9 y) i8 x:=fun f x y=>ct f x y n9.symm
  simp only[go_sem,c9,ak,m98];refine(mc st1 hap.1).run ?_;have subs:∀x y z,Sub h (upd (upd (upd h i2 x) i9 y) i8 z):=fun x y z=>((Sub.aj hi2).put hh9 _).put hh8 _
  cases d1:((aJ st1).kind !=7)
  ·have k1:(aJ st1).kind=7:=by grind
   have e2:(if(aJ st1).kind=7 then st1 else bn st1)=st1:=if_pos k1
   simp only[go_sem,fB,d1];cases db:((st1).bad==0)
   ·have eb:(st1).bad≠0:=by grind
    simp only[go_sem,PO,db];have eend:qb s (.mk pid pset palg ptgt prules pkids pobls,st1)=st1:=by
     simp_all [qb,if_neg]
    have hbb:(st1).bad≠0:=eb;have dn:((st1).bad !=0)=true:=ac1;simp only[go_sem,dn];refine .calls (hm1 i8 (PO (st1))) [0,1,2,3,4,5,6,7,8,9,10,11] (.hm1 (ah ..)) ac3 rfl ?_;simp only[go_sem,ak,m28,m29,PO,gh];refine⟨.hm1 ((ag _ _ n8).trans (ah ..)),?_⟩;have efin2:aR s=(oP,(st1).bad,(st1).place):=ac1;rw[efin2];exact .mk (h' :=h) (jW (oP,(st1).bad,(st1).place)) (jw _ _ _ (gp _) _) (Sub.put (subs _ _ _) hi2 _) ⟨rfl,rfl⟩
   ·have eb:(st1).bad=0:=by grind
    simp only[go_sem,ak,m98,PO,db];refine(uo (.mk pid pset palg ptgt prules pkids pobls) _).pthen ?_;cases dr:(gy (.mk pid pset palg ptgt prules pkids pobls) !=0)
    ·have er:gy (.mk pid pset palg ptgt prules pkids pobls)=0:=by grind
     have dn:((st1).bad !=0)=false:=ac1;simp only[go_sem,ak,m28,m29,m98,dr,dn];have eend:qb s (.mk pid pset palg ptgt prules pkids pobls,st1)=st1:=by
      simp_all [qb,if_neg]
     exact aiS
    ·have er:gy (.mk pid pset palg ptgt prules pkids pobls)≠0:=by grind
     simp only[go_sem,dr];refine(rD (st1) 5 s.length).run ?_;have eend:qb s (.mk pid pset palg ptgt prules pkids pobls,st1)=bG (st1) 5 s.length:=by
      simp_all [qb,if_pos]
     have hwb:bG (st1) 5 s.length= {(st1)with bad:=5,place:=s.length}:=by rw[bG,if_pos eb]
     have hbb:(bG (st1) 5 s.length).bad≠0:=ac1;have dn:((bG (st1) 5 s.length).bad !=0)=true:=ac1;simp only[go_sem,PO,dn];refine .calls (hm1 i8 (PO (bG (st1) 5 s.length))) [0,1,2,3,4,5,6,7,8,9,10,11] (.hm1 (ah ..)) ac3 rfl ?_;simp only[go_sem,ak,m28,m29,PO,gh];refine⟨.hm1 ((ag _ _ n8).trans (ah ..)),?_⟩;have efin2:aR s=(oP,(bG (st1) 5 s.length).bad,(bG (st1) 5 s.length).place):=ac1;rw[efin2];exact .mk (h' :=h) (jW (oP,(bG (st1) 5 s.length).bad,(bG (st1) 5 s.length).place)) (jw _ _ _ (gp _) _) (Sub.put (subs _ _ _) hi2 _) ⟨rfl,rfl⟩
  ·have k1:(aJ st1).kind≠7:=by grind
   have e2:(if(aJ st1).kind=7 then st1 else bn st1)=bn st1:=if_neg k1
   simp only[go_sem,fB,d1];refine(lE st1 hap.1).run ?_;simp only[go_sem];cases db:((bn st1).bad==0)
   ·have eb:(bn st1).bad≠0:=by grind
    simp only[go_sem,PO,db];have eend:qb s (.mk pid pset palg ptgt prules pkids pobls,st1)=bn st1:=by
     simp_all [qb,if_neg]
    have hbb:(bn st1).bad≠0:=eb;have dn:((bn st1).bad !=0)=true:=ac1;simp only[go_sem,dn];refine .calls (hm1 i8 (PO (bn st1))) [0,1,2,3,4,5,6,7,8,9,10,11] (.hm1 (ah ..)) ac3 rfl ?_;simp only[go_sem,ak,m28,m29,PO,gh];refine⟨.hm1 ((ag _ _ n8).trans (ah ..)),?_⟩;have efin2:aR s=(oP,(bn st1).bad,(bn st1).place):=ac1;rw[efin2];exact .mk (h' :=h) (jW (oP,(bn st1).bad,(bn st1).place)) (jw _ _ _ (gp _) _) (Sub.put (subs _ _ _) hi2 _) ⟨rfl,rfl⟩
   ·have eb:(bn st1).bad=0:=by grind
    simp only[go_sem,ak,m98,PO,db];refine(uo (.mk pid pset palg ptgt prules pkids pobls) _).pthen ?_;cases dr:(gy (.mk pid pset palg ptgt prules pkids pobls) !=0)
    ·have er:gy (.mk pid pset palg ptgt prules pkids pobls)=0:=by grind
     have dn:((bn st1).bad !=0)=false:=ac1;simp only[go_sem,ak,m28,m29,m98,dr,dn];have eend:qb s (.mk pid pset palg ptgt prules pkids pobls,st1)=bn st1:=by
      simp_all [qb,if_neg]
     exact aiS
    ·have er:gy (.mk pid pset palg ptgt prules pkids pobls)≠0:=by grind
     simp only[go_sem,dr];refine(rD (bn st1) 5 s.length).run ?_;have eend:qb s (.mk pid pset palg ptgt prules pkids pobls,st1)=bG (bn st1) 5 s.length:=by
      simp_all [qb,if_pos]
     have hwb:bG (bn st1) 5 s.length= {(bn st1)with bad:=5,place:=s.length}:=by rw[bG,if_pos eb]
     have hbb:(bG (bn st1) 5 s.length).bad≠0:=ac1;have dn:((bG (bn st1) 5 s.length).bad !=0)=true:=ac1;simp only[go_sem,PO,dn];refine .calls (hm1 i8 (PO (bG (bn st1) 5 s.length))) [0,1,2,3,4,5,6,7,8,9,10,11] (.hm1 (ah ..)) ac3 rfl ?_;simp only[go_sem,ak,m28,m29,PO,gh];refine⟨.hm1 ((ag _ _ n8).trans (ah ..)),?_⟩;have efin2:aR s=(oP,(bG (bn st1) 5 s.length).bad,(bG (bn st1) 5 s.length).place):=ac1;rw[efin2];exact .mk (h' :=h) (jW (oP,(bG (bn st1) 5 s.length).bad,(bG (bn st1) 5 s.length).place)) (jw _ _ _ (gp _) _) (Sub.put (subs _ _ _) hi2 _) ⟨rfl,rfl⟩
end Go.Proofs.YtfdgemhnlennbaaGreatDoor
namespace Go.Ab
open Go
theorem OwE.keepb{tb:TypeId}{h0 h h' :Heap}{sz:Nat}{y:AV}{xs:List AV}(hw:OwE tb h0 h sz y xs)(hk:∀id,h0 id=Option.none→h id≠Option.none→h' id=h id):OwE tb h0 h' sz y xs:=
 hw.keep fun id e=>hk id (hw.nid e).1 (hw.nid e).2.1
end Go.Ab
namespace Go.Proofs.YtfdgemhnlennbaaGreatDoor
open Go Go.Ab Go.Bf
theorem fm.keepb{h0 h h' :Heap}{ys:List AV}{x:AV}{c:aL}(hm:fm h0 h ys x c)(hk:∀id,h0 id=none→h id≠none→h' id=h id):fm h0 h' ys x c:=by
 obtain⟨f,l,e,a,b,c,d⟩:=hm;exact⟨f,l,e,a.keepb hk,b.keepb hk,c,d⟩
theorem lY.keepb{h0 h h' :Heap}{ys:List AV}{y:AV}{cs:List aL}{i0:Nat}(ho:lY h0 h ys y cs i0)(hk:∀id,h0 id=none→h id≠none→h' id=h id):lY h0 h' ys y cs i0:=by
 obtain⟨xs,a,b,c,d⟩:=ho;exact⟨xs,a.keepb hk,b,c,fun h1 h2=>(d h1 h2).keepb hk⟩
theorem sZ.keepb{h0 h h' :Heap}{x:AV}{s:an}{i0:Nat}(ho:sZ h0 h x s i0)(hk:∀id,h0 id=none→h id≠none→h' id=h id):sZ h0 h' x s i0:=by
 obtain⟨y1,y2,y3,y4,e,a,b,c,d,r⟩:=ho;exact⟨y1,y2,y3,y4,e,a.keepb hk,b.keepb hk,c.keepb hk,d.keepb hk,r⟩
theorem lY.keepx{h0 h h' :Heap}{ys:List AV}{y z:AV}{cs:List aL}{i0:Nat}(ho:lY h0 h ys y cs i0)(hz:z∈ys)(hy:apart y z)(hk:∀id,h0 id=none→h id≠none→nid z≠some id→h' id=h id):lY h0 h' ys y cs i0:=by
 obtain⟨xs,a,b,c,d⟩:=ho;refine⟨xs,a.keep fun id e=>hk id (a.nid e).1 (a.nid e).2.1 (hy id e),b,c,fun h1 h2=>?_⟩
 obtain⟨f,l,e,of,ol,hap,hys⟩:=d h1 h2;exact⟨f,l,e,of.keep fun id e=>hk id (of.nid e).1 (of.nid e).2.1 ((hys z hz).1 id e),ol.keep fun id e=>hk id (ol.nid e).1 (ol.nid e).2.1 ((hys z hz).2 id e),hap,hys⟩
theorem fm.frz{g h0 h:Heap}{ys:List AV}{x:AV}{c:aL}(hm:fm h0 h ys x c)(hg:Ab.Sub g h0):Frz g h x (cq c):=by
 obtain⟨f,l,rfl,a,b,_⟩:=hm;refine .agg _ _ rfl fun j h1 h2=>?_
 rcases j with _|_|_|_|_|j
 ·exact adm
 ·exact adm
 ·exact adm
 ·exact(a.less hg).frz (bu (fun _=>rfl) _)
 ·exact(b.less hg).frz (bu (fun _=>rfl) _)
 ·simp at h1;omega
theorem Jm{g h0 h:Heap}{y:AV}{xs:List AV}{cs:List aL}(hw:OwE 122 h0 h 5 y xs)(hg:Ab.Sub g h0)(hn:xs.length=cs.length)(hx:∀j (h1:j<xs.length) (h2:j<cs.length),Frz g h xs[j] (cq cs[j])):Frz g h y (gb cs):=by
 rcases hw with⟨rfl,rfl⟩|⟨id,h1,hw⟩
 ·have:cs= []:=by grind
  subst this;exact .sl [] [] .full rfl ac0 ac7
 ·have hsz:∀i (h1:i<xs.length),xs[i].cells.length=5:=fun i h1=>hw.rd.1 _ ac7
  refine hw.frz (hg.none h1) ac1 (fun i h1 h2=>by rw[hsz i h1,acR];rfl) fun i h1 h2 j h3 h4=>?_
  have h2' :i<cs.length:=ac0;have hf:=hx i h1 h2';have key:∀x y:AV,Frz g h x y→bA y=true→cL y=true→∀j (h3:j<x.cells.length) (h4:j<y.cells.length),Frz g h x.cells[j] y.cells[j]:=by
   intro x y hf ha hp j h3 h4;cases hf with
   |keep x hx=>exact .pure (nL hp _ (acV h4))
   |agg xs ys hn hr=>exact hr j h3 h4
   |_=>cases ha
  have e:(cs.map cq)[i]'h2=cq cs[i]:=ac7;simp only[e]at h4⊢;exact key _ _ hf rfl (by simp only[cq,nw,cL,gV,gw,sI,Bool.and_true,Bool.true_and,Bool.and_eq_true];exact⟨bu (fun _=>rfl) _,bu (fun _=>rfl) _⟩) j h3 h4
theorem lY.frz{g h0 h:Heap}{ys:List AV}{y:AV}{cs:List aL}{i0:Nat}(ho:lY h0 h ys y cs i0)(hg:Ab.Sub g h0):Frz g h y (gb cs):=by
 obtain⟨xs,a,b,c,d⟩:=ho;refine Jm a hg b fun j h1 h2=>?_
 by_cases e:j=i0
 ·subst e;exact(d h1 h2).frz hg
 grind [Dp]
theorem MC{g h:Heap}(p:bH):∀x∈fX p,Frz g h x x:=fun x hx=>by
 refine .pure (nL (x:=aM p) (Em p) x ?_);rw[O1];exact hx
theorem Dq{g h:Heap}{xs:List AV}(hx:∀x∈xs,Frz g h x x):∀i (h1:i<xs.length) (h2:i<xs.length),Frz g h xs[i] xs[i]:=fun i h1 _=>hx _ (acV h1)
theorem HA{g h:Heap}{ps bs cs ds:List AV}(n1:ps.length=bs.length)(n2:cs.length=ds.length)(h1:∀i (a:i<ps.length) (b:i<bs.length),Frz g h ps[i] bs[i])(h2:∀i (a:i<cs.length) (b:i<ds.length),Frz g h cs[i] ds[i]):
  ∀i (a:i<(ps++cs).length) (b:i<(bs++ds).length),Frz g h (ps++cs)[i] (bs++ds)[i]:=fun i a b=>by
 by_cases e:i<ps.length
 ·rw[List.getElem_append_left e,List.getElem_append_left ac0];exact h1 i e ac0
 ·rw[List.getElem_append_right ac0,List.getElem_append_right ac0]
  simp only[acU]at a b;have:=h2 (i - ps.length) ac0 ac0;simp only[n1]at this⊢;exact adN
theorem uY{g h:Heap}{s:an}{y1 y2 y3 y4:AV}(a:Frz g h y1 (gb s.cases))(b:Frz g h y2 (kj s.reviews))(c:Frz g h y3 (lu s.notices))(d:Frz g h y4 (dY s.roles)):
  Frz g h (.agg ([.i s.tick,y1,y2,y3,y4]++fX s.policy++ [.i s.version])) (cM s):=by
 refine .agg _ _ ac7 (HA ac7 rfl (HA rfl rfl (fun i h1 h2=>?_) (Dq (MC _))) (Dq fun x hx=>by rw[List.mem_singleton.1 hx];exact .pure rfl))
 rcases i with _|_|_|_|_|i
 ·exact adm
 ·exact a
 ·exact b
 ·exact c
 ·exact d
 ·simp at h1;omega
theorem lY.rd{h0 h:Heap}{ys:List AV}{y:AV}{cs:List aL}{i0:Nat}(ho:lY h0 h ys y cs i0):zV h y cs:=by
 obtain⟨xs,a,b,c,d⟩:=ho;refine⟨xs,a.rd,b,fun j h1 h2=>?_⟩
 by_cases e:j=i0
 ·subst e
  obtain⟨f,l,e,a,b,_⟩:=d h1 h2;exact⟨f,l,e,a.rd,b.rd⟩
 grind [rdC]
theorem sZ.rd{h0 h:Heap}{x:AV}{s:an}{i0:Nat}(ho:sZ h0 h x s i0):RdS h x s:=by
 obtain⟨y1,y2,y3,y4,rfl,a,b,c,d,r⟩:=ho;exact⟨y1,y2,y3,y4,rfl,a.rd,b.rd,c.rd,d.rd⟩
end Go.Proofs.YtfdgemhnlennbaaGreatDoor
namespace Go.Ab
open Go
theorem OwE.bJ{tb:TypeId}{h0 h1 h:Heap}{sz:Nat}{y:AV}{xs:List AV}(hw:OwE tb h1 h sz y xs)(hs:∀i,h1 i=Option.none→h0 i=Option.none):OwE tb h0 h sz y xs:=by
 rcases hw with hw|⟨id,e,hw⟩
 ·exact ag1
 ·exact .inr ⟨id,hs _ e,hw⟩
end Go.Ab
namespace Go.Proofs.YtfdgemhnlennbaaGreatDoor
open Go Go.Ab Go.Bf
theorem fm.bJ{g h0 h:Heap}{ys:List AV}{x:AV}{c:aL}(hm:fm h0 h ys x c)(hg:∀i,h0 i=none→g i=none):fm g h ys x c:=by
 obtain⟨f,l,e,a,b,c⟩:=hm;exact⟨f,l,e,a.bJ hg,b.bJ hg,c⟩
theorem lY.bJ{g h0 h:Heap}{ys:List AV}{y:AV}{cs:List aL}{i0:Nat}(ho:lY h0 h ys y cs i0)(hg:∀i,h0 i=none→g i=none):lY g h ys y cs i0:=by
 obtain⟨xs,a,b,c,d⟩:=ho;exact⟨xs,a.bJ hg,b,c,fun h1 h2=>(d h1 h2).bJ hg⟩
theorem sZ.bJ{g h0 h:Heap}{x:AV}{s:an}{i0:Nat}(ho:sZ h0 h x s i0)(hg:∀i,h0 i=none→g i=none):sZ g h x s i0:=by
 obtain⟨y1,y2,y3,y4,e,a,b,c,d,r⟩:=ho;exact⟨y1,y2,y3,y4,e,a.bJ hg,b.bJ hg,c.bJ hg,d.bJ hg,r⟩
theorem pG{g K:Heap}{S:an}{j:Nat}{y1 y2 y3 y4:AV}{tk ver palg:Int}{pid:Txt}{pset:Bool}{ptgt:ga}{prules:List cQ}{pkids:List bH}{pobls:List cB}(h1:S.tick=tk)(h2:S.policy= .mk pid pset palg ptgt prules pkids pobls)(h3:S.version=ver)
  (a:lY g K [y1,y2,y3,y4] y1 S.cases j) (b:OwE 135 g K 7 y2 (S.reviews.map iO)) (c:OwE 138 g K 3 y3 (S.notices.map nc)) (d:OwE 141 g K 2 y4 (S.roles.map eJ)) (ap:apart y1 y2∧apart y1 y3∧apart y1 y4∧apart y2 y3∧apart y2 y4∧apart y3 y4):
  sZ g K (.agg [.i tk,y1,y2,y3,y4,.s pid,.b pset,.i palg,aV ptgt,.sl (prules.map aC) .no,.sl (pkids.map aM) .no,aA pobls,.i ver]) S j:=by
 refine⟨y1,y2,y3,y4,?_,a,b,c,d,ap⟩;rw[h1,h2,h3,show fX (.mk pid pset palg ptgt prules pkids pobls)= [.s pid,.b pset,.i palg,aV ptgt,.sl (prules.map aC) .no,.sl (pkids.map aM) .no,aA pobls] by simp[fX,aX]]
 rfl
theorem lY.move{h0 h h' :Heap}{ys ys' :List AV}{y z:AV}{cs:List aL}{i0:Nat}(ho:lY h0 h ys y cs i0)(hz:z∈ys)(hy:apart y z)(hk:∀id,h0 id=none→h id≠none→nid z≠some id→h' id=h id)
  (hr:∀y'∈ys',∀k,nid y' =some k→h k=none∨∃w∈ys,nid w=some k):lY h0 h' ys' y cs i0:=by
 obtain⟨xs,a,b,c,d⟩:=ho;refine⟨xs,a.keep fun id e=>hk id (a.nid e).1 (a.nid e).2.1 (hy id e),b,c,fun h1 h2=>?_⟩
 obtain⟨f,l,e,of,ol,hap,hys⟩:=d h1 h2;refine⟨f,l,e,of.keep fun id e=>hk id (of.nid e).1 (of.nid e).2.1 ((hys z hz).1 id e),ol.keep fun id e=>hk id (ol.nid e).1 (ol.nid e).2.1 ((hys z hz).2 id e),hap,fun w hw=>⟨fun k e1 e2=>?_,fun k e1 e2=>?_⟩⟩
 ·rcases hr w hw k e2 with hn|⟨v,hv,e3⟩
  ·exact(of.nid e1).2.1 hn
  ·exact(hys v hv).1 k e1 e3
 ·rcases hr w hw k e2 with hn|⟨v,hv,e3⟩
  ·exact(ol.nid e1).2.1 hn
  ·exact(hys v hv).2 k e1 e3
theorem O0{g K:Heap}{r X:AV}{A B:List aL}{C:aL}{ys:List AV}{j:Nat}(hj:A.length=j)(hw:OwE 122 g K 5 r (A.map cq++([X]++B.map cq)))(hX:fm g K ys X C):lY g K ys r (A++ [C]++B) j:=by
 refine⟨_,hw,ac7,fun k h1 h2 hk=>?_,fun h1 h2=>?_⟩
 ·grind
 grind
theorem Cu{g K:Heap}{z:AV}{xs:List AV}{cs:List aL}{j:Nat}{X:AV}{F:aL→aL}{ys:List AV}(hw:OwE 122 g K 5 z (xs.set j X))(hn:xs.length=cs.length)(hlo:∀k (h1:k<xs.length) (h2:k<cs.length),k≠j→xs[k]=cq cs[k])(hX:∀h:j<cs.length,fm g K ys X (F cs[j])):lY g K ys z (cs.modify j F) j:=by
 refine⟨_,hw,ac1,fun k h1 h2 e=>?_,fun h1 h2=>?_⟩
 ·grind
 grind
theorem tE{xs:List AV}{j:Nat}(hj:j<xs.length)(x:AV):au (xs.set j x)=au (xs.take j)++(x.cells++au (xs.drop (j+1))):=by
 simp_all [List.set_eq_take_append_cons_drop,if_pos,mq,au]
theorem Cb{xs:List AV}{j:Nat}(hj:j<xs.length):au xs=au (xs.take j)++(xs[j].cells++au (xs.drop (j+1))):=by
 grind [tE,List.set_getElem_self]
theorem zq{s:an}{o:OpD}(h:bL s o=0)(hk:o.kind=3∨o.kind=4):bY s.cases o.case=true:=by
 grind [bY,bL,bX]
theorem Lp{g:Heap}{x:AV}{s:an}(hb:RdS g x s)(o:OpD)(hf:Few s)(hp:mQ 1 s.policy)(hr:i64 o.review)(ht:i64 s.tick)(hver:0≤s.version∧s.version≤1000000)(he:jj g):
  ai Tryz.prog 57 [x,opA o] g fun r h' =>Ab.Sub g h'∧∃j,sZ g h' r (dS aR s o) j∧(bL s o=0→j=findD s.cases o.case):=by
 obtain⟨i0,ei0⟩:∃i0,(if o.kind=1 then s.cases.length else findD s.cases o.case)=i0:=⟨_,rfl⟩
 have hown:=fun(G:Heap) (hG:Ab.Sub g G)=>Sd (hb.sub hG) i0 hf hp
 have hrdy:=fun(G:Heap) (hG:Ab.Sub g G)=>Ey (hb.sub hG) o hf hr ht
 obtain⟨y1,y2,y3,y4,rfl,hb'⟩:=hb;cases hpp:s.policy with
 |mk pid pset palg ptgt prules pkids pobls=>
 have hcC:fX (.mk pid pset palg ptgt prules pkids pobls)= [.s pid,.v (.bool pset),.v (.int .i64 palg),aV ptgt,.sl (prules.map aC) .no,.sl (pkids.map aM) .no,aA pobls]:=af6;rw[hpp,hcC]at hown hrdy;simp only[opA,opC,List.cons_append,List.nil_append]at hown hrdy;refine acZ Tryz.func57 138 [.cell 4 63] fun hwf=>?_
 simp only[go_sem,hcC,opA,opC,List.cons_append,List.nil_append];intro i2 h2;simp only[go_sem];intro i3 h3;have n32:=aH h3;have h3' :=aB h3;simp only[go_sem];intro i4 h4;have n43:=aH h4;have h4a:=aB h4;have n42:=aH h4a;have h4' :=aB h4a;simp only[go_sem,ak,n32.symm,n42.symm];obtain⟨H,eH⟩:∃H,upd (upd (upd g i2 (some (.obj [.v (.int .i64 s.tick),y1,y2,y3,y4,.s pid,.v (.bool pset),.v (.int .i64 palg),aV ptgt,.sl (prules.map aC) .no,.sl (pkids.map aM) .no,aA pobls,.v (.int .i64 s.version)] 63))) i3 (some (.obj (opC o) 39))) i4 (some (.obj [.v (.int .i64 0),.sl [] .full,.sl [] .full,.sl [] .full,.sl [] .full,.s [],.v (.bool false),.v (.int .i64 0),.sl [] .full,.sl [] .full,.sl [] .full,.sl [] .full,.v (.int .i64 0)] 63))=H:=⟨_,rfl⟩;have hH:Ab.Sub g H:=by rw[←eH];exact(((Sub.refl g).put h2 _).put h3' _).put h4' _
 have g2:H i2=some (.obj [.v (.int .i64 s.tick),y1,y2,y3,y4,.s pid,.v (.bool pset),.v (.int .i64 palg),aV ptgt,.sl (prules.map aC) .no,.sl (pkids.map aM) .no,aA pobls,.v (.int .i64 s.version)] 63):=by rw[←eH,ag _ _ n42.symm,ag _ _ n32.symm,ah]
 have g3:H i3=some (.obj (opC o) 39):=by rw[←eH,ag _ _ n43.symm,ah]
 have g4:H i4=some (.obj [.v (.int .i64 0),.sl [] .full,.sl [] .full,.sl [] .full,.sl [] .full,.s [],.v (.bool false),.v (.int .i64 0),.sl [] .full,.sl [] .full,.sl [] .full,.sl [] .full,.v (.int .i64 0)] 63):=aeu;simp only[opC]at eH g3;rw[eH];clear eH;refine(hown H hH).mono fun r H1 ⟨hS,s1⟩=>?_
 obtain⟨z1,z2,z3,z4,er,hS1⟩:=id hS;subst er;rw[hpp,hcC]at hS⊢;obtain⟨hC,w2,w3,w4,a12,a13,a14,a23,a24,a34⟩:=hS1;obtain⟨xs,w1,hnx,hlo,hmy⟩:=id hC;simp only[go_sem,List.cons_append,List.nil_append];intro i5 h5;simp only[go_sem];have q2:=s1 _ _ g2;have q3:=s1 _ _ g3;have q4:=s1 _ _ g4;have n52:i2≠i5:=fun e=>by rw[←e,q2]at h5;cases h5
 have n53:i3≠i5:=fun e=>by rw[←e,q3]at h5;cases h5
 have n54:i4≠i5:=fun e=>by rw[←e,q4]at h5;cases h5
 obtain⟨K,eK⟩:∃K,upd H1 i5 (some (.obj [.v (.int .i64 s.tick),z1,z2,z3,z4,.s pid,.v (.bool pset),.v (.int .i64 palg),aV ptgt,.sl (prules.map aC) .no,.sl (pkids.map aM) .no,aA pobls,.v (.int .i64 s.version)] 63))=K:=⟨_,rfl⟩;have sK:Ab.Sub H1 K:=by rw[←eK];exact .aj h5
 have k5:K i5=some (.obj [.v (.int .i64 s.tick),z1,z2,z3,z4,.s pid,.v (.bool pset),.v (.int .i64 palg),aV ptgt,.sl (prules.map aC) .no,.sl (pkids.map aM) .no,aA pobls,.v (.int .i64 s.version)] 63):=by rw[←eK,ah]
 rw[eK];have hz5:∀k,H k=none→H1 k≠none→k≠i5:=fun k _ hk e=>hk (by rw[e];exact h5)
 have k2:=sK _ _ q2;have k3:=sK _ _ q3;have k4:=sK _ _ q4;clear eK;have sg:Ab.Sub g K:=hH.trans (s1.trans sK);simp only[go_sem,k2,k3];refine(hrdy K sg).pthen ?_;have g5:g i5=none:=(hH.trans s1).none h5;have kK:∀k,H1 k≠none→K k=H1 k:=fun k hk=>by
  cases e:H1 k with
  |none=>exact(hk e).elim
  |some b=>exact sK _ _ e
 have hz4:∀k,H k=none→k≠i4:=fun k hk e=>by rw[e,g4]at hk;cases hk
 by_cases p0:bL s o=0
 ·have d0:(bL s o !=0)=false:=by simp[p0]
  simp only[go_sem,d0];simp only[go_sem,k5,k3];have hSK:sZ H K (.agg ([.v (.int .i64 s.tick),z1,z2,z3,z4]++fX s.policy++ [.v (.int .i64 s.version)])) s i0:=by
   rw[hpp,hcC];exact hS.keepb fun k _ hk=>kK k hk
  have hfi:=Ca hSK.rd o.case hf.cases;rw[hpp,hcC]at hfi;simp only[List.cons_append,List.nil_append]at hfi;refine hfi.pthen ?_;simp only[go_sem,k3];have hform:cV o=true:=by
   cases e:cV o
   ·simp[bL,e]at p0
   ·rfl
  have hdone:dS aR s o=doD aR s o:=by simp[dS,p0]
  rw[hdone]
  by_cases p1:o.kind=1
  ·have k1:(o.kind==1)=true:=by simp[p1]
   simp only[go_sem,k1];simp only[go_sem,k3];intro i8 h8;have n82:i2≠i8:=fun e=>by rw[←e,k2]at h8;cases h8
   have n83:i3≠i8:=fun e=>by rw[←e,k3]at h8;cases h8
   have n84:i4≠i8:=fun e=>by rw[←e,k4]at h8;cases h8
   have n85:i5≠i8:=fun e=>by rw[←e,k5]at h8;cases h8
   simp only[go_sem];obtain⟨K2,eK2⟩:∃K2,upd K i8 (some (.obj [.s o.case,.s o.subj,.s [111,112,101,110],.sl [] .full,.sl [] .full] 122))=K2:=⟨_,rfl⟩;have sK2:Ab.Sub K K2:=by rw[←eK2];exact .aj h8
   have e8:K2 i8=some (.obj [.s o.case,.s o.subj,.s [111,112,101,110],.sl [] .full,.sl [] .full] 122):=by rw[←eK2,ah]
   rw[eK2];clear eK2;have m3:=sK2 _ _ k3;have m4:=sK2 _ _ k4;have m5:=sK2 _ _ k5;simp only[go_sem,m3,m5];have hha:=sD (h0:=H) (s:=s) z1 z2 z3 z4 (k:=i8) (o:=0) (A:=[]) (B:=[]) (t:=122) (c:=⟨o.case,o.subj,jE,[],[]⟩) (f:=.sl [] .full) (l:=.sl [] .full) rfl e8 ac4 (.inl ⟨rfl,rfl⟩) (s1.trans (sK.trans sK2)) (Nat.zero_le _) o.subj [110,101,119];rw[hpp,hcC]at hha;simp only[List.cons_append,List.nil_append]at hha;refine hha.mono fun r K3 ⟨l',ol,e8',fr3,ap3⟩=>?_
   have kK3:∀k,K2 k≠none→k≠i8→K3 k=K2 k:=fun k hk hk8=>fr3 k hk hk8 (by simp[nid])
   have m3' :K3 i3=_:=(kK3 i3 (by rw[m3];simp) n83).trans m3
   have m4' :K3 i4=_:=(kK3 i4 (by rw[m4];simp) n84).trans m4
   have m5' :K3 i5=_:=(kK3 i5 (by rw[m5];simp) n85).trans m5
   simp only[cg,List.append_nil]at e8';simp only[go_sem];simp only[go_sem,m5',e8'];have kk2:∀k,H1 k≠none→K2 k=H1 k:=fun k hk=>by
    have:=kK k hk;cases e:K k with
    |none=>rw[e]at this;exact(hk this.symm).elim
    |some b=>rw[sK2 _ _ e,←e,this]
   have k8:∀k,H1 k≠none→k≠i8:=fun k hk e=>hk (by have:=kK k hk;rw[e,h8]at this;rw[e];exact this.symm)
   have kk3:∀k,H1 k≠none→K3 k=H1 k:=fun k hk=>(kK3 k (by rw[kk2 k hk];exact hk) (k8 k hk)).trans (kk2 k hk)
   have sH3:Ab.Sub H1 K3:=fun k b hk=>by rw[kk3 k (by rw[hk];simp)];exact hk
   have hfl:findD s.cases o.case≤s.cases.length:=List.findIdx_le_length;have hfc:=hf.cases;refine(F1 z1 xs (.agg [.s o.case,.s o.subj,.s jE,.sl [] .full,l']) (findD s.cases o.case) H K3 (w1.keepb fun k _ hk=>kk3 k hk) (s1.trans sH3) ac0 ac0 rfl (by simp[Ab.fit])).mono fun r K4 ⟨ow5,fr4,ap4⟩=>?_
   have m4'' :K4 i4=_:=(fr4 i4 (by rw[m4'];simp) (fun e=>by have:=(w1.nid e).1;rw[g4]at this;cases this)).trans m4'
   have m5'' :K4 i5=_:=(fr4 i5 (by rw[m5'];simp) (fun e=>(w1.nid e).2.1 h5)).trans m5'
   simp only[go_sem,m5'',ow5.rd.fit,ow5.rd.cells];simp only[go_sem,ak,n54,m4''];have hi0:i0=s.cases.length:=by rw[←ei0,if_pos p1]
   have hxs:xs=s.cases.map cq:=List.ext_getElem (by simpa using hnx) fun j a b=>by rw[hlo j a ac0 ac0,acR]
   have kk4:∀k,H1 k≠none→nid z1≠some k→K4 k=H1 k:=fun k hk hz=>(fr4 k (by rw[kk3 k hk];exact hk) hz).trans (kk3 k hk)
   obtain⟨K5,eK5⟩:∃K5,upd (upd K4 i5 (some (.obj [.v (.int .i64 s.tick),r,z2,z3,z4,.s pid,.v (.bool pset),.v (.int .i64 palg),aV ptgt,.sl (prules.map aC) .no,.sl (pkids.map aM) .no,aA pobls,.v (.int .i64 s.version)] 63))) i4 (some (.obj [.v (.int .i64 s.tick),r,z2,z3,z4,.s pid,.v (.bool pset),.v (.int .i64 palg),aV ptgt,.sl (prules.map aC) .no,.sl (pkids.map aM) .no,aA pobls,.v (.int .i64 s.version)] 63))=K5:=⟨_,rfl⟩;rw[eK5];have o5:∀k,k≠i4→k≠i5→K5 k=K4 k:=fun k a b=>by rw[←eK5,ag _ _ a,ag _ _ b]
   have kk5:∀k,H k=none→H1 k≠none→nid z1≠some k→K5 k=H1 k:=fun k a b c=>(o5 k (hz4 k a) (hz5 k a b)).trans (kk4 k b c)
   have ow:OwE 122 H K5 5 r (List.take (findD s.cases o.case) xs++([.agg [.s o.case,.s o.subj,.s jE,.sl [] .full,l']]++List.drop (findD s.cases o.case) xs)):=ow5.keep fun id e=>o5 id (hz4 id (ow5.nid e).1) fun e5=>by
    subst e5;rcases ap4 _ e with h|h
    ·rw[m5']at h;cases h
    ·exact(w1.nid h).2.1 h5
   have ol5:OwE 191 H K5 3 l' _:=ol.keep fun id e=>by
    have h2n:K2 id=none:=(ap3 id e).resolve_right (by simp[nid])
    have hz:nid z1≠some id:=fun e1=>by
     have:=kk2 id (w1.nid e1).2.1;rw[h2n]at this;exact(w1.nid e1).2.1 this.symm
    rw[o5 id (hz4 id (ol.nid e).1) (fun e5=>by rw[e5,m5]at h2n;cases h2n),fr4 id (ol.nid e).2.1 hz]
   have hmc:fm H K5 [] (.agg [.s o.case,.s o.subj,.s jE,.sl [] .full,l']) (jo s ⟨o.case,o.subj,jE,[],[]⟩ o.subj [110,101,119]):=⟨.sl [] .full,l',rfl,.inl ⟨rfl,rfl⟩,ol5,(fun i e=>ads),fun y hy=>by cases hy⟩
   have sg4:Ab.Sub g K4:=fun k b hk=>by
    have h1:=hH _ _ hk;have h2:=s1 _ _ h1;rw[kk4 k (by rw[h2];simp) (fun e=>by have:=(w1.nid e).1;rw[h1]at this;cases this)]
    exact aha
   have sg5:Ab.Sub g K5:=by rw[←eK5];exact(sg4.put g5 _).put h4' _
   have hdo:doD aR s o= {s with cases:=s.cases.take (findD s.cases o.case)++ [jo s ⟨o.case,o.subj,jE,[],[]⟩ o.subj [110,101,119]]++s.cases.drop (findD s.cases o.case)}:=by simp[doD,p1]
   refine .mk _ (.refl _) (.refl _) ⟨sg5,_,?_,fun _=>rfl⟩
   rw[hdo];have apr:∀k,nid r=some k→H1 k=none∨nid z1=some k:=fun k e=>(ap4 k e).imp (fun h=>sH3.none h) id
   have hro:∀ {w:AV},apart z1 w→(∀k,nid w=some k→H1 k≠none)→apart r w:=fun ha hw k e1 e2=>(apr k e1).elim (fun h=>hw k e2 h) (fun h=>ha k h e2)
   have hl0:∀k,nid l' =some k→H1 k=none:=fun k e=>(sK.trans sK2).none ((ap3 k e).resolve_right (by simp[nid]))
   have hlr:apart l' r:=fun k e1 e2=>(ap4 k e2).elim (fun h=>(ol.nid e1).2.1 h) (fun h=>(w1.nid h).2.1 (hl0 k e1))
   rw[hxs,←List.map_take,←List.map_drop]at ow;refine pG rfl hpp rfl (O0 aeZ (ow.bJ (fun _ e=>hH.none e)) ⟨.sl [] .full,l',rfl,.inl ⟨rfl,rfl⟩,ol5.bJ (fun _ e=>hH.none e),(fun i e=>ads),fun y hy=>⟨(fun i e=>ads),?_⟩⟩) ((w2.keep fun id e=>kk5 id (w2.nid e).1 (w2.nid e).2.1 fun e1=>a12 id e1 e).bJ fun _ e=>hH.none e) ((w3.keep fun id e=>kk5 id (w3.nid e).1 (w3.nid e).2.1 fun e1=>a13 id e1 e).bJ fun _ e=>hH.none e) ((w4.keep fun id e=>kk5 id (w4.nid e).1 (w4.nid e).2.1 fun e1=>a14 id e1 e).bJ fun _ e=>hH.none e) ⟨hro a12 fun k e=>(w2.nid e).2.1,hro a13 fun k e=>(w3.nid e).2.1,hro a14 fun k e=>(w4.nid e).2.1,a23,a24,a34⟩
   simp only[List.mem_cons,List.not_mem_nil,or_false]at hy;rcases hy with rfl|rfl|rfl|rfl
   ·exact hlr
   ·exact fun k e1 e2=>(w2.nid e2).2.1 (hl0 k e1)
   ·exact fun k e1 e2=>(w3.nid e2).2.1 (hl0 k e1)
   ·exact fun k e1 e2=>(w4.nid e2).2.1 (hl0 k e1)
  have k1:(o.kind==1)=false:=by simp[p1]
  have hi0:i0=findD s.cases o.case:=by rw[←ei0,if_neg p1]
  simp only[go_sem,k1]
  by_cases p3:o.kind=3
  ·have k3' :(o.kind==3)=true:=by simp[p3]
   simp only[go_sem,k3'];have hth:=zq p0 (.inl p3);have hlt:=jG hth;obtain⟨j,ej⟩:∃j,findD s.cases o.case=j:=⟨_,rfl⟩;have hj:j<s.cases.length:=by rw[←ej];exact hlt
   have hjx:j<xs.length:=ac0;rw[ej]at hi0;subst hi0;obtain⟨f,l,ex,of,ol,hap,hys⟩:=hmy hjx hj;obtain⟨id1,hg1,o1⟩:=w1.ow afV;have o1' :=o1;obtain⟨cap,rest,ey,hid,hrl,hcap,hsz⟩:=o1';have lA:i0*5=(au (xs.take i0)).length:=ad7;have hidK:K id1=some (.obj (au (xs.take i0)++(cg s.cases[i0] f l++(au (xs.drop (i0+1))++rest))) 122):=by
    rw[sK _ _ hid,Cb hjx,ex];simp[cg,AV.cells]
   have n14:id1≠i4:=hz4 id1 hg1;have n13:id1≠i3:=fun e=>by rw[e,g3]at hg1;cases hg1
   have n15:id1≠i5:=fun e=>o1.none (by rw[e];exact h5)
   have nf4:∀k,nid f=some k→k≠i3∧k≠i4∧k≠i5∧k≠id1:=fun k e=>⟨(fun e' =>afP),hz4 k (of.nid e).1,hz5 k (of.nid e).1 (of.nid e).2.1,fun e' =>(hys z1 ac7).1 k e agx⟩
   have nl4:∀k,nid l=some k→k≠i3∧k≠i4∧k≠i5∧k≠id1:=fun k e=>⟨(fun e' =>afQ),hz4 k (ol.nid e).1,hz5 k (ol.nid e).1 (ol.nid e).2.1,fun e' =>(hys z1 ac7).2 k e agx⟩
   have hff:=hf.fields _ (acV hj);have hfl:=hf.log _ (acV hj);rw[ej];refine .calls (pick K [i3,i5]) [0,1,2,3,4,5,6,7,8] bR ac3 rfl ?_;simp only[go_sem,bC (show i5∈ [i3,i5] by simp),k3,k5]
   refine(o1.sub sK).idx (U:=U) (e:=122) i0 rfl hjx nN ac4 ?_;simp only[go_sem,bC (show i3∈ [i3,i5] by simp),k3,k5]
   refine(show ai Tryz.prog 117 [.ptr id1 (i0*5),.s o.field,.agg [.v (.int .i64 o.val.kind),.v (.int .i64 o.val.n),.s o.val.s]] K _ from Nw lA hidK ac4 (of.sub sK) (s1.trans sK) hff o.field o.val).mono fun r K3 ⟨f',of',e1',fr3,ap3⟩=>?_
   have kk3:∀k,H1 k≠none→k≠id1→nid f≠some k→K3 k=H1 k:=fun k a b c=>(fr3 k (by rw[kK k a];exact a) b c).trans (kK k a)
   have m3:K3 i3=_:=(fr3 i3 (by rw[k3];simp) n13.symm fun e=>(nf4 _ e).1 rfl).trans k3
   have m4:K3 i4=_:=(fr3 i4 (by rw[k4];simp) n14.symm fun e=>(nf4 _ e).2.1 rfl).trans k4
   have m5:K3 i5=_:=(fr3 i5 (by rw[k5];simp) n15.symm fun e=>(nf4 _ e).2.2.1 rfl).trans k5
   refine⟨iM fun k hk=>?_,?_⟩
   ·simp only[List.mem_cons,List.not_mem_nil,or_false]at hk
    rcases hk with rfl|rfl
    ·rw[m3,k3]
    ·rw[m5,k5]
   simp only[go_sem];have sH3:Ab.Sub H K3:=fun k b hk=>adJ
   have ol3:OwE 191 H K3 3 l (s.cases[i0].log.map iJ):=ol.keep fun k e=>kk3 k (ol.nid e).2.1 (nl4 k e).2.2.2 (fun e1=>hap k e1 e)
   have hX5:∀y1 y2:AV,Sized 5 (xs.set i0 (.agg (cg s.cases[i0] y1 y2))):=fun y1 y2 z hz=>by
    exact ahW
   have mkO:∀ {G:Heap} {y1 y2:AV},G id1=some (.obj (au (xs.take i0)++(cg s.cases[i0] y1 y2++(au (xs.drop (i0+1))++rest))) 122)→Ow 122 G 5 id1 z1 (xs.set i0 (.agg (cg s.cases[i0] y1 y2))):=fun {G y1 y2} hG=>⟨cap,rest,afj,by rw[hG,tE hjx];simp[AV.cells],agc,afa,hX5 _ _⟩
   have hjs:∀x:AV,i0<(xs.set i0 x).length:=fun x=>by rw[List.length_set];exact hjx
   refine .calls (pick K3 [i3,i5]) [0,1,2,3,4,5,6,7] bR ac3 rfl ?_;simp only[go_sem,bC (show i5∈ [i3,i5] by simp),m3,m5]
   refine(mkO e1').idx (U:=U) (e:=122) i0 rfl (hjs _) nN ac4 ?_;simp only[go_sem,bC (show i3∈ [i3,i5] by simp),m3,m5]
   have hha:=sD (h0:=H) (h:=K3) (s:=s) z1 z2 z3 z4 (k:=id1) (c:=s.cases[i0]) (f:=f') (l:=l) lA e1' ac4 ol3 sH3 hfl o.subj [119,114,105,116,101];rw[hpp,hcC]at hha;simp only[List.cons_append,List.nil_append]at hha;refine hha.mono fun r K4 ⟨l',ol',e1'',fr4,ap4⟩=>?_
   have m3' :K4 i3=_:=(fr4 i3 (by rw[m3];simp) n13.symm fun e=>(nl4 _ e).1 rfl).trans m3
   have m4' :K4 i4=_:=(fr4 i4 (by rw[m4];simp) n14.symm fun e=>(nl4 _ e).2.1 rfl).trans m4
   have m5' :K4 i5=_:=(fr4 i5 (by rw[m5];simp) n15.symm fun e=>(nl4 _ e).2.2.1 rfl).trans m5
   refine⟨iM fun k hk=>?_,?_⟩
   ·simp only[List.mem_cons,List.not_mem_nil,or_false]at hk
    rcases hk with rfl|rfl
    ·rw[m3',m3]
    ·rw[m5',m5]
   simp only[go_sem];simp only[go_sem,m5',m4'];obtain⟨K5,eK5⟩:∃K5,upd K4 i4 (some (.obj [.v (.int .i64 s.tick),z1,z2,z3,z4,.s pid,.v (.bool pset),.v (.int .i64 palg),aV ptgt,.sl (prules.map aC) .no,.sl (pkids.map aM) .no,aA pobls,.v (.int .i64 s.version)] 63))=K5:=⟨_,rfl⟩;rw[eK5];have o5:∀k,k≠i4→K5 k=K4 k:=fun k a=>by rw[←eK5,ag _ _ a]
   have kk5:∀k,H k=none→H1 k≠none→k≠id1→nid f≠some k→nid l≠some k→K5 k=H1 k:=fun k a b c d e=>by
    exact ai0
   have of5:OwE 201 H K5 4 f' _:=of'.keep fun id e=>by
    exact ahA
   have ol5:OwE 191 H K5 3 l' _:=ol'.keep fun id e=>o5 id (hz4 id (ol'.nid e).1)
   have sg4:Ab.Sub g K4:=fun k b hk=>by
    exact ah6
   have sg5:Ab.Sub g K5:=by rw[←eK5];exact sg4.put h4' _
   have n1' :nid z1=some id1:=o1.nid;have hdo:doD aR s o= {s with cases:=s.cases.modify i0 fun c=>jo s {c with fields:=fh c.fields o.field o.val} o.subj [119,114,105,116,101]}:=by simp[doD,p3,ej]
   refine .mk _ (.refl _) (.refl _) ⟨sg5,_,?_,fun _=>rfl⟩
   rw[hdo];have thr:∀w∈ [z1,z2,z3,z4],∀k,nid w=some k→H1 k≠none:=fun w hw k e=>by
    exact ah2
   refine pG rfl hpp rfl ?_ ((w2.keep fun id e=>kk5 id (w2.nid e).1 (w2.nid e).2.1 (fun e1=>a12 id1 n1' afM) (fun e1=>(hys z2 ac7).1 id e1 e) (fun e1=>(hys z2 ac7).2 id e1 e)).bJ fun _ e=>hH.none e) ((w3.keep fun id e=>kk5 id (w3.nid e).1 (w3.nid e).2.1 (fun e1=>a13 id1 n1' afM) (fun e1=>(hys z3 ac7).1 id e1 e) (fun e1=>(hys z3 ac7).2 id e1 e)).bJ fun _ e=>hH.none e) ((w4.keep fun id e=>kk5 id (w4.nid e).1 (w4.nid e).2.1 (fun e1=>a14 id1 n1' afM) (fun e1=>(hys z4 ac7).1 id e1 e) (fun e1=>(hys z4 ac7).2 id e1 e)).bJ fun _ e=>hH.none e) ⟨a12,a13,a14,a23,a24,a34⟩
   refine Cu (X:=.agg (cg s.cases[i0] f' l')) ((show OwE 122 H K5 5 z1 _ from .inr ⟨id1,hg1,mkO ((o5 id1 n14).trans e1'')⟩).bJ (fun _ e=>hH.none e)) hnx (fun k h1 h2 hk=>hlo k h1 h2 hk) fun hh=>⟨f',l',rfl,of5.bJ (fun _ e=>hH.none e),ol5.bJ (fun _ e=>hH.none e),fun k e1 e2=>?_,fun w hw=>⟨fun k e1 e2=>?_,fun k e1 e2=>?_⟩⟩
   ·rcases ap4 k e2 with h|h
    ·exact(of'.nid e1).2.1 h
    ·rcases ap3 k e1 with h' |h'
     ·exact(ol.nid h).2.1 (sK.none h')
     ·exact hap k h' h
   ·rcases ap3 k e1 with h|h
    ·exact thr w hw k e2 (sK.none h)
    ·exact(hys w hw).1 k h e2
   ·rcases ap4 k e1 with h|h
    ·by_cases h1:k=id1
     ·subst h1;rw[e1']at h;cases h
     ·have:=kk3 k (thr w hw k e2) h1 (fun e=>(hys w hw).1 k e e2)
      rw[h]at this;exact thr w hw k e2 this.symm
    ·exact(hys w hw).2 k h e2
  have k3' :(o.kind==3)=false:=by simp[p3]
  simp only[go_sem,k3']
  by_cases p4:o.kind=4
  ·have k4' :(o.kind==4)=true:=by simp[p4]
   simp only[go_sem,k4'];have hth:=zq p0 (.inr p4);have hlt:=jG hth;obtain⟨j,ej⟩:∃j,findD s.cases o.case=j:=⟨_,rfl⟩;have hj:j<s.cases.length:=by rw[←ej];exact hlt
   have hjx:j<xs.length:=ac0;rw[ej]at hi0;subst hi0;obtain⟨f,l,ex,of,ol,hap,hys⟩:=hmy hjx hj;obtain⟨id1,hg1,o1⟩:=w1.ow afV;have o1' :=o1;obtain⟨cap,rest,ey,hid,hrl,hcap,hsz⟩:=o1';have lA:i0*5=(au (xs.take i0)).length:=ad7;have hidK:K id1=some (.obj (au (xs.take i0)++(cg s.cases[i0] f l++(au (xs.drop (i0+1))++rest))) 122):=by
    rw[sK _ _ hid,Cb hjx,ex];simp[cg,AV.cells]
   have n14:id1≠i4:=hz4 id1 hg1;have n13:id1≠i3:=fun e=>by rw[e,g3]at hg1;cases hg1
   have n15:id1≠i5:=fun e=>o1.none (by rw[e];exact h5)
   have nf4:∀k,nid f=some k→k≠i3∧k≠i4∧k≠i5∧k≠id1:=fun k e=>⟨(fun e' =>afP),hz4 k (of.nid e).1,hz5 k (of.nid e).1 (of.nid e).2.1,fun e' =>(hys z1 ac7).1 k e agx⟩
   have nl4:∀k,nid l=some k→k≠i3∧k≠i4∧k≠i5∧k≠id1:=fun k e=>⟨(fun e' =>afQ),hz4 k (ol.nid e).1,hz5 k (ol.nid e).1 (ol.nid e).2.1,fun e' =>(hys z1 ac7).2 k e agx⟩
   have hff:=hf.fields _ (acV hj);have hfl:=hf.log _ (acV hj);rw[ej];simp only[go_sem,k5,k3];refine(o1.sub sK).idx (U:=U) (e:=122) i0 rfl hjx nN ac4 ?_;simp only[go_sem,hidK];have e2:List.take (i0*5+2) (au (xs.take i0)++(cg s.cases[i0] f l++(au (xs.drop (i0+1))++rest)))++ [.s o.to]++List.drop (i0*5+2+1) (au (xs.take i0)++(cg s.cases[i0] f l++(au (xs.drop (i0+1))++rest)))=au (xs.take i0)++(cg {s.cases[i0]with state:=o.to} f l++(au (xs.drop (i0+1))++rest)):=by
    have:=pg (A:=au (xs.take i0)++ [.s s.cases[i0].id,.s s.cases[i0].owner]) (B:=[.s s.cases[i0].state]) (C:=f::l::(au (xs.drop (i0+1))++rest)) (X:=[.s o.to]) (k:=i0*5+2) (m:=1) (by rw[lA];simp) rfl rfl
    exact aiW
   rw[e2];obtain⟨K3,eK3⟩:∃K3,upd K id1 (some (.obj (au (xs.take i0)++(cg {s.cases[i0]with state:=o.to} f l++(au (xs.drop (i0+1))++rest))) 122))=K3:=⟨_,rfl⟩
   rw[eK3];refine⟨by simp only[acU,←lA,cg,List.length_cons,List.length_nil];omega,?_⟩
   have e1' :K3 id1=some (.obj (au (xs.take i0)++(cg {s.cases[i0]with state:=o.to} f l++(au (xs.drop (i0+1))++rest))) 122):=by rw[←eK3,ah]
   have fr3:∀k,K k≠none→k≠id1→nid f≠some k→K3 k=K k:=fun k _ hk _=>by rw[←eK3,ag _ _ hk]
   have ap3:∀k,nid f=some k→K k=none∨nid f=some k:=fun k hk=> .inr hk
   have kk3:∀k,H1 k≠none→k≠id1→nid f≠some k→K3 k=H1 k:=fun k a b c=>(fr3 k (by rw[kK k a];exact a) b c).trans (kK k a)
   have m3:K3 i3=_:=(fr3 i3 (by rw[k3];simp) n13.symm fun e=>(nf4 _ e).1 rfl).trans k3
   have m4:K3 i4=_:=(fr3 i4 (by rw[k4];simp) n14.symm fun e=>(nf4 _ e).2.1 rfl).trans k4
   have m5:K3 i5=_:=(fr3 i5 (by rw[k5];simp) n15.symm fun e=>(nf4 _ e).2.2.1 rfl).trans k5
   obtain⟨f',of',ef'⟩:∃f',OwE 201 H K3 4 f' (s.cases[i0].fields.map bM)∧f=f' :=⟨f,of.keep fun k e=>by rw[←eK3,ag _ _ (nf4 k e).2.2.2,kK k (of.nid e).2.1],rfl⟩
   rw[ef']at e1';replace ap3:∀k,nid f' =some k→K k=none∨nid f=some k:=by rw[←ef'];exact ap3
   have sH3:Ab.Sub H K3:=fun k b hk=>adJ
   have ol3:OwE 191 H K3 3 l (s.cases[i0].log.map iJ):=ol.keep fun k e=>kk3 k (ol.nid e).2.1 (nl4 k e).2.2.2 (fun e1=>hap k e1 e)
   have hX5:∀y1 y2:AV,Sized 5 (xs.set i0 (.agg (cg ({s.cases[i0]with state:=o.to}:aL) y1 y2))):=fun y1 y2 z hz=>by
    exact ahW
   have mkO:∀ {G:Heap} {y1 y2:AV},G id1=some (.obj (au (xs.take i0)++(cg ({s.cases[i0]with state:=o.to}:aL) y1 y2++(au (xs.drop (i0+1))++rest))) 122)→Ow 122 G 5 id1 z1 (xs.set i0 (.agg (cg ({s.cases[i0]with state:=o.to}:aL) y1 y2))):=fun {G y1 y2} hG=>⟨cap,rest,afj,by rw[hG,tE hjx];simp[AV.cells],agc,afa,hX5 _ _⟩
   have hjs:∀x:AV,i0<(xs.set i0 x).length:=fun x=>by rw[List.length_set];exact hjx
   refine .calls (pick K3 [i3,i5]) [0,1,2,3,4,5,6,7,8,9] bR ac3 rfl ?_;simp only[go_sem,bC (show i5∈ [i3,i5] by simp),m3,m5]
   refine(mkO e1').idx (U:=U) (e:=122) i0 rfl (hjs _) nN ac4 ?_;simp only[go_sem,bC (show i3∈ [i3,i5] by simp),m3,m5]
   have hha:=sD (h0:=H) (h:=K3) (s:=s) z1 z2 z3 z4 (k:=id1) (c:=({s.cases[i0]with state:=o.to}:aL)) (f:=f') (l:=l) lA e1' ac4 ol3 sH3 hfl o.subj o.to
   rw[hpp,hcC]at hha;simp only[List.cons_append,List.nil_append]at hha;refine hha.mono fun r K4 ⟨l',ol',e1'',fr4,ap4⟩=>?_
   have m3' :K4 i3=_:=(fr4 i3 (by rw[m3];simp) n13.symm fun e=>(nl4 _ e).1 rfl).trans m3
   have m4' :K4 i4=_:=(fr4 i4 (by rw[m4];simp) n14.symm fun e=>(nl4 _ e).2.1 rfl).trans m4
   have m5' :K4 i5=_:=(fr4 i5 (by rw[m5];simp) n15.symm fun e=>(nl4 _ e).2.2.1 rfl).trans m5
   refine⟨iM fun k hk=>?_,?_⟩
   ·simp only[List.mem_cons,List.not_mem_nil,or_false]at hk
    rcases hk with rfl|rfl
    ·rw[m3',m3]
    ·rw[m5',m5]
   simp only[go_sem];simp only[go_sem,m5',m4'];obtain⟨K5,eK5⟩:∃K5,upd K4 i4 (some (.obj [.v (.int .i64 s.tick),z1,z2,z3,z4,.s pid,.v (.bool pset),.v (.int .i64 palg),aV ptgt,.sl (prules.map aC) .no,.sl (pkids.map aM) .no,aA pobls,.v (.int .i64 s.version)] 63))=K5:=⟨_,rfl⟩;rw[eK5];have o5:∀k,k≠i4→K5 k=K4 k:=fun k a=>by rw[←eK5,ag _ _ a]
   have kk5:∀k,H k=none→H1 k≠none→k≠id1→nid f≠some k→nid l≠some k→K5 k=H1 k:=fun k a b c d e=>by
    exact ai0
   have of5:OwE 201 H K5 4 f' _:=of'.keep fun id e=>by
    exact ahA
   have ol5:OwE 191 H K5 3 l' _:=ol'.keep fun id e=>o5 id (hz4 id (ol'.nid e).1)
   have sg4:Ab.Sub g K4:=fun k b hk=>by
    exact ah6
   have sg5:Ab.Sub g K5:=by rw[←eK5];exact sg4.put h4' _
   have n1' :nid z1=some id1:=o1.nid;have hdo:doD aR s o= {s with cases:=s.cases.modify i0 fun c=>jo s {c with state:=o.to} o.subj o.to}:=by simp[doD,p4,ej]
   refine .mk _ (.refl _) (.refl _) ⟨sg5,_,?_,fun _=>rfl⟩
   rw[hdo];have thr:∀w∈ [z1,z2,z3,z4],∀k,nid w=some k→H1 k≠none:=fun w hw k e=>by
    exact ah2
   refine pG rfl hpp rfl ?_ ((w2.keep fun id e=>kk5 id (w2.nid e).1 (w2.nid e).2.1 (fun e1=>a12 id1 n1' afM) (fun e1=>(hys z2 ac7).1 id e1 e) (fun e1=>(hys z2 ac7).2 id e1 e)).bJ fun _ e=>hH.none e) ((w3.keep fun id e=>kk5 id (w3.nid e).1 (w3.nid e).2.1 (fun e1=>a13 id1 n1' afM) (fun e1=>(hys z3 ac7).1 id e1 e) (fun e1=>(hys z3 ac7).2 id e1 e)).bJ fun _ e=>hH.none e) ((w4.keep fun id e=>kk5 id (w4.nid e).1 (w4.nid e).2.1 (fun e1=>a14 id1 n1' afM) (fun e1=>(hys z4 ac7).1 id e1 e) (fun e1=>(hys z4 ac7).2 id e1 e)).bJ fun _ e=>hH.none e) ⟨a12,a13,a14,a23,a24,a34⟩
   refine Cu (X:=.agg (cg ({s.cases[i0]with state:=o.to}:aL) f' l')) ((show OwE 122 H K5 5 z1 _ from .inr ⟨id1,hg1,mkO ((o5 id1 n14).trans e1'')⟩).bJ (fun _ e=>hH.none e)) hnx (fun k h1 h2 hk=>hlo k h1 h2 hk) fun hh=>⟨f',l',rfl,of5.bJ (fun _ e=>hH.none e),ol5.bJ (fun _ e=>hH.none e),fun k e1 e2=>?_,fun w hw=>⟨fun k e1 e2=>?_,fun k e1 e2=>?_⟩⟩
   ·rcases ap4 k e2 with h|h
    ·exact(of'.nid e1).2.1 h
    ·rcases ap3 k e1 with h' |h'
     ·exact(ol.nid h).2.1 (sK.none h')
     ·exact hap k h' h
   ·rcases ap3 k e1 with h|h
    ·exact thr w hw k e2 (sK.none h)
    ·exact(hys w hw).1 k h e2
   ·rcases ap4 k e1 with h|h
    ·by_cases h1:k=id1
     ·subst h1;rw[e1']at h;cases h
     ·have:=kk3 k (thr w hw k e2) h1 (fun e=>(hys w hw).1 k e e2)
      rw[h]at this;exact thr w hw k e2 this.symm
    ·exact(hys w hw).2 k h e2
  have k4' :(o.kind==4)=false:=by simp[p4]
  simp only[go_sem,k4'];have kkK:∀k,H k=none→H1 k≠none→K k=H1 k:=fun k _ b=>kK k b
  by_cases p5:o.kind=5
  ·have k5' :(o.kind==5)=true:=by simp[p5]
   simp only[go_sem,k5'];have hrv:0<o.review:=by
    simp only[cV,dK,Bool.and_eq_true]at hform;simpa[okD,p5]using hform.2.1.2
   obtain⟨n,en⟩:∃n:Nat,o.review=((n:Nat):Int)+1:=⟨(o.review - 1).toNat,ac0⟩;have w5:IntKind.i64.wrap (o.review - 1)=((n:Nat):Int):=by rw[bh _ (by have:=hr.2;omega)];omega
   have hn5:n<s.reviews.length:=by
    have:fP s o=0:=by simpa[bL,hform,p5]using p0
    unfold fP at this;have e1:wQ s.reviews o.review=s.reviews[n]? :=by unfold wQ;rw[if_pos ac0,show(o.review - 1).toNat=n by omega]
    rw[e1]at this
    by_cases hlt:n<s.reviews.length
    ·exact hlt
    ·rw[List.getElem?_eq_none ac0]at this;cases this
   have hnm:n<(s.reviews.map iO).length:=by simpa using hn5
   obtain⟨id2,hg2,o2⟩:=w2.ow (by intro e;rw[e]at hnm;cases hnm)
   have o2' :=o2;obtain⟨cap,rest,ey,hid,hrl,hcap,hsz⟩:=o2';have n24:id2≠i4:=hz4 id2 hg2;have n25:id2≠i5:=hz5 id2 hg2 o2.none;have hidK:=sK _ _ hid;simp only[go_sem,k5,k3,w5];refine(o2.sub sK).idx (U:=U) (e:=135) n rfl hnm ada ac4 ?_;simp only[go_sem,hidK];have e2:List.take (n*7+6) (au (s.reviews.map iO)++rest)++ [.v (.bool false)]++List.drop (n*7+6+1) (au (s.reviews.map iO)++rest)=au ((s.reviews.modify n fun r=> {r with isOpen:=false}).map iO)++rest:=by
    refine(lC hsz n hnm 6 [.v (.bool false)] (acP rfl)).trans ?_
    congr 2
    refine List.ext_getElem ac7 fun j h1 h2=>?_
    by_cases e:j=n
    ·subst e;simp[iO,AV.cells,Ab.over]
    ·rw[List.getElem_set_ne (Ne.symm e)];simp[Ne.symm e]
   rw[e2];refine⟨by rw[acU,aY hsz];omega,?_⟩
   have k5b:∀b,upd K id2 b i5=_:=fun b=>(ag _ _ n25.symm).trans k5
   have k4b:∀b,upd K id2 b i4=_:=fun b=>(ag _ _ n24.symm).trans k4
   simp only[go_sem,k5b,k4b];have hdo:doD aR s o= {s with reviews:=s.reviews.modify n fun r=> {r with isOpen:=false}}:=by simp[doD,p5,en]
   have kz:∀a b k,H k=none→H1 k≠none→nid z2≠some k→upd (upd K id2 a) i4 b k=H1 k:=fun a b k c d e=>by rw[ag _ _ (hz4 k c),ag _ _ (fun e' =>e (by rw[e'];exact o2.nid)),kK k d]
   refine .mk _ (.refl _) (.refl _) ⟨(Sub.put (i:=id2) sg (hH.none hg2) _).put h4' _,_,?_,fun _=>hi0⟩
   rw[hdo];exact pG rfl hpp rfl ((hC.keepx (z:=z2) ac7 a12 (kz _ _)).bJ (fun _ e=>hH.none e)) (.inr ⟨id2,hH.none hg2,cap,rest,by rw[ey];simp,by rw[ag _ _ n24,ah],by rw[hrl];simp,by simpa using hcap,bw (f:=iO) (n:=7) (fun _=>rfl) _⟩) ((w3.keep fun id e=>kz _ _ id (w3.nid e).1 (w3.nid e).2.1 fun e1=>a23 id e1 e).bJ fun _ e=>hH.none e) ((w4.keep fun id e=>kz _ _ id (w4.nid e).1 (w4.nid e).2.1 fun e1=>a24 id e1 e).bJ fun _ e=>hH.none e) ⟨a12,a13,a14,a23,a24,a34⟩
  have k5' :(o.kind==5)=false:=by simp[p5]
  simp only[go_sem,k5']
  by_cases p6:o.kind=6
  ·have k6' :(o.kind==6)=true:=by simp[p6]
   simp only[go_sem,k6'];simp only[go_sem,k5,k3];have hha6:=FY hSK.rd o.case o.field (Nat.le_trans hf.roles ac4);rw[hpp,hcC]at hha6;simp only[List.cons_append,List.nil_append]at hha6;refine hha6.pthen ?_;cases dha:yC s.roles ⟨o.case,o.field⟩
   ·simp only[go_sem]
    simp only[go_sem,k5,k3];have hap1:Rd K 2 (.sl [eJ ⟨o.case,o.field⟩] .full) [eJ ⟨o.case,o.field⟩]:=.sl adO .full;have hfr:=hf.roles;refine OwE.app (U:=U) (tb:=141) (w4.sub sK) (s1.trans sK) hap1 ada ac4 ac5 ada ac7 adA fun id4 y' K3 g4' hor hw ho2=>?_
    have hor' :K id4=none∨nid z4=some id4:=by
     exact ahP
    have n44:i4≠id4:=fun e=>by rw[←e,g4]at g4';cases g4'
    have n45:i5≠id4:=fun e=>by
     rcases hor' with hor|hor
     ·rw[←e,k5]at hor;cases hor
     ·exact(w4.nid hor).2.1 (by rw[←e];exact h5)
    have m4:K3 i4=_:=(ho2 i4 n44).trans k4;have m5:K3 i5=_:=(ho2 i5 n45).trans k5;simp only[go_sem,m5,hw.rd.fit,hw.rd.cells];simp only[go_sem,ak,n54,m4];have hdo:doD aR s o= {s with roles:=s.roles++ [⟨o.case,o.field⟩]}:=by simp[doD,p6,dha]
    have gid4:g id4=none:=hH.none g4';have kz:∀a b k,H k=none→H1 k≠none→nid z4≠some k→upd (upd K3 i5 a) i4 b k=H1 k:=fun a b k c d e=>by
     have:k≠id4:=fun e' =>by
      rcases hor' with hor|hor
      ·have:=kK k d;rw[e',hor]at this;exact d (by rw[e'];exact this.symm)
      ·exact e (by rw[e'];exact hor)
     rw[ag _ _ (hz4 k c),ag _ _ (hz5 k c d),ho2 k this,kK k d]
    have sg3:Ab.Sub g K3:=fun k b hk=>by rw[ho2 k (fun e=>by rw[e,gid4]at hk;cases hk)];exact sg _ _ hk
    refine .mk _ (.refl _) (.refl _) ⟨(sg3.put g5 _).put h4' _,_,?_,fun _=>hi0⟩
    rw[hdo];have hw' :OwE 141 g K3 2 y' ((s.roles++ [(⟨o.case,o.field⟩:gZ)]).map eJ):=by rw[List.map_append];exact .inr ⟨id4,gid4,hw⟩
    have hry:∀k,nid y' =some k→H1 k=none∨nid z4=some k:=fun k e=>by
     have:id4=k:=by have:=hw.nid;rw[e]at this;exact(Option.some.inj this).symm
     subst this;exact hor'.imp (fun h=>sK.none h) id
    have har:∀ {w:AV},apart w z4→(∀k,nid w=some k→H1 k≠none)→apart w y' :=fun ha hh k e1 e2=>(hry k e2).elim (fun h=>hh k e1 h) (fun h=>ha k e1 h)
    refine pG rfl hpp rfl ((hC.move (z:=z4) ac7 a14 (kz _ _) fun w hw k e=>?_).bJ (fun _ e=>hH.none e)) ((w2.keep fun id e=>kz _ _ id (w2.nid e).1 (w2.nid e).2.1 fun e1=>a24 id e e1).bJ fun _ e=>hH.none e) ((w3.keep fun id e=>kz _ _ id (w3.nid e).1 (w3.nid e).2.1 fun e1=>a34 id e e1).bJ fun _ e=>hH.none e) (hw'.keep fun id e=>?_) ⟨a12,a13,har a14 fun k e=>(w1.nid e).2.1,a23,har a24 fun k e=>(w2.nid e).2.1,har a34 fun k e=>(w3.nid e).2.1⟩
    ·simp only[List.mem_cons,List.not_mem_nil,or_false]at hw
     rcases hw with rfl|rfl|rfl|rfl
     ·exact .inr ⟨w,ac7,e⟩
     ·exact .inr ⟨w,ac7,e⟩
     ·exact .inr ⟨w,ac7,e⟩
     ·exact(hry k e).imp id fun h=>⟨z4,ac7,h⟩
    ·have:id=id4:=by have:=hw.nid;rw[e]at this;exact Option.some.inj this
     rw[this,ag _ _ n44.symm,ag _ _ n45.symm]
   ·simp only[go_sem]
    simp only[go_sem,k5,k4];have hdo:doD aR s o=s:=by simp[doD,p6,dha]
    rw[hdo];refine .mk _ (.refl _) (.refl _) ⟨sg.put h4' _,_,(hS.keepb fun k hk hk1=>?_).bJ fun _ e=>hH.none e,fun _=>hi0⟩
    rw[ag _ _ (hz4 k hk),kK k hk1]
  have k6' :(o.kind==6)=false:=by simp[p6]
  simp only[go_sem,k6']
  by_cases p7:o.kind=7
  ·have k7' :(o.kind==7)=true:=by simp[p7]
   simp only[go_sem,k7'];simp only[go_sem,k3];refine(ze o.text _ (he.sub sg)).pthen ?_;obtain⟨⟨pp,e,a⟩,epp⟩:∃x,aR o.text=x:=⟨_,rfl⟩;obtain⟨qid,qset,qalg,qtgt,qrules,qkids,qobls⟩:=pp;rw[epp];simp only[go_sem,jW,aM,aX];intro i9 h9;have n95:i5≠i9:=fun e=>by rw[←e,k5]at h9;cases h9
   have n94:i4≠i9:=fun e=>by rw[←e,k4]at h9;cases h9
   simp only[go_sem];have g9:g i9=none:=sg.none h9;have sg9:∀b,Ab.Sub g (upd K i9 b):=fun b=>sg.put g9 b
   have hz9:∀k,H1 k≠none→k≠i9:=fun k hk e=>hk (by have:=kK k hk;rw[e,h9]at this;rw[e];exact this.symm)
   by_cases pe:e=0
   ·have de:(e==0)=true:=by simp[pe]
    have wv:IntKind.i64.wrap (s.version+1)=s.version+1:=bh _ ac0;simp only[go_sem,de];simp only[go_sem,ak,n95,n94,n54,k5,k4,wv];have hdo:doD aR s o= {s with policy:=.mk qid qset qalg qtgt qrules qkids qobls,version:=s.version+1}:=by simp[doD,p7,epp,pe]
    have kz:∀a b c k,H k=none→H1 k≠none→upd (upd (upd K i9 a) i5 b) i4 c k=H1 k:=fun a b c k d e=>by rw[ag _ _ (hz4 k d),ag _ _ (hz5 k d e),ag _ _ (hz9 k e),kK k e]
    refine .mk _ (.refl _) (.refl _) ⟨((sg9 _).put g5 _).put h4' _,_,?_,fun _=>hi0⟩
    rw[hdo];exact pG rfl rfl rfl ((hC.keepb (kz _ _ _)).bJ (fun _ e=>hH.none e)) ((w2.keepb (kz _ _ _)).bJ (fun _ e=>hH.none e)) ((w3.keepb (kz _ _ _)).bJ (fun _ e=>hH.none e)) ((w4.keepb (kz _ _ _)).bJ (fun _ e=>hH.none e)) ⟨a12,a13,a14,a23,a24,a34⟩
   ·have de:(e==0)=false:=by simp[pe]
    simp only[go_sem,de];simp only[go_sem,ak,n95,n94,k5,k4];have hdo:doD aR s o=s:=by simp[doD,p7,epp,pe]
    rw[hdo];refine .mk _ (.refl _) (.refl _) ⟨(sg9 _).put h4' _,_,(hS.keepb fun k hk hk1=>?_).bJ fun _ e=>hH.none e,fun _=>hi0⟩
    rw[ag _ _ (hz4 k hk),ag _ _ (hz9 k hk1),kK k hk1]
  have k7' :(o.kind==7)=false:=by simp[p7]
  simp only[go_sem,k7']
  by_cases p8:o.kind=8
  ·have k8' :(o.kind==8)=true:=by simp[p8]
   simp only[go_sem,k8'];have hrv:0<o.review∧o.review≤1099511627776:=by
    simp only[cV,dK,Bool.and_eq_true]at hform;simpa[okD,p8]using hform.2.1.2
   have htk:¬s.tick>1099511627776 - o.review:=by
    intro hgt;simp[bL,hform,p8,hgt]at p0
   have w8:IntKind.i64.wrap (s.tick+o.review)=s.tick+o.review:=bh _ (by have:=ht.1;omega)
   simp only[go_sem,k5,k3,w8];simp only[go_sem,ak,n54,k4];have hdo:doD aR s o= {s with tick:=s.tick+o.review}:=by simp[doD,p8]
   have kz:∀a b k,H k=none→H1 k≠none→upd (upd K i5 a) i4 b k=H1 k:=fun a b k c d=>by rw[ag _ _ (hz4 k c),ag _ _ (hz5 k c d),kK k d]
   refine .mk _ (.refl _) (.refl _) ⟨(sg.put g5 _).put h4' _,_,?_,fun _=>hi0⟩
   rw[hdo];exact pG rfl hpp rfl ((hC.keepb (kz _ _)).bJ (fun _ e=>hH.none e)) ((w2.keepb (kz _ _)).bJ (fun _ e=>hH.none e)) ((w3.keepb (kz _ _)).bJ (fun _ e=>hH.none e)) ((w4.keepb (kz _ _)).bJ (fun _ e=>hH.none e)) ⟨a12,a13,a14,a23,a24,a34⟩
  have k8' :(o.kind==8)=false:=by simp[p8]
  simp only[go_sem,k8'];simp only[go_sem,k5,k4];have hdo:doD aR s o=s:=by simp[doD,p1,p3,p4,p5,p6,p7,p8]
  rw[hdo];refine .mk _ (.refl _) (.refl _) ⟨sg.put h4' _,_,(hS.keepb fun k hk hk1=>?_).bJ fun _ e=>hH.none e,fun _=>hi0⟩
  rw[ag _ _ (hz4 k hk),kK k hk1]
 ·have d0:(bL s o !=0)=true:=by simp[p0]
  simp only[go_sem,d0];simp only[go_sem,k5,k4];have hdone:dS aR s o=s:=by simp[dS,p0]
  rw[hdone];refine .mk _ (.refl _) (.refl _) ⟨sg.put h4' _,_,(hS.keepb fun k hk hk1=>?_).bJ fun _ e=>hH.none e,fun h=>(p0 h).elim⟩
  rw[ag _ _ (hz4 k hk),kK k hk1]
end Go.Proofs.YtfdgemhnlennbaaGreatDoor
namespace Go.Bf
def L5:Txt:=[112,111,108,105,99,121,32,111,112,101,110,32,112,101,114,109,105,116,117,110,108,101,115,115,32,123,32,125]
def lP:bH:=.mk jE false 6 [] [] [] []
def yZ:an:=⟨0,[],[],[],[],lP,0⟩
end Go.Bf
namespace Go.Proofs.YtfdgemhnlennbaaGreatDoor
open Go Go.Ab Go.Bf
theorem Ol{g K:Heap}{S:an}{y1 y2 y3 y4:AV}{tk ver palg:Int}{pid:Txt}{pset:Bool}{ptgt:ga}{prules:List cQ}{pkids:List bH}{pobls:List cB}(h1:S.tick=tk)(h2:S.policy= .mk pid pset palg ptgt prules pkids pobls)(h3:S.version=ver)
  (a:Frz g K y1 (gb S.cases)) (b:Frz g K y2 (kj S.reviews)) (c:Frz g K y3 (lu S.notices)) (d:Frz g K y4 (dY S.roles)):
  Frz g K (.agg [.i tk,y1,y2,y3,y4,.s pid,.b pset,.i palg,aV ptgt,.sl (prules.map aC) .no,.sl (pkids.map aM) .no,aA pobls,.i ver]) (cM S):=by
 have:=uY a b c d;rw[h1,h2,h3,show fX (.mk pid pset palg ptgt prules pkids pobls)= [.s pid,.b pset,.i palg,aV ptgt,.sl (prules.map aC) .no,.sl (pkids.map aM) .no,aA pobls] by simp[fX,aX]]at this
 exact adN
theorem Kv{H:Heap}{i j:Nat}{a b:Option Blk}(c:Option Blk)(h:i≠j):upd (upd (upd H i a) j b) i c=upd (upd H i c) j b:=by
 grind [ah,ag]
theorem L6:aR L5=(lP,0,0):=adg
theorem R5(h:Heap)(he:jj h):ai Tryz.prog 17 [] h fun r h' =>r=cM yZ∧h' =h:=
 ai.freeze fun g hg _=>by
 replace he:=he.sub hg;refine acZ Tryz.func17 11 [.cell 0 63] fun hwf=>?_
 simp only[go_sem];intro i1 h1;simp only[go_sem];refine(ze L5 _ (he.sub (.aj h1))).pthen ?_;rw[L6];simp only[go_sem,jW,lP,aM,aV,aA,fG,jE,List.map_nil];intro i2 h2;have n21:=aH h2;have n2:=aB h2;simp only[go_sem,ak,n21.symm];refine .mk _ (.refl _) (.refl _) ⟨?_,cM yZ,Ol (S:=yZ) rfl rfl rfl mu mu mu mu,rfl⟩;rw[Kv _ n21.symm];exact((Sub.refl g).put h1 _).put n2 _
theorem rX(s:Txt)(h:Heap):ai Tryz.prog 106 [.s s] h fun r h' =>r=aQ (idV s)∧h' =h:=by
 refine acZ Tryz.func106 5 [.cell 2 33] fun hwf=>?_
 exact aiG
theorem dO(cat:Int)(name:Txt)(xs:List AV)(q:Perm)(h:Heap):ai Tryz.prog 107 [.i cat,.s name,.sl xs q] h fun r h' =>r= .agg [.i cat,.s name,.sl xs q]∧h' =h:=by
 refine acZ Tryz.func107 11 [.cell 6 182] fun hwf=>?_
 exact aiG
theorem LP{α:Type}(y:AV)(xs:List AV)(ds:List α)(q:α→Bool)(g:FuncId)(cap:List AV)(h:Heap)(hb:Rd h 3 y xs)(hn:xs.length=ds.length)(hl:xs.length≤1000000000)(hx:∀x∈xs,bA x=true)
  (hp:∀i (h1:i<xs.length) (h2:i<ds.length),ai Tryz.prog g (xs[i]::cap) h fun r h' =>r= .b (q ds[i])∧h' =h):
  ai Tryz.prog 249 [y,.fn g cap] h fun r h' =>r= .i (ixD q ds)∧h' =h:=by
 refine acZ Tryz.func249 19 [.tmp 4] fun hwf=>?_
 simp only[go_sem,hb.len];refine .intro (fun m ρ h' =>h' =h∧∃i:Nat,i≤xs.length∧m=xs.length - i∧(∀j (hj:j<i) (h2:j<ds.length),q ds[j]=false)∧lk ρ 0=some y∧lk ρ 1=some (.fn g cap)∧lk ρ 7=some (.i xs.length)∧lk ρ 8=some (.i i)) xs.length ?_ ?_
 ·refine⟨rfl,0,ac0,rfl,fun j hj=>ac0,?_,?_,?_,?_⟩<;>simp only[go_sem]
 ·rintro m ρ h' ⟨rfl,i,hi,rfl,hc,r0,r1,r7,r8⟩
  simp only[go_sem,r7,r8];refine .intro (fun e=>?_) (fun e=>?_)
  ·have hlt:i<xs.length:=acX e
   have hlt2:i<ds.length:=ac0;have w1:IntKind.i64.wrap ((i:Int)+1)=((i+1:Nat):Int):=adf;simp only[go_sem,r0,r1,r8];refine hb.idx (e:=191) i rfl hlt adg ac4 fun p hp1=>?_
   have hld:=hp1.all (U:=U) (ty:=191) ac4 adW aeQ;simp only[go_sem,hld];refine(show ai Tryz.prog g (xs[i]::cap) _ _ from hp i hlt hlt2).pthen ?_
   cases d1:q ds[i]
   ·simp only[go_sem,r8,w1]
    refine⟨_,?_,rfl,i+1,ac0,rfl,fun j hj h2=>?_,?_,?_,?_,?_⟩
    ·omega
    ·grind
    all_goals simp only[go_sem,r0,r1,r7]
   ·simp only[go_sem]
    exact .same (.refl _) ⟨adK,rfl⟩
  ·have hge:i=xs.length:=by grind
   simp only[go_sem];exact .same (.refl _) ⟨adv,rfl⟩
theorem Nf{h:Heap}(x:xO){k:Nat}{subj:Txt}(hk:h k=some (.obj [.s subj] 9)):ai Tryz.prog 212 [iJ x,.ptr k 0] h fun r h' =>r= .b (x.actor==subj)∧h' =h:=by
 refine acZ Tryz.func212 8 [.tmp 3] fun hwf=>?_
 simp only[go_sem,iJ];exact ahv
theorem uJ{α:Type}(q:α→Bool)(l:List α):decide ((0:Int)≤ixD q l)=l.any q:=by
 unfold ixD
 grind
theorem Jv(y:AV)(ds:List xO)(q:xO→Bool)(g:FuncId)(cap:List AV)(h:Heap)(hb:Rd h 3 y (ds.map iJ))(hl:ds.length≤1000000000)
  (hp:∀i (h2:i<ds.length),ai Tryz.prog g (iJ ds[i]::cap) h fun r h' =>r= .b (q ds[i])∧h' =h):
  ai Tryz.prog 211 [y,.fn g cap] h fun r h' =>r= .b (ds.any q)∧h' =h:=by
 refine acZ Tryz.func211 9 [.tmp 4] fun hwf=>?_
 simp only[go_sem];refine(LP y _ ds q g cap h hb ac7 ac1 (oR (fun _=>rfl) _) fun i a b=>by rw[acR];exact hp i b).pthen ?_
 simp only[go_sem,uJ];exact ac9
theorem Pr{h:Heap}{x:AV}{c:aL}(hb:RdC h x c)(subj:Txt)(hl:c.log.length≤1000000000):ai Tryz.prog 165 [x,.s subj] h fun r h' =>r=aQ (uw c.log subj)∧h' =h:=by
 obtain⟨f,l,rfl,hf,hlg⟩:=hb;refine acZ Tryz.func165 13 [.cell 4 33] fun hwf=>?_
 simp only[go_sem];intro i1 h1;simp only[go_sem];intro i2 h2;have n21:=aH h2;have n2:=aB h2;simp only[go_sem];intro i3 h3;have h3' :=aB h3;have n31:=aH h3';have n3:=aB h3';simp only[go_sem];intro i4 h4;have n43:=aH h4;have h4' :=aB h4;have h4'' :=aB h4';have n41:=aH h4'';have n4:=aB h4'';have hs:∀a b d e,Ab.Sub h (upd (upd (upd (upd h i1 a) i2 b) i3 d) i4 e):=fun a b d e=>((((Sub.refl h).put h1 a).put n2 b).put n3 d).put n4 e
 simp only[go_sem,ak,n21.symm,n31.symm,n41.symm];refine(Jv l c.log (fun x=>x.actor==subj) _ [.ptr i2 0] _ (hlg.sub (hs _ _ _ _)) hl fun i b=>Nf _ (by grind [ak,gm,not_false_eq_true])).pthen ?_
 cases d1:c.log.any fun x=>x.actor==subj
 ·exact aio
 ·exact aio
end Go.Proofs.YtfdgemhnlennbaaGreatDoor
