/- The law CasesStays: pack 4 of its texts. -/
import Derived.Lib.AtoiAll
import Derived.Shelf.Small.Strs
import Derived.Shelf.Small.Wraps
import Derived.Shelf.Strconv.AtoiAll
import Derived.Shelf.Strconv.ErrVarAll
import Derived.Shelf.Strings.Search1
import Derived.Test.YtmlhcdeamjkpjaaGreatDoorProg
import Derived.KernelRfl
import Derived.WalkKit
import Derived.BigCall
import Derived.Test.YtmlhcdeamjkpjaaGreatDoorPk1
import Derived.Test.YtmlhcdeamjkpjaaGreatDoorPk2
import Derived.Test.YtmlhcdeamjkpjaaGreatDoorPk3
set_option linter.unusedSimpArgs false
set_option linter.unusedVariables false
namespace Go.Ab
open Go
theorem mid_put {A B C X:List AV} {k m:Nat} (hk:k=A.length) (hm:m=X.length) (h:X.length=B.length):(A++(B++C)).take k++X++(A++(B++C)).drop (k+m)=A++(X++C):=by
 subst hk; subst hm
 rw [List.take_left,←List.drop_drop,List.drop_left,h,List.drop_left,List.append_assoc]
theorem ins_put {A B C X:List AV} {k1 k2 k3 k4:Nat} (h1:k1=A.length+X.length) (h2:k2=k1+B.length) (h3:k3=A.length) (h4:k4=k3+X.length) (hc:X.length≤C.length):
  List.take k3 (List.take k1 (A++(B++C))++B++List.drop k2 (A++(B++C)))++X++List.drop k4 (List.take k1 (A++(B++C))++B++List.drop k2 (A++(B++C)))=A++(X++(B++C.drop X.length)):=by
 subst h1; subst h2; subst h3; subst h4
 have e1:List.take (A.length+X.length) (A++(B++C))=A++List.take X.length (B++C):=by rw [List.take_append,List.take_of_length_le (by omega),Nat.add_sub_cancel_left]
 have e2:List.drop (A.length+X.length+B.length) (A++(B++C))=C.drop X.length:=by
  rw [Nat.add_assoc,←List.drop_drop,List.drop_left,Nat.add_comm,←List.drop_drop,List.drop_left]
 rw [e1,e2,List.append_assoc A]
 have e3:(List.take X.length (B++C)).length=X.length:=by rw [List.length_take,List.length_append]; omega
 have e4:A++(List.take X.length (B++C)++B++List.drop X.length C)=A++(List.take X.length (B++C)++(B++C.drop X.length)):=by simp only [List.append_assoc]
 rw [List.append_assoc A,e4]
 exact mid_put rfl rfl e3.symm
theorem ins_two {A Z R X B:List AV} {k1 k2 k3 k4:Nat} (h1:k1=A.length) (h2:k2=k1+X.length) (h3:k3=A.length+X.length) (h4:k4=k3+B.length) (hz:Z.length=X.length+B.length):
  List.take k3 (List.take k1 (A++Z++R)++X++List.drop k2 (A++Z++R))++B++List.drop k4 (List.take k1 (A++Z++R)++X++List.drop k2 (A++Z++R))=A++(X++(B++R)):=by
 subst h1; subst h2; subst h3; subst h4
 obtain ⟨Z1,Z2,rfl,e1⟩:∃Z1 Z2,Z=Z1++Z2∧Z1.length=X.length:=⟨Z.take X.length,Z.drop X.length,(List.take_append_drop _ _).symm,by rw [List.length_take]; omega⟩
 have e2:Z2.length=B.length:=by rw [List.length_append] at hz; omega
 have e3:A++(Z1++Z2)++R=A++(Z1++(Z2++R)):=by simp only [List.append_assoc]
 rw [e3,mid_put rfl rfl e1.symm,←List.append_assoc A X,mid_put (by rw [List.length_append]) rfl e2.symm,List.append_assoc]
end Go.Ab
namespace Go.Proofs.YtmlhcdeamjkpjaaGreatDoor
open Go Go.Ab Go.Bf
theorem ovCase_ok {h:Heap} {v:AV} {id off len cap:Nat} {cs:List AV} {t:TypeId} (hv:v.cells.length=5) (hid:h id=some (.obj cs t)) (hcs:cs≠ []):FnOK Tryz.prog 129 [.sl [v] .full, .ob id off len cap 5] h fun r h' =>r= .v (.bool false)∧h' =h:=
 overlaps_ok (U:=U) (tS:=24) (tR:=4) (e:=57) hU Tryz.func129 (by kernel_rfl) (by kernel_rfl) (by kernel_rfl) (by kernel_rfl) (by simp only [go_sem]) (by simp only [go_sem]) (by simp only [go_sem]; exact hv) (by simp) hid hcs
set_option maxRecDepth 100000 in
theorem insCase_ok (y:AV) (xs:List AV) (v:AV) (i:Nat) (h0 h:Heap) (hw:OwE 57 h0 h 5 y xs) (hs0:Ab.Sub h0 h) (hi:i≤xs.length) (hl:xs.length≤1000000) (hv:v.cells.length=5) (hva:fit v 5):
  FnOK Tryz.prog 82 [y, .v (.int .i64 i), .sl [v] .full] h fun r h' =>OwE 57 h0 h' 5 r (xs.take i++([v]++xs.drop i))∧(∀k,h k≠none→nid y≠some k→h' k=h k)∧∀k,nid r=some k→h k=none∨nid y=some k:=by
 rcases hw with ⟨rfl,rfl⟩|⟨id,hg,cap,rest,rfl,hid,hr,hc,hsz⟩
 ·obtain rfl:i=0:=by simpa using hi
  refine FnOK.body hU hm Tryz.func82 rfl (by kernel_rfl) 95 rfl [.tmp 6] rfl (Nat.le_of_ble_eq_true rfl) (fun hwf=> ?_)
  simp -implicitDefEqProofs only [go_sem]
  refine ⟨by omega,by omega,hv, .ob (by simp only [go_sem]) (newOb.ow (xs:= [v]) (by intro z hz; rw [List.mem_singleton.1 hz]; simp only [go_sem]; exact hv) (by simp [flatA]) rfl fun id y' h' hid hw ho=> ?_)⟩
  have hw' :Ow 57 h' 5 id y' [v]:=by have:=hw; simp only [go_sem] at this; exact this
  simp -implicitDefEqProofs only [go_sem]
  refine .same (.refl _) ⟨.inr ⟨id,hs0.none hid,hw'⟩,fun k hk _=>ho k (fun e=>hk (by rw [e]; exact hid)),fun k hk=> ?_⟩
  rw [show oneOr [y']=y' from rfl,hw'.nid] at hk
  cases hk
  exact .inl hid
 ·have how:OwE 57 h0 h 5 (.ob id 0 xs.length cap 5) xs:= .inr ⟨id,hg,cap,rest,rfl,hid,hr,hc,hsz⟩
  have hfl:=flatA_length hsz
  refine FnOK.body hU hm Tryz.func82 rfl (by kernel_rfl) 95 rfl [.tmp 6] rfl (Nat.le_of_ble_eq_true rfl) (fun hwf=> ?_)
  simp -implicitDefEqProofs only [go_sem,hid]
  refine ⟨by omega,by omega, ?_⟩
  cases d1:((i:Int)==(xs.length:Int))
  case true=>
   have hin:i=xs.length:=by
    have:(i:Int)=(xs.length:Int):=by simpa using d1
    omega
   simp -implicitDefEqProofs only [go_sem,d1]
   subst hin
   refine ⟨by omega, ?_⟩
   refine OwE.app (U:=U) (tb:=57) how hs0 (.sl (by intro z hz; rw [List.mem_singleton.1 hz]; exact hv) .full:Rd h 5 (.sl [v] .full) [v]) (by simp only [go_sem]) (by decide) (by simp only [go_sem,ne_eq,not_false_eq_true]) (by simp only [go_sem]) (by simp) (by simp only [go_sem,List.length_cons,List.length_nil]; omega) fun id2 y' h' g2 hor hw ho=> ?_
   simp -implicitDefEqProofs only [go_sem]
   have e1:xs.take xs.length++([v]++xs.drop xs.length)=xs++ [v]:=by simp
   refine .same (.refl _) ⟨by have:OwE 57 h0 h' 5 y' (xs++ [v]):= .inr ⟨id2,g2,hw⟩; rw [←e1] at this; exact this,fun k hk hk2=>ho k fun e=> ?_,fun k hk=> ?_⟩
   ·rcases hor with hor|⟨l,c,ey⟩
    ·exact hk (by rw [e]; exact hor)
    ·cases ey
     exact hk2 (by rw [e]; rfl)
   ·rw [show oneOr [y']=y' from rfl,hw.nid] at hk
    cases hk
    rcases hor with hor|⟨l,c,ey⟩
    ·exact .inl hor
    ·cases ey; exact .inr rfl
  have hne:i<xs.length:=by
   have:¬(i:Int)=(xs.length:Int):=by simpa using d1
   omega
  have wn:IntKind.i64.wrap ((xs.length:Int)+1)=((xs.length+1:Nat):Int):=by rw [wr64 _ (by omega)]; omega
  have wi:IntKind.i64.wrap ((i:Int)+1)=((i+1:Nat):Int):=by rw [wr64 _ (by omega)]; omega
  have wm:IntKind.i64.wrap (((xs.length+1:Nat):Int) - (i:Int))=((xs.length+1 - i:Nat):Int):=by rw [wr64 _ (by omega)]; omega
  have f1:flatA xs=flatA (xs.take i)++flatA (xs.drop i):=by rw [←flatA_app,List.take_append_drop]
  have f2:(flatA (xs.take i)).length=i*5:=by rw [flatA_length (sz:=5) fun z hz=>hsz z (List.mem_of_mem_take hz),List.length_take,Nat.min_eq_left hi]
  have f3:(flatA (xs.drop i)).length=(xs.length - i)*5:=by rw [flatA_length (sz:=5) fun z hz=>hsz z (List.mem_of_mem_drop hz),List.length_drop]
  have f4:flatA (xs.take i++([v]++xs.drop i))=flatA (xs.take i)++(v.cells++flatA (xs.drop i)):=by simp [flatA]
  have f5:Sized 5 (xs.take i++([v]++xs.drop i)):=fun z hz=>by
   rcases List.mem_append.1 hz with hz|hz
   ·exact hsz z (List.mem_of_mem_take hz)
   ·rcases List.mem_append.1 hz with hz|hz
    ·rw [List.mem_singleton.1 hz]; exact hv
    ·exact hsz z (List.mem_of_mem_drop hz)
  have f6:(xs.take i++([v]++xs.drop i)).length=xs.length+1:=by simp; omega
  have f6' :(xs.take i++v::xs.drop i).length=xs.length+1:=f6
  cases d2:decide ((cap:Int)<((xs.length+1:Nat):Int))
  ·have e2:=of_decide_eq_false d2
   simp -implicitDefEqProofs only [go_sem,d1,wn,d2]
   refine ⟨by omega, ?_⟩
   simp -implicitDefEqProofs only [go_sem,wi]
   have hcs:flatA xs++rest≠ []:=by
    intro e
    have:=congrArg List.length e
    rw [List.length_append,hfl] at this
    simp at this
    omega
   refine ⟨by omega,by omega,by omega,by omega,by omega,by omega, ?_⟩
   refine (ovCase_ok hv hid hcs).pthen ?_
   simp -implicitDefEqProofs only [go_sem]
   refine .calls noHeap [0,1,2,3,4,5,6,7,8] (fun _ _ e=>by cases e) (by kernel_rfl) rfl ?_
   simp -implicitDefEqProofs only [go_sem,wi,hid,Nat.sub_zero]
   have hmin:min (xs.length+1 - i) (xs.length+1 - (i+1))=xs.length - i:=by omega
   refine ⟨by omega,by omega,by omega,by omega,by omega,by omega,xs.drop i,by rw [hmin,List.length_drop],by rw [hmin,List.length_append,hfl,hr]; omega, ?q1,fun z hz=>hsz z (List.mem_of_mem_drop hz),by rw [List.length_drop]; omega,by rw [List.length_append,hfl,hr]; omega,(by intro _ _ e; cases e),by omega,by omega,by omega,hv,by omega, ?ln, ?fin⟩
   case q1=>rw [hmin,f1,List.append_assoc,←f2,List.drop_left,←f3,List.take_left]
   case ln=>simp only [List.length_append,List.length_take,List.length_drop,hfl,hr,f3]; omega
   have hrl:(5:Nat)≤rest.length:=by rw [hr]; omega
   have hfv:flatA [v]=v.cells:=by simp [flatA]
   have key:=ins_put (A:=flatA (xs.take i)) (B:=flatA (xs.drop i)) (C:=rest) (X:=flatA [v]) (k1:=(i+1)*5) (k2:=(i+1)*5+(flatA (xs.drop i)).length) (k3:=i*5) (k4:=i*5+(flatA [v]).length) (by rw [hfv,hv,f2]; omega) rfl f2.symm rfl (by rw [hfv,hv]; exact hrl)
   rw [←List.append_assoc (flatA (xs.take i)) (flatA (xs.drop i)) rest,←f1] at key
   rw [key]
   have e8:flatA (xs.take i)++(flatA [v]++(flatA (xs.drop i)++rest.drop (flatA [v]).length))=flatA (xs.take i++([v]++xs.drop i))++rest.drop 5:=by rw [f4,hfv,hv]; simp only [List.append_assoc]
   rw [e8]
   refine .same (.refl _) ⟨.inr ⟨id,hg,cap,rest.drop 5,by rw [←f6]; rfl,upd_same _ _ _,by rw [List.length_drop,hr,f6']; omega,by have:=f6; simp only [List.cons_append,List.nil_append] at this; rw [this]; omega,f5⟩,fun k hk hk2=>upd_other _ _ fun e=>hk2 (by rw [e]; rfl),fun k hk=> .inr hk⟩
  ·have e2:=of_decide_eq_true d2
   simp -implicitDefEqProofs only [go_sem,d1,wn,d2,wm]
   refine ⟨by omega, ?_⟩
   simp -implicitDefEqProofs only [go_sem,hid]
   have eA:List.take (i*5) (flatA xs++rest)=flatA (xs.take i):=by rw [f1,List.append_assoc,←f2,List.take_left]
   refine ⟨by omega,by omega,by omega,by omega,by omega,by omega,by rw [List.length_append,hfl]; omega, ?_⟩
   rw [Nat.sub_zero,eA]
   obtain ⟨Z,eZ⟩:∃Z,zerosA (AV.agg [AV.s [],AV.s [],AV.s [],AV.sl [] Perm.full,AV.sl [] Perm.full]) (xs.length+1 - i) 5=Z:=⟨_,rfl⟩
   have lZ:Z.length=(xs.length+1 - i)*5:=by rw [←eZ]; simp [zerosA]
   rw [eZ]
   intro id2 cap2 rest2 hid2 hc2 hr2
   have hx:¬id=id2:=fun e=>by rw [e,hid2] at hid; cases hid
   simp -implicitDefEqProofs only [go_sem]
   have hfv:flatA [v]=v.cells:=by simp [flatA]
   refine ⟨by omega,by omega,by omega,hv,by omega,by simp only [List.length_append,f2,lZ,hr2]; omega, ?_⟩
   refine .calls noHeap [0,1,2,3,4,5,6,7,8] (fun _ _ e=>by cases e) (by kernel_rfl) rfl ?_
   simp -implicitDefEqProofs only [go_sem,wi,hid,hx,Nat.sub_zero]
   have hmin:min (xs.length - i) (i+(xs.length+1 - i) - (i+1))=xs.length - i:=by omega
   have l0:(flatA (xs.take i)++Z++rest2).length=(i+(xs.length+1 - i))*5+(cap2 - (i+(xs.length+1 - i)))*5:=by simp only [List.length_append,f2,lZ,hr2]; omega
   refine ⟨by omega,by omega,by omega,by omega,by omega,by omega,xs.drop i,by rw [hmin,List.length_drop],by rw [hmin,List.length_append,hfl,hr]; omega, ?q2,fun z hz=>hsz z (List.mem_of_mem_drop hz),by rw [List.length_drop]; omega, ?lm,(by intro _ _ e; cases e), ?fim⟩
   case q2=>rw [hmin,f1,List.append_assoc,←f2,List.drop_left,←f3,List.take_left]
   case lm=>rw [hfv]; simp only [List.length_append,List.length_take,List.length_drop,l0,hv]; omega
   rw [ins_two f2.symm rfl (by rw [hfv,hv,f2]; omega) rfl (by rw [hfv,hv,lZ,f3]; omega)]
   have e8:flatA (xs.take i)++(flatA [v]++(flatA (xs.drop i)++rest2))=flatA (xs.take i++([v]++xs.drop i))++rest2:=by rw [f4,hfv]; simp only [List.append_assoc]
   rw [e8]
   have e9:i+(xs.length+1 - i)=xs.length+1:=by omega
   rw [e9] at hr2 hc2⊢
   refine .same (.refl _) ⟨.inr ⟨id2,hs0.none hid2,cap2,rest2,by rw [←f6]; rfl,upd_same _ _ _,by rw [hr2,f6'],by rw [f6']; omega,f5⟩,fun k hk hk2=>upd_other _ _ fun e=>hk (by rw [e]; exact hid2),fun k hk=> .inl (by cases hk; exact hid2)⟩
theorem ovField_ok {h:Heap} {v:AV} {id off len cap:Nat} {cs:List AV} {t:TypeId} (hv:v.cells.length=4) (hid:h id=some (.obj cs t)) (hcs:cs≠ []):FnOK Tryz.prog 181 [.sl [v] .full, .ob id off len cap 4] h fun r h' =>r= .v (.bool false)∧h' =h:=
 overlaps_ok (U:=U) (tS:=54) (tR:=4) (e:=131) hU Tryz.func181 (by kernel_rfl) (by kernel_rfl) (by kernel_rfl) (by kernel_rfl) (by simp only [go_sem]) (by simp only [go_sem]) (by simp only [go_sem]; exact hv) (by simp) hid hcs
set_option maxRecDepth 100000 in
theorem insField_ok (y:AV) (xs:List AV) (v:AV) (i:Nat) (h0 h:Heap) (hw:OwE 131 h0 h 4 y xs) (hs0:Ab.Sub h0 h) (hi:i≤xs.length) (hl:xs.length≤1000000) (hv:v.cells.length=4) (hva:fit v 4):
  FnOK Tryz.prog 132 [y, .v (.int .i64 i), .sl [v] .full] h fun r h' =>OwE 131 h0 h' 4 r (xs.take i++([v]++xs.drop i))∧(∀k,h k≠none→nid y≠some k→h' k=h k)∧∀k,nid r=some k→h k=none∨nid y=some k:=by
 rcases hw with ⟨rfl,rfl⟩|⟨id,hg,cap,rest,rfl,hid,hr,hc,hsz⟩
 ·obtain rfl:i=0:=by simpa using hi
  refine FnOK.body hU hm Tryz.func132 rfl (by kernel_rfl) 95 rfl [.tmp 6] rfl (Nat.le_of_ble_eq_true rfl) (fun hwf=> ?_)
  simp -implicitDefEqProofs only [go_sem]
  refine ⟨by omega,by omega,hv, .ob (by simp only [go_sem]) (newOb.ow (xs:= [v]) (by intro z hz; rw [List.mem_singleton.1 hz]; simp only [go_sem]; exact hv) (by simp [flatA]) rfl fun id y' h' hid hw ho=> ?_)⟩
  have hw' :Ow 131 h' 4 id y' [v]:=by have:=hw; simp only [go_sem] at this; exact this
  simp -implicitDefEqProofs only [go_sem]
  refine .same (.refl _) ⟨.inr ⟨id,hs0.none hid,hw'⟩,fun k hk _=>ho k (fun e=>hk (by rw [e]; exact hid)),fun k hk=> ?_⟩
  rw [show oneOr [y']=y' from rfl,hw'.nid] at hk
  cases hk
  exact .inl hid
 ·have how:OwE 131 h0 h 4 (.ob id 0 xs.length cap 4) xs:= .inr ⟨id,hg,cap,rest,rfl,hid,hr,hc,hsz⟩
  have hfl:=flatA_length hsz
  refine FnOK.body hU hm Tryz.func132 rfl (by kernel_rfl) 95 rfl [.tmp 6] rfl (Nat.le_of_ble_eq_true rfl) (fun hwf=> ?_)
  simp -implicitDefEqProofs only [go_sem,hid]
  refine ⟨by omega,by omega, ?_⟩
  cases d1:((i:Int)==(xs.length:Int))
  case true=>
   have hin:i=xs.length:=by
    have:(i:Int)=(xs.length:Int):=by simpa using d1
    omega
   simp -implicitDefEqProofs only [go_sem,d1]
   subst hin
   refine ⟨by omega, ?_⟩
   refine OwE.app (U:=U) (tb:=131) how hs0 (.sl (by intro z hz; rw [List.mem_singleton.1 hz]; exact hv) .full:Rd h 4 (.sl [v] .full) [v]) (by simp only [go_sem]) (by decide) (by simp only [go_sem,ne_eq,not_false_eq_true]) (by simp only [go_sem]) (by simp) (by simp only [go_sem,List.length_cons,List.length_nil]; omega) fun id2 y' h' g2 hor hw ho=> ?_
   simp -implicitDefEqProofs only [go_sem]
   have e1:xs.take xs.length++([v]++xs.drop xs.length)=xs++ [v]:=by simp
   refine .same (.refl _) ⟨by have:OwE 131 h0 h' 4 y' (xs++ [v]):= .inr ⟨id2,g2,hw⟩; rw [←e1] at this; exact this,fun k hk hk2=>ho k fun e=> ?_,fun k hk=> ?_⟩
   ·rcases hor with hor|⟨l,c,ey⟩
    ·exact hk (by rw [e]; exact hor)
    ·cases ey
     exact hk2 (by rw [e]; rfl)
   ·rw [show oneOr [y']=y' from rfl,hw.nid] at hk
    cases hk
    rcases hor with hor|⟨l,c,ey⟩
    ·exact .inl hor
    ·cases ey; exact .inr rfl
  have hne:i<xs.length:=by
   have:¬(i:Int)=(xs.length:Int):=by simpa using d1
   omega
  have wn:IntKind.i64.wrap ((xs.length:Int)+1)=((xs.length+1:Nat):Int):=by rw [wr64 _ (by omega)]; omega
  have wi:IntKind.i64.wrap ((i:Int)+1)=((i+1:Nat):Int):=by rw [wr64 _ (by omega)]; omega
  have wm:IntKind.i64.wrap (((xs.length+1:Nat):Int) - (i:Int))=((xs.length+1 - i:Nat):Int):=by rw [wr64 _ (by omega)]; omega
  have f1:flatA xs=flatA (xs.take i)++flatA (xs.drop i):=by rw [←flatA_app,List.take_append_drop]
  have f2:(flatA (xs.take i)).length=i*4:=by rw [flatA_length (sz:=4) fun z hz=>hsz z (List.mem_of_mem_take hz),List.length_take,Nat.min_eq_left hi]
  have f3:(flatA (xs.drop i)).length=(xs.length - i)*4:=by rw [flatA_length (sz:=4) fun z hz=>hsz z (List.mem_of_mem_drop hz),List.length_drop]
  have f4:flatA (xs.take i++([v]++xs.drop i))=flatA (xs.take i)++(v.cells++flatA (xs.drop i)):=by simp [flatA]
  have f5:Sized 4 (xs.take i++([v]++xs.drop i)):=fun z hz=>by
   rcases List.mem_append.1 hz with hz|hz
   ·exact hsz z (List.mem_of_mem_take hz)
   ·rcases List.mem_append.1 hz with hz|hz
    ·rw [List.mem_singleton.1 hz]; exact hv
    ·exact hsz z (List.mem_of_mem_drop hz)
  have f6:(xs.take i++([v]++xs.drop i)).length=xs.length+1:=by simp; omega
  have f6' :(xs.take i++v::xs.drop i).length=xs.length+1:=f6
  cases d2:decide ((cap:Int)<((xs.length+1:Nat):Int))
  ·have e2:=of_decide_eq_false d2
   simp -implicitDefEqProofs only [go_sem,d1,wn,d2]
   refine ⟨by omega, ?_⟩
   simp -implicitDefEqProofs only [go_sem,wi]
   have hcs:flatA xs++rest≠ []:=by
    intro e
    have:=congrArg List.length e
    rw [List.length_append,hfl] at this
    simp at this
    omega
   refine ⟨by omega,by omega,by omega,by omega,by omega,by omega, ?_⟩
   refine (ovField_ok hv hid hcs).pthen ?_
   simp -implicitDefEqProofs only [go_sem]
   refine .calls noHeap [0,1,2,3,4,5,6,7,8] (fun _ _ e=>by cases e) (by kernel_rfl) rfl ?_
   simp -implicitDefEqProofs only [go_sem,wi,hid,Nat.sub_zero]
   have hmin:min (xs.length+1 - i) (xs.length+1 - (i+1))=xs.length - i:=by omega
   refine ⟨by omega,by omega,by omega,by omega,by omega,by omega,xs.drop i,by rw [hmin,List.length_drop],by rw [hmin,List.length_append,hfl,hr]; omega, ?q1,fun z hz=>hsz z (List.mem_of_mem_drop hz),by rw [List.length_drop]; omega,by rw [List.length_append,hfl,hr]; omega,(by intro _ _ e; cases e),by omega,by omega,by omega,hv,by omega, ?ln, ?fin⟩
   case q1=>rw [hmin,f1,List.append_assoc,←f2,List.drop_left,←f3,List.take_left]
   case ln=>simp only [List.length_append,List.length_take,List.length_drop,hfl,hr,f3]; omega
   have hrl:(4:Nat)≤rest.length:=by rw [hr]; omega
   have hfv:flatA [v]=v.cells:=by simp [flatA]
   have key:=ins_put (A:=flatA (xs.take i)) (B:=flatA (xs.drop i)) (C:=rest) (X:=flatA [v]) (k1:=(i+1)*4) (k2:=(i+1)*4+(flatA (xs.drop i)).length) (k3:=i*4) (k4:=i*4+(flatA [v]).length) (by rw [hfv,hv,f2]; omega) rfl f2.symm rfl (by rw [hfv,hv]; exact hrl)
   rw [←List.append_assoc (flatA (xs.take i)) (flatA (xs.drop i)) rest,←f1] at key
   rw [key]
   have e8:flatA (xs.take i)++(flatA [v]++(flatA (xs.drop i)++rest.drop (flatA [v]).length))=flatA (xs.take i++([v]++xs.drop i))++rest.drop 4:=by rw [f4,hfv,hv]; simp only [List.append_assoc]
   rw [e8]
   refine .same (.refl _) ⟨.inr ⟨id,hg,cap,rest.drop 4,by rw [←f6]; rfl,upd_same _ _ _,by rw [List.length_drop,hr,f6']; omega,by have:=f6; simp only [List.cons_append,List.nil_append] at this; rw [this]; omega,f5⟩,fun k hk hk2=>upd_other _ _ fun e=>hk2 (by rw [e]; rfl),fun k hk=> .inr hk⟩
  ·have e2:=of_decide_eq_true d2
   simp -implicitDefEqProofs only [go_sem,d1,wn,d2,wm]
   refine ⟨by omega, ?_⟩
   simp -implicitDefEqProofs only [go_sem,hid]
   have eA:List.take (i*4) (flatA xs++rest)=flatA (xs.take i):=by rw [f1,List.append_assoc,←f2,List.take_left]
   refine ⟨by omega,by omega,by omega,by omega,by omega,by omega,by rw [List.length_append,hfl]; omega, ?_⟩
   rw [Nat.sub_zero,eA]
   obtain ⟨Z,eZ⟩:∃Z,zerosA (AV.agg [AV.s [],AV.v (Value.int IntKind.i64 0),AV.v (Value.int IntKind.i64 0),AV.s []]) (xs.length+1 - i) 4=Z:=⟨_,rfl⟩
   have lZ:Z.length=(xs.length+1 - i)*4:=by rw [←eZ]; simp [zerosA]
   rw [eZ]
   intro id2 cap2 rest2 hid2 hc2 hr2
   have hx:¬id=id2:=fun e=>by rw [e,hid2] at hid; cases hid
   simp -implicitDefEqProofs only [go_sem]
   have hfv:flatA [v]=v.cells:=by simp [flatA]
   refine ⟨by omega,by omega,by omega,hv,by omega,by simp only [List.length_append,f2,lZ,hr2]; omega, ?_⟩
   refine .calls noHeap [0,1,2,3,4,5,6,7,8] (fun _ _ e=>by cases e) (by kernel_rfl) rfl ?_
   simp -implicitDefEqProofs only [go_sem,wi,hid,hx,Nat.sub_zero]
   have hmin:min (xs.length - i) (i+(xs.length+1 - i) - (i+1))=xs.length - i:=by omega
   have l0:(flatA (xs.take i)++Z++rest2).length=(i+(xs.length+1 - i))*4+(cap2 - (i+(xs.length+1 - i)))*4:=by simp only [List.length_append,f2,lZ,hr2]; omega
   refine ⟨by omega,by omega,by omega,by omega,by omega,by omega,xs.drop i,by rw [hmin,List.length_drop],by rw [hmin,List.length_append,hfl,hr]; omega, ?q2,fun z hz=>hsz z (List.mem_of_mem_drop hz),by rw [List.length_drop]; omega, ?lm,(by intro _ _ e; cases e), ?fim⟩
   case q2=>rw [hmin,f1,List.append_assoc,←f2,List.drop_left,←f3,List.take_left]
   case lm=>rw [hfv]; simp only [List.length_append,List.length_take,List.length_drop,l0,hv]; omega
   rw [ins_two f2.symm rfl (by rw [hfv,hv,f2]; omega) rfl (by rw [hfv,hv,lZ,f3]; omega)]
   have e8:flatA (xs.take i)++(flatA [v]++(flatA (xs.drop i)++rest2))=flatA (xs.take i++([v]++xs.drop i))++rest2:=by rw [f4,hfv]; simp only [List.append_assoc]
   rw [e8]
   have e9:i+(xs.length+1 - i)=xs.length+1:=by omega
   rw [e9] at hr2 hc2⊢
   refine .same (.refl _) ⟨.inr ⟨id2,hs0.none hid2,cap2,rest2,by rw [←f6]; rfl,upd_same _ _ _,by rw [hr2,f6'],by rw [f6']; omega,f5⟩,fun k hk hk2=>upd_other _ _ fun e=>hk (by rw [e]; exact hid2),fun k hk=> .inl (by cases hk; exact hid2)⟩
end Go.Proofs.YtmlhcdeamjkpjaaGreatDoor

set_option linter.unusedSimpArgs false
set_option linter.unusedVariables false
namespace Go.Ab
open Go
theorem At.mid {h:Heap} {A B:List AV} {x:AV} {k:Nat} {t:TypeId} (hk:h k=some (.obj (A++(x.cells++B)) t)) (o:Nat):At h (.ptr k (A.length+o)) x o:=
 .inr ⟨k,A.length,_,t,rfl,hk,by simp only [List.length_append]; omega,by rw [List.drop_left,List.take_left]⟩
noncomputable def pick (H:Heap) (l:List Nat):Heap:=fun j=>if j∈l then H j else none
theorem pick_at {H:Heap} {l:List Nat} {j:Nat} (hj:j∈l):pick H l j=H j:=if_pos hj
theorem pick_to {H h' :Heap} {l:List Nat} (hs:∀j∈l,h' j=H j):Sub (pick H l) h' :=fun j b hb=>by
 by_cases hj:j∈l
 ·rw [pick_at hj] at hb; rw [hs j hj]; exact hb
 ·rw [pick,if_neg hj] at hb; cases hb
theorem pick_sub {H:Heap} {l:List Nat}:Sub (pick H l) H:=pick_to fun _ _=>rfl
end Go.Ab
namespace Go.Proofs.YtmlhcdeamjkpjaaGreatDoor
open Go Go.Ab Go.Bf
def caseL (c:CaseD) (f l:AV):List AV:= [.s c.id, .s c.owner, .s c.state,f,l]
theorem happens_ok {h0 h:Heap} {s:StoreD} (y1 y2 y3 y4:AV) {k o:Nat} {A B:List AV} {t:TypeId} {c:CaseD} {f l:AV} (ho:o=A.length) (hk:h k=some (.obj (A++(caseL c f l++B)) t)) (ht:t≠96)
  (hlo:OwE 96 h0 h 3 l (c.log.map hapA)) (hs0:Ab.Sub h0 h) (hll:c.log.length≤1000000) (actor what:Txt):
  FnOK Tryz.prog 81 [.agg ([.v (.int .i64 s.tick),y1,y2,y3,y4]++polC s.policy++ [.v (.int .i64 s.version)]), .ptr k o, .s actor, .s what] h fun r h' =>∃l',OwE 96 h0 h' 3 l' ((c.log++ [(⟨s.tick,actor,what⟩:HapD)]).map hapA)∧h' k=some (.obj (A++(caseL c f l' ++B)) t)∧(∀j,h j≠none→j≠k→nid l≠some j→h' j=h j)∧∀j,nid l' =some j→h j=none∨nid l=some j:=by
 cases hpp:s.policy with
 |mk pid pset palg ptgt prules pkids pobls=>
 have hcC:polC (.mk pid pset palg ptgt prules pkids pobls)= [.s pid, .v (.bool pset), .v (.int .i64 palg),tgtA ptgt, .sl (prules.map ruleA) .no, .sl (pkids.map polA) .no,oblsA pobls]:=by simp [polC,kidsA_eq]
 refine FnOK.body hU hm Tryz.func81 rfl (by kernel_rfl) 22 rfl [] rfl (Nat.le_of_ble_eq_true rfl) (fun hwf=> ?_)
 simp -implicitDefEqProofs only [go_sem,hcC,List.cons_append,List.nil_append]
 intro i1 h1
 simp -implicitDefEqProofs only [go_sem]
 obtain ⟨H,eH⟩:∃H,upd h i1 (some (.obj [.v (.int .i64 s.tick),y1,y2,y3,y4, .s pid, .v (.bool pset), .v (.int .i64 palg),tgtA ptgt, .sl (prules.map ruleA) .no, .sl (pkids.map polA) .no,oblsA pobls, .v (.int .i64 s.version)] 36))=H:=⟨_,rfl⟩
 have n1k:k≠i1:=fun e=>by rw [e,h1] at hk; cases hk
 have g1:H i1=some (.obj [.v (.int .i64 s.tick),y1,y2,y3,y4, .s pid, .v (.bool pset), .v (.int .i64 palg),tgtA ptgt, .sl (prules.map ruleA) .no, .sl (pkids.map polA) .no,oblsA pobls, .v (.int .i64 s.version)] 36):=by rw [←eH,upd_same]
 have gk:H k=some (.obj (A++(caseL c f l++B)) t):=by rw [←eH,upd_other _ _ n1k]; exact hk
 have hH:Ab.Sub h H:=by rw [←eH]; exact (Sub.refl h).put h1 _
 have hoj:∀j,j≠i1→H j=h j:=fun j hj=>by rw [←eH]; exact upd_other _ _ hj
 rw [eH]
 clear eH
 refine .stage (hm2 k (.obj (A++(caseL c f l++B)) t) i1 (.obj [.v (.int .i64 s.tick),y1,y2,y3,y4, .s pid, .v (.bool pset), .v (.int .i64 palg),tgtA ptgt, .sl (prules.map ruleA) .no, .sl (pkids.map polA) .no,oblsA pobls, .v (.int .i64 s.version)] 36)) [0,1,2,3,4,5,6,7,8,9,10,11,12,13] [14] (.hm2 gk g1) (by kernel_rfl) ?_
 have hc4:(A++(caseL c f l++B))[o+4]? =some l:=by rw [ho,List.getElem?_append_right (by omega),Nat.add_sub_cancel_left]; rfl
 obtain ⟨CS,eCS⟩:∃CS,A++(caseL c f l++B)=CS:=⟨_,rfl⟩
 rw [eCS] at hc4 gk⊢
 simp -implicitDefEqProofs only [go_sem,hm2_snd,hm2_fst _ _ n1k,hc4]
 have hap1:Rd H 3 (.sl [hapA ⟨s.tick,actor,what⟩] .full) [hapA ⟨s.tick,actor,what⟩]:= .sl (by intro z hz; rw [List.mem_singleton.1 hz]; rfl) .full
 refine OwE.app (U:=U) (tb:=96) (hlo.sub hH) (hs0.trans hH) hap1 (by simp only [go_sem]) (by decide) (by simp only [go_sem,ne_eq,not_false_eq_true]) (by simp only [go_sem]) (by simp) (by simp only [go_sem,List.length_cons,List.length_nil,List.length_map]; omega) fun id2 y' h' g2 hor hw ho2=> ?_
 have hor' :H id2=none∨nid l=some id2:=by
  rcases hor with hor|⟨l,c,ey⟩
  ·exact .inl hor
  ·exact .inr (by rw [ey]; rfl)
 have k2:k≠id2:=by
  rcases hor' with hor|hor
  ·exact fun e=>by rw [←e,gk] at hor; cases hor
  ·exact (ow_ne ((hlo.sub hH).nid hor).2.2 gk ht).symm
 have i2:i1≠id2:=by
  rcases hor' with hor|hor
  ·exact fun e=>by rw [←e,g1] at hor; cases hor
  ·exact fun e=>(hlo.nid hor).2.1 (by rw [←e]; exact h1)
 have gk' :=(ho2 k k2).trans gk
 have gi' :=(ho2 i1 i2).trans g1
 refine ⟨.hm2 gk' gi', ?_⟩
 simp -implicitDefEqProofs only [go_sem]
 refine ⟨noHeap,(fun _ _ e=>by cases e), ?_⟩
 simp -implicitDefEqProofs only [go_sem,gk',hw.rd.fit,hw.rd.cells]
 have lCS:CS.length=A.length+(5+B.length):=by rw [←eCS]; simp [caseL]; omega
 have e5:List.take (o+4) CS++ [y']++List.drop (o+4+1) CS=A++(caseL c f y' ++B):=by
  have:=mid_put (A:=A++ [.s c.id, .s c.owner, .s c.state,f]) (B:= [l]) (C:=B) (X:= [y']) (k:=o+4) (m:=1) (by rw [ho]; simp) rfl rfl
  simp only [←eCS,caseL,List.append_assoc,List.cons_append,List.nil_append] at this⊢
  exact this
 rw [e5]
 refine ⟨by omega,(fun _ _ e=>by cases e), .same (.refl _) ⟨y', ?_,upd_same ..,fun j hj hjk hjl=> ?_,fun j hj=> ?_⟩⟩
 ·have hw' :Ow 96 (upd h' k (some (.obj (A++(caseL c f y' ++B)) t))) 3 id2 y' (c.log.map hapA++ [hapA ⟨s.tick,actor,what⟩]):=hw.same (upd_other _ _ k2.symm)
  rw [List.map_append]
  exact .inr ⟨id2,g2,hw'⟩
 ·have hj2:j≠id2:=by
   rcases hor' with hor|hor
   ·intro e
    have:=hoj j (fun e' =>hj (by rw [e']; exact h1))
    rw [e,hor] at this
    exact hj (by rw [e]; exact this.symm)
   ·exact fun e=>hjl (by rw [e]; exact hor)
  have hj1:j≠i1:=fun e=>hj (by rw [e]; exact h1)
  rw [upd_other _ _ hjk,ho2 j hj2,hoj j hj1]
 ·have:id2=j:=by have:=hw.nid; rw [hj] at this; exact (Option.some.inj this).symm
  rw [←this]
  rcases hor' with hor|hor
  ·refine .inl ?_
   cases hh:h id2 with
   |none=>rfl
   |some b=>rw [hH _ _ hh] at hor; cases hor
  ·exact .inr hor
theorem write1_ok {h:Heap} (f:FieldD) {k:Nat} {name:Txt} (hk:h k=some (.obj [.s name] 9)):FnOK Tryz.prog 131 [fieldA f, .ptr k 0] h fun r h' =>r= .v (.bool (geB f.name name))∧h' =h:=by
 refine FnOK.body hU hm Tryz.func131 rfl (by kernel_rfl) 8 rfl [.tmp 3] rfl (Nat.le_of_ble_eq_true rfl) (fun hwf=> ?_)
 simp -implicitDefEqProofs only [go_sem,fieldA]
 intro i1 h1
 have n1:k≠i1:=fun e=>by subst e; rw [hk] at h1; cases h1
 simp -implicitDefEqProofs only [go_sem,upd_ne,n1,n1.symm,hk]
 exact .mk _ (.refl _) (.upd_new h1) ⟨rfl,rfl⟩
theorem writeD_app {fs:List FieldD} {name:Txt} {v:ValD} (hx:¬fs.findIdx (fun f=>geB f.name name)<fs.length):writeD fs name v=fs++ [⟨name,v⟩]:=by
 unfold writeD
 simp only [List.getElem?_eq_none (show fs.length≤fs.findIdx (fun f=>geB f.name name) by omega)]
theorem writeD_set {fs:List FieldD} {name:Txt} {v:ValD} (hx:fs.findIdx (fun f=>geB f.name name)<fs.length) (he:fs[fs.findIdx (fun f=>geB f.name name)].name=name):writeD fs name v=fs.set (fs.findIdx (fun f=>geB f.name name)) ⟨name,v⟩:=by
 unfold writeD
 simp only [List.getElem?_eq_getElem hx,he,if_true]
theorem writeD_ins {fs:List FieldD} {name:Txt} {v:ValD} (hx:fs.findIdx (fun f=>geB f.name name)<fs.length) (he:fs[fs.findIdx (fun f=>geB f.name name)].name≠name):writeD fs name v=fs.take (fs.findIdx (fun f=>geB f.name name))++ [⟨name,v⟩]++fs.drop (fs.findIdx (fun f=>geB f.name name)):=by
 unfold writeD
 simp only [List.getElem?_eq_getElem hx,he,if_false]
set_option maxRecDepth 100000 in
theorem write_ok {h0 h:Heap} {k o:Nat} {A B:List AV} {t:TypeId} {c:CaseD} {f l:AV} (ho:o=A.length) (hk:h k=some (.obj (A++(caseL c f l++B)) t)) (ht:t≠131)
  (hfo:OwE 131 h0 h 4 f (c.fields.map fieldA)) (hs0:Ab.Sub h0 h) (hff:c.fields.length≤1000000) (name:Txt) (v:ValD):
  FnOK Tryz.prog 83 [.ptr k o, .s name,valA v] h fun r h' =>∃f',OwE 131 h0 h' 4 f' ((writeD c.fields name v).map fieldA)∧h' k=some (.obj (A++(caseL c f' l++B)) t)∧(∀j,h j≠none→j≠k→nid f≠some j→h' j=h j)∧∀j,nid f' =some j→h j=none∨nid f=some j:=by
 have hc3:(A++(caseL c f l++B))[o+3]? =some f:=by rw [ho,List.getElem?_append_right (by omega),Nat.add_sub_cancel_left]; rfl
 have lCS:(A++(caseL c f l++B)).length=A.length+(5+B.length):=by simp [caseL]; omega
 have e5:∀y',List.take (o+3) (A++(caseL c f l++B))++ [y']++List.drop (o+3+1) (A++(caseL c f l++B))=A++(caseL c y' l++B):=fun y' =>by
  have:=mid_put (A:=A++ [.s c.id, .s c.owner, .s c.state]) (B:= [f]) (C:=l::B) (X:= [y']) (k:=o+3) (m:=1) (by rw [ho]; simp) rfl rfl
  simp only [caseL,List.append_assoc,List.cons_append,List.nil_append] at this⊢
  exact this
 obtain ⟨CS,eCS⟩:∃CS,A++(caseL c f l++B)=CS:=⟨_,rfl⟩
 rw [eCS] at hc3 hk lCS e5
 refine FnOK.body hU hm Tryz.func83 rfl (by kernel_rfl) 60 rfl [] rfl (Nat.le_of_ble_eq_true rfl) (fun hwf=> ?_)
 simp -implicitDefEqProofs only [go_sem,valA]
 intro i1 h1
 simp -implicitDefEqProofs only [go_sem]
 intro i2 h2
 have n21:=ne_upd h2
 have n2:=upd_none h2
 have nk1:k≠i1:=fun e=>by rw [e,h1] at hk; cases hk
 have nk2:k≠i2:=fun e=>by rw [e,n2] at hk; cases hk
 obtain ⟨H,eH⟩:∃H,upd (upd h i1 (some (.obj [.s name] 9))) i2 (some (.obj [.v (.int .i64 v.kind), .v (.int .i64 v.n), .s v.s] 42))=H:=⟨_,rfl⟩
 have g1:H i1=some (.obj [.s name] 9):=by rw [←eH,upd_other _ _ n21.symm,upd_same]
 have g2:H i2=some (.obj [.v (.int .i64 v.kind), .v (.int .i64 v.n), .s v.s] 42):=by rw [←eH,upd_same]
 have gk:H k=some (.obj CS t):=by rw [←eH,upd_other _ _ nk2,upd_other _ _ nk1]; exact hk
 have hH:Ab.Sub h H:=by rw [←eH]; exact ((Sub.refl h).put h1 _).put n2 _
 have hoj:∀j,h j≠none→H j=h j:=fun j hj=>by rw [←eH,upd_other _ _ (fun e=>hj (by rw [e]; exact n2)),upd_other _ _ (fun e=>hj (by rw [e]; exact h1))]
 rw [eH]
 clear eH
 simp -implicitDefEqProofs only [go_sem,gk,hc3]
 refine (ixField_ok f _ c.fields (fun f=>geB f.name name) _ [.ptr i1 0] _ (hfo.sub hH).rd (by simp) (by simp; omega) (agg_map (fun _=>rfl) _) fun i a b=>by
  rw [List.getElem_map]; exact write1_ok _ g1).pthen ?_
 have hns:∀G,Ab.Sub noHeap G:=fun G _ _ e=>by cases e
 by_cases hx:c.fields.findIdx (fun f=>geB f.name name)<c.fields.length
 ·obtain ⟨i,ei⟩:∃i,c.fields.findIdx (fun f=>geB f.name name)=i:=⟨_,rfl⟩
  have hxm:i<(c.fields.map fieldA).length:=by rw [←ei]; simpa using hx
  have e1:ixD (fun f=>geB f.name name) c.fields=(i:Nat):=by rw [ixD,ei]; exact if_pos (by rw [←ei]; exact hx)
  have d1:decide (((i:Nat):Int)<0)=false:=decide_eq_false (by omega)
  rw [e1]
  simp -implicitDefEqProofs only [go_sem,d1]
  refine ⟨.of (by kernel_rfl), ?_⟩
  simp -implicitDefEqProofs only [go_sem,gk,hc3,g1]
  refine (hfo.sub hH).rd.idx (e:=131) i rfl hxm uField (by decide) fun p hp1=> ?_
  simp -implicitDefEqProofs only [go_sem]
  refine hp1.field (f:=0) (off:=0) (t:=9) rfl uStr fun p2 hp2=> ?_
  have hld:=hp2.part (U:=U) (ty:=9) uStr (by rw [List.getElem_map,uStr1]; exact Nat.le_of_ble_eq_true rfl)
  simp -implicitDefEqProofs only [go_sem,hld,List.getElem_map,fieldA,g1]
  have hxi:i<c.fields.length:=by rw [←ei]; exact hx
  cases d2:(c.fields[i].name==name)
  ·have hne:c.fields[i].name≠name:=by simpa using d2
   simp -implicitDefEqProofs only [go_sem,d2]
   refine .stage (pick H [k,i1,i2]) [0,1,2,3,4,5,6,7,8,9,10,11,12] [13] pick_sub (by kernel_rfl) ?_
   simp -implicitDefEqProofs only [go_sem,pick_at (show k∈ [k,i1,i2] by simp),pick_at (show i1∈ [k,i1,i2] by simp),pick_at (show i2∈ [k,i1,i2] by simp),gk,g1,g2,hc3]
   refine (insField_ok f _ (fieldA ⟨name,v⟩) i h0 H (hfo.sub hH) (hs0.trans hH) (by omega) (by simpa using hff) rfl (by simp [fieldA,Ab.fit])).mono fun f' H1 ⟨w1,fr,ap⟩=> ?_
   have nk:nid f≠some k:=fun e=>ow_ne ((hfo.sub hH).nid e).2.2 gk ht rfl
   have n1' :nid f≠some i1:=fun e=>(hfo.nid e).2.1 h1
   have n2' :nid f≠some i2:=fun e=>(hfo.nid e).2.1 n2
   have gk' :H1 k=some (.obj CS t):=(fr k (by rw [gk]; simp) nk).trans gk
   refine ⟨pick_to fun j hj=> ?_, ?_⟩
   ·simp only [List.mem_cons,List.not_mem_nil,or_false] at hj
    rcases hj with rfl|rfl|rfl
    ·exact fr _ (by rw [gk]; simp) nk
    ·exact fr _ (by rw [g1]; simp) n1'
    ·exact fr _ (by rw [g2]; simp) n2'
   simp -implicitDefEqProofs only [go_sem]
   refine ⟨noHeap,hns _, ?_⟩
   simp -implicitDefEqProofs only [go_sem,gk',w1.rd.fit,w1.rd.cells]
   have hk2:nid f'≠some k:=fun e=>by
    rcases ap k e with h|h
    ·rw [gk] at h; cases h
    ·exact nk h
   have em:List.take i (c.fields.map fieldA)++([fieldA ⟨name,v⟩]++List.drop i (c.fields.map fieldA))=(writeD c.fields name v).map fieldA:=by
    rw [writeD_ins hx (by simp only [ei]; exact hne),ei]
    simp [List.map_append,List.map_take,List.map_drop]
   rw [e5]
   rw [em] at w1
   refine ⟨by omega,hns _, .same (.refl _) ⟨f',w1.keep fun id e=>upd_other _ _ fun e' =>hk2 (by rw [←e']; exact e),upd_same ..,fun j hj hjk hjl=> ?_,fun j hj=> ?_⟩⟩
   ·rw [upd_other _ _ hjk,fr j (by rw [hoj j hj]; exact hj) hjl,hoj j hj]
   ·rcases ap j hj with h|h
    ·exact .inl (hH.none h)
    ·exact .inr h
  ·have heq:c.fields[i].name=name:=by simpa using d2
   simp -implicitDefEqProofs only [go_sem,d2]
   refine ⟨.of (by kernel_rfl), ?_⟩
   simp -implicitDefEqProofs only [go_sem,gk,g2,hc3]
   obtain ⟨id1,hg1,o1⟩:=(hfo.sub hH).ow (by intro e; rw [e] at hxm; cases hxm)
   have t1:id1≠k:=ow_ne o1 gk ht
   have o1' :=o1
   obtain ⟨cap,rest,ey,hid,hr,hcap,hsz⟩:=o1'
   refine o1.idx (U:=U) (e:=131) i rfl hxm uField (by decide) ?_
   simp -implicitDefEqProofs only [go_sem,hid]
   have hxl:=List.getElem_map (f:=fieldA) (l:=c.fields) (i:=i) (h:=hxm)
   have e2:List.take (i*4+1) (flatA (c.fields.map fieldA)++rest)++ [.v (.int .i64 v.kind), .v (.int .i64 v.n), .s v.s]++List.drop (i*4+1+3) (flatA (c.fields.map fieldA)++rest)=flatA ((writeD c.fields name v).map fieldA)++rest:=by
    refine (put_flat hsz i hxm 1 [.v (.int .i64 v.kind), .v (.int .i64 v.n), .s v.s] (Nat.le_of_ble_eq_true rfl)).trans ?_
    rw [writeD_set hx (by simp only [ei]; exact heq),ei,List.map_set,hxl]
    have:AV.agg (over (fieldA c.fields[i]).cells 1 [.v (.int .i64 v.kind), .v (.int .i64 v.n), .s v.s])=fieldA ⟨name,v⟩:=by rw [←heq]; rfl
    rw [this]
   have lw:(writeD c.fields name v).length=c.fields.length:=by rw [writeD_set hx (by simp only [ei]; exact heq),List.length_set]
   rw [e2]
   refine ⟨by rw [List.length_append,flatA_length hsz]; omega, .same (.refl _) ⟨f, .inr ⟨id1,hg1,cap,rest,by rw [ey]; simp [lw],upd_same ..,by rw [hr]; simp [lw],by rw [List.length_map] at hcap⊢; omega,sized_map (f:=fieldA) (n:=4) (fun _=>rfl) _⟩,(upd_other _ _ t1.symm).trans (by rw [eCS]; exact gk),fun j hj hjk hjl=> ?_,fun j hj=> .inr hj⟩⟩
   have:j≠id1:=fun e=>hjl (by rw [e]; exact o1.nid)
   rw [upd_other _ _ this,hoj j hj]
 ·have e1:ixD (fun f=>geB f.name name) c.fields= -1:=by rw [ixD]; exact if_neg hx
  have d1:decide ((-1:Int)<0)=true:=rfl
  rw [e1]
  simp -implicitDefEqProofs only [go_sem,d1]
  refine .stage (pick H [k,i1,i2]) [0,1,2,3,4,5,6,7,8,9,10,11] [12] pick_sub (by kernel_rfl) ?_
  simp -implicitDefEqProofs only [go_sem,pick_at (show k∈ [k,i1,i2] by simp),pick_at (show i1∈ [k,i1,i2] by simp),pick_at (show i2∈ [k,i1,i2] by simp),gk,g1,g2,hc3]
  have hap1:Rd H 4 (.sl [fieldA ⟨name,v⟩] .full) [fieldA ⟨name,v⟩]:= .sl (by intro z hz; rw [List.mem_singleton.1 hz]; rfl) .full
  refine OwE.app (U:=U) (tb:=131) (hfo.sub hH) (hs0.trans hH) hap1 (by simp only [go_sem]) (by decide) (by simp only [go_sem,ne_eq,not_false_eq_true]) (by simp only [go_sem]) (by simp) (by simp only [go_sem,List.length_cons,List.length_nil,List.length_map]; omega) fun id2 y' h' g3 hor hw ho2=> ?_
  have hor' :H id2=none∨nid f=some id2:=by
   rcases hor with hor|⟨l,c,ey⟩
   ·exact .inl hor
   ·exact .inr (by rw [ey]; rfl)
  have k2:k≠id2:=by
   rcases hor' with hor|hor
   ·exact fun e=>by rw [←e,gk] at hor; cases hor
   ·exact (ow_ne ((hfo.sub hH).nid hor).2.2 gk ht).symm
  have j1:i1≠id2:=by
   rcases hor' with hor|hor
   ·exact fun e=>by rw [←e,g1] at hor; cases hor
   ·exact fun e=>(hfo.nid hor).2.1 (by rw [←e]; exact h1)
  have j2:i2≠id2:=by
   rcases hor' with hor|hor
   ·exact fun e=>by rw [←e,g2] at hor; cases hor
   ·exact fun e=>(hfo.nid hor).2.1 (by rw [←e]; exact n2)
  refine ⟨pick_to fun j hj=>ho2 j ?_, ?_⟩
  ·simp only [List.mem_cons,List.not_mem_nil,or_false] at hj
   rcases hj with rfl|rfl|rfl
   ·exact k2
   ·exact j1
   ·exact j2
  have gk' :=(ho2 k k2).trans gk
  simp -implicitDefEqProofs only [go_sem]
  refine ⟨noHeap,hns _, ?_⟩
  simp -implicitDefEqProofs only [go_sem,gk',hw.rd.fit,hw.rd.cells]
  rw [e5,writeD_app hx]
  refine ⟨by omega,hns _, .same (.refl _) ⟨y', ?_,upd_same ..,fun j hj hjk hjl=> ?_,fun j hj=> ?_⟩⟩
  ·have hw' :Ow 131 (upd h' k (some (.obj (A++(caseL c y' l++B)) t))) 4 id2 y' (c.fields.map fieldA++ [fieldA ⟨name,v⟩]):=hw.same (upd_other _ _ k2.symm)
   rw [List.map_append]
   exact .inr ⟨id2,g3,hw'⟩
  ·have hj2:j≠id2:=by
    rcases hor' with hor|hor
    ·intro e
     have:=hoj j hj
     rw [e,hor] at this
     exact hj (by rw [e]; exact this.symm)
    ·exact fun e=>hjl (by rw [e]; exact hor)
   rw [upd_other _ _ hjk,ho2 j hj2,hoj j hj]
  ·have:id2=j:=by have:=hw.nid; rw [hj] at this; exact (Option.some.inj this).symm
   rw [←this]
   rcases hor' with hor|hor
   ·exact .inl (hH.none hor)
   ·exact .inr hor
end Go.Proofs.YtmlhcdeamjkpjaaGreatDoor

set_option linter.unusedSimpArgs false
set_option linter.unusedVariables false
namespace Go.Proofs.YtmlhcdeamjkpjaaGreatDoor
open Go Go.Ab Go.Bf
theorem caseD_at {cs:List CaseD} {id:Txt} (h:thereD cs id=true):caseD cs id=cs[findD cs id]'(thereD_lt h):=by
 unfold caseD
 rw [if_pos h,List.getD_eq_getElem?_getD,List.getElem?_eq_getElem (thereD_lt h)]; rfl
theorem caseD_no {cs:List CaseD} {id:Txt} (h:thereD cs id=false):caseD cs id=zeroCase:=by
 unfold caseD
 rw [if_neg (by simp [h])]
theorem frz_empty {g h:Heap} {p:Perm}:Frz g h (.sl [] p) (.sl [] .no):= .sl _ _ _ rfl (fun i h1=>by cases h1) (fun i h1=>by cases h1)
theorem frz_case {g h:Heap} (c:CaseD):Frz g h (caseA c) (caseA c):= .agg _ _ rfl fun j a b=>by
 rcases j with _|_|_|_|_|j
 ·exact .pure rfl
 ·exact .pure rfl
 ·exact .pure rfl
 ·exact .pure (show pureB (fieldsA c.fields)=true from pureL_map (fun _=>rfl) c.fields)
 ·exact .pure (show pureB (logA c.log)=true from pureL_map (fun _=>rfl) c.log)
 ·simp [caseC] at a; omega
set_option maxRecDepth 100000 in
theorem case_ok {h:Heap} {x:AV} {s:StoreD} (hb:RdS h x s) (id:Txt) (hf:Few s):FnOK Tryz.prog 27 [x, .s id] h fun r h' =>r= .tup [caseA (caseD s.cases id), .v (.bool (thereD s.cases id))]∧h' =h:=
 FnOK.freeze fun g hg _=>by
 replace hb:=hb.sub hg
 have hb0:=hb
 obtain ⟨y1,y2,y3,y4,rfl,⟨xs,hc,hn,hcs⟩,h2,h3,h4⟩:=hb
 cases hpp:s.policy with
 |mk pid pset palg ptgt prules pkids pobls=>
 have hcC:polC (.mk pid pset palg ptgt prules pkids pobls)= [.s pid, .v (.bool pset), .v (.int .i64 palg),tgtA ptgt, .sl (prules.map ruleA) .no, .sl (pkids.map polA) .no,oblsA pobls]:=by simp [polC,kidsA_eq]
 rw [hpp,hcC] at hb0
 refine FnOK.body hU hm Tryz.func27 rfl (by kernel_rfl) 23 rfl [.cell 4 57, .tmp 5] rfl (Nat.le_of_ble_eq_true rfl) (fun hwf=> ?_)
 simp -implicitDefEqProofs only [go_sem,hcC,List.cons_append,List.nil_append]
 intro i1 h1
 simp -implicitDefEqProofs only [go_sem]
 intro i2 h2'
 have n21:=ne_upd h2'
 have n2:=upd_none h2'
 simp -implicitDefEqProofs only [go_sem,upd_ne,n21,n21.symm]
 have hs:∀a b,Ab.Sub g (upd (upd g i1 a) i2 b):=fun a b=>((Sub.refl g).put h1 a).put n2 b
 refine (find_ok (hb0.sub (hs _ _)) id hf.cases).pthen ?_
 cases d1:thereD s.cases id
 ·simp -implicitDefEqProofs only [go_sem,upd_ne,n21,n21.symm]
  refine .mk _ (.refl _) (.refl _) ⟨hs _ _, .tup [.agg [.s [], .s [], .s [], .sl [] .no, .sl [] .no], .v (.bool false)], .tup _ _ rfl fun i a b=> ?_,by rw [caseD_no d1]; rfl⟩
  rcases i with _|_|i
  ·refine .agg _ _ rfl fun j c d=> ?_
   rcases j with _|_|_|_|_|j
   ·exact .pure rfl
   ·exact .pure rfl
   ·exact .pure rfl
   ·exact frz_empty
   ·exact frz_empty
   ·simp at c; omega
  ·exact .pure rfl
  ·simp at a; omega
 ·have hlt:=thereD_lt d1
  have hltx:findD s.cases id<xs.length:=by omega
  obtain ⟨f,l,ex,hfl,hlg⟩:=hcs _ hltx hlt
  simp -implicitDefEqProofs only [go_sem,upd_ne,n21,n21.symm]
  refine hc.idx (e:=57) (findD s.cases id) rfl hltx uCase (by decide) fun p hp1=> ?_
  have hld:=fun a b=>(hp1.sub (hs a b)).all (U:=U) (ty:=57) (by simp only [go_sem]) (by rw [uCase,ex]; rfl) (by simp only [go_sem]; rw [ex]; rfl)
  simp -implicitDefEqProofs only [go_sem,hld,upd_ne,n21,n21.symm]
  refine (ownCasep_ok ((hcs _ hltx hlt).sub (hs _ _)) (hf.fields _ (List.getElem_mem hlt)) (hf.log _ (List.getElem_mem hlt))).pthen ?_
  rw [←caseD_at d1]
  simp -implicitDefEqProofs only [go_sem,caseA,caseC,fieldsA,logA,upd_ne,n21,n21.symm]
  refine .mk _ (.refl _) (.refl _) ⟨hs _ _,_, .tup _ _ rfl fun i a b=> ?_,rfl⟩
  rcases i with _|_|i
  ·exact frz_case _
  ·exact .pure rfl
  ·simp at a; omega
set_option maxRecDepth 100000 in
theorem readyCase_ok {h:Heap} {x:AV} {s:StoreD} (hb:RdS h x s) (o:OpD) (hf:Few s):FnOK Tryz.prog 64 [x,opA o] h fun r h' =>r= .v (.int .i64 (readyCaseD s o))∧h' =h:=by
 have hb0:=hb
 obtain ⟨y1,y2,y3,y4,rfl,⟨xs,hc,hn,hcs⟩,h2,h3,h4⟩:=hb
 cases hpp:s.policy with
 |mk pid pset palg ptgt prules pkids pobls=>
 have hcC:polC (.mk pid pset palg ptgt prules pkids pobls)= [.s pid, .v (.bool pset), .v (.int .i64 palg),tgtA ptgt, .sl (prules.map ruleA) .no, .sl (pkids.map polA) .no,oblsA pobls]:=by simp [polC,kidsA_eq]
 rw [hpp,hcC] at hb0
 refine FnOK.body hU hm Tryz.func64 rfl (by kernel_rfl) 67 rfl [.tmp 4] rfl (Nat.le_of_ble_eq_true rfl) (fun hwf=> ?_)
 simp -implicitDefEqProofs only [go_sem,hcC,opA,opC,List.cons_append,List.nil_append]
 intro i1 h1
 simp -implicitDefEqProofs only [go_sem]
 intro i2 h2'
 have n21:=ne_upd h2'
 have n2:=upd_none h2'
 simp -implicitDefEqProofs only [go_sem,upd_ne,n21,n21.symm]
 have hs:∀a b,Ab.Sub h (upd (upd h i1 a) i2 b):=fun a b=>((Sub.refl h).put h1 a).put n2 b
 refine (case_ok (hb0.sub (hs _ _)) o.case hf).pthen ?_
 simp -implicitDefEqProofs only [go_sem,caseA,caseC,fieldsA,logA]
 intro i3 h3'
 have n32:=ne_upd h3'
 have h3b:=upd_none h3'
 have n31:=ne_upd h3b
 have n3:=upd_none h3b
 have hs3:∀a b d,Ab.Sub h (upd (upd (upd h i1 a) i2 b) i3 d):=fun a b d=>(((Sub.refl h).put h1 a).put n2 b).put n3 d
 have hA:=(fun a b d=>Sub.trans (Sub.refl h) (hs3 a b d))
 simp -implicitDefEqProofs only [go_sem,upd_ne,n21,n21.symm,n31,n31.symm,n32,n32.symm]
 have hfl:(caseD s.cases o.case).fields.length≤1000000000:=by
  unfold caseD
  split
  ·rename_i ht
   have hlt:=thereD_lt ht
   rw [List.getD_eq_getElem?_getD,List.getElem?_eq_getElem hlt]
   exact Nat.le_trans (hf.fields _ (List.getElem_mem hlt)) (by decide)
  ·exact Nat.zero_le _
 cases d1:thereD s.cases o.case
 ·simp -implicitDefEqProofs only [go_sem,upd_ne,n21,n21.symm,n31,n31.symm,n32,n32.symm]
  exact .mk _ (.refl _) (hs3 _ _ _) ⟨by simp only [readyCaseD,d1]; rfl,rfl⟩
 ·simp -implicitDefEqProofs only [go_sem,upd_ne,n21,n21.symm,n31,n31.symm,n32,n32.symm]
  cases k3:(o.kind==3)
  ·have p3:o.kind≠3:=by simpa using k3
   simp -implicitDefEqProofs only [go_sem,upd_ne,n21,n21.symm,n31,n31.symm,n32,n32.symm,List.length_map,k3]
   cases k2:(o.kind==2)
   ·have p2:o.kind≠2:=by simpa using k2
    have k2n:(o.kind !=2)=true:=by simp [bne,k2]
    cases d256:decide ((256:Int)≤((caseD s.cases o.case).log.length:Int))
    ·have p256:¬256≤(caseD s.cases o.case).log.length:=by have:=of_decide_eq_false d256; omega
     simp -implicitDefEqProofs only [go_sem,upd_ne,n21,n21.symm,n31,n31.symm,n32,n32.symm,List.length_map,k3,k2,k2n,d256]
     cases k4:(o.kind==4)
     ·have p4:o.kind≠4:=by simpa using k4
      simp -implicitDefEqProofs only [go_sem,upd_ne,n21,n21.symm,n31,n31.symm,n32,n32.symm,List.length_map,k3,k2,k2n,d256,k4]
      exact .mk _ (.refl _) (hs3 _ _ _) ⟨by simp [readyCaseD,d1,p3,p2,p256,p4,oneOr],rfl⟩
     ·have p4:o.kind=4:=by simpa using k4
      simp -implicitDefEqProofs only [go_sem,upd_ne,n21,n21.symm,n31,n31.symm,n32,n32.symm,List.length_map,k3,k2,k2n,d256,k4]
      refine (follows_ok _ _ _).pthen ?_
      cases dfo:followsD (caseD s.cases o.case).state o.to
      ·simp -implicitDefEqProofs only [go_sem,upd_ne,n21,n21.symm,n31,n31.symm,n32,n32.symm,List.length_map,k3,k2,k2n,d256,k4,dfo]
       exact .mk _ (.refl _) (hs3 _ _ _) ⟨by simp [readyCaseD,d1,p3,p2,p256,p4,dfo,oneOr],rfl⟩
      ·simp -implicitDefEqProofs only [go_sem,upd_ne,n21,n21.symm,n31,n31.symm,n32,n32.symm,List.length_map,k3,k2,k2n,d256,k4,dfo]
       exact .mk _ (.refl _) (hs3 _ _ _) ⟨by simp [readyCaseD,d1,p3,p2,p256,p4,dfo,oneOr],rfl⟩
    ·have p256:256≤(caseD s.cases o.case).log.length:=by have:=of_decide_eq_true d256; omega
     simp -implicitDefEqProofs only [go_sem,upd_ne,n21,n21.symm,n31,n31.symm,n32,n32.symm,List.length_map,k3,k2,k2n,d256]
     exact .mk _ (.refl _) (hs3 _ _ _) ⟨by simp [readyCaseD,d1,p3,p2,p256,oneOr],rfl⟩
   ·have p2:o.kind=2:=by simpa using k2
    have k2n:(o.kind !=2)=false:=by simp [bne,k2]
    simp -implicitDefEqProofs only [go_sem,upd_ne,n21,n21.symm,n31,n31.symm,n32,n32.symm,List.length_map,k3,k2,k2n]
    cases k4:(o.kind==4)
    ·have p4:o.kind≠4:=by simpa using k4
     simp -implicitDefEqProofs only [go_sem,upd_ne,n21,n21.symm,n31,n31.symm,n32,n32.symm,List.length_map,k3,k2,k2n,k4]
     exact .mk _ (.refl _) (hs3 _ _ _) ⟨by simp [readyCaseD,d1,p3,p2,p4,oneOr],rfl⟩
    ·have p4:o.kind=4:=by simpa using k4
     omega
  ·have p3:o.kind=3:=by simpa using k3
   cases d16:decide ((16:Int)≤((caseD s.cases o.case).fields.length:Int))
   ·have p16:¬16≤(caseD s.cases o.case).fields.length:=by have:=of_decide_eq_false d16; omega
    simp -implicitDefEqProofs only [go_sem,upd_ne,n21,n21.symm,n31,n31.symm,n32,n32.symm,List.length_map,k3,d16]
    cases k2:(o.kind==2)
    ·have p2:o.kind≠2:=by simpa using k2
     have k2n:(o.kind !=2)=true:=by simp [bne,k2]
     cases d256:decide ((256:Int)≤((caseD s.cases o.case).log.length:Int))
     ·have p256:¬256≤(caseD s.cases o.case).log.length:=by have:=of_decide_eq_false d256; omega
      simp -implicitDefEqProofs only [go_sem,upd_ne,n21,n21.symm,n31,n31.symm,n32,n32.symm,List.length_map,k3,d16,k2,k2n,d256]
      cases dcl:((caseD s.cases o.case).state==closedT)
      ·have pcl:(caseD s.cases o.case).state≠closedT:=by simpa using dcl
       simp only [closedT] at dcl
       simp -implicitDefEqProofs only [go_sem,upd_ne,n21,n21.symm,n31,n31.symm,n32,n32.symm,List.length_map,k3,d16,k2,k2n,d256,dcl]
       cases k4:(o.kind==4)
       ·have p4:o.kind≠4:=by simpa using k4
        simp -implicitDefEqProofs only [go_sem,upd_ne,n21,n21.symm,n31,n31.symm,n32,n32.symm,List.length_map,k3,d16,k2,k2n,d256,dcl,k4]
        exact .mk _ (.refl _) (hs3 _ _ _) ⟨by simp [readyCaseD,d1,p3,p16,p2,p256,pcl,p4,oneOr],rfl⟩
       ·have p4:o.kind=4:=by simpa using k4
        omega
      ·have pcl:(caseD s.cases o.case).state=closedT:=by simpa using dcl
       simp only [closedT] at dcl
       simp -implicitDefEqProofs only [go_sem,upd_ne,n21,n21.symm,n31,n31.symm,n32,n32.symm,List.length_map,k3,d16,k2,k2n,d256,dcl]
       exact .mk _ (.refl _) (hs3 _ _ _) ⟨by simp [readyCaseD,d1,p3,p16,p2,p256,pcl,oneOr],rfl⟩
     ·have p256:256≤(caseD s.cases o.case).log.length:=by have:=of_decide_eq_true d256; omega
      simp -implicitDefEqProofs only [go_sem,upd_ne,n21,n21.symm,n31,n31.symm,n32,n32.symm,List.length_map,k3,d16,k2,k2n,d256]
      exact .mk _ (.refl _) (hs3 _ _ _) ⟨by simp [readyCaseD,d1,p3,p16,p2,p256,oneOr],rfl⟩
    ·have p2:o.kind=2:=by simpa using k2
     omega
   ·have p16:16≤(caseD s.cases o.case).fields.length:=by have:=of_decide_eq_true d16; omega
    simp -implicitDefEqProofs only [go_sem,upd_ne,n21,n21.symm,n31,n31.symm,n32,n32.symm,List.length_map,k3,d16]
    refine (field_ok (show RdC _ (.agg [.s (caseD s.cases o.case).id, .s (caseD s.cases o.case).owner, .s (caseD s.cases o.case).state,AV.sl ((caseD s.cases o.case).fields.map fieldA) .no,AV.sl ((caseD s.cases o.case).log.map hapA) .no]) (caseD s.cases o.case) from rdC _ _) o.field hfl).pthen ?_
    simp -implicitDefEqProofs only [go_sem,upd_ne,n21,n21.symm,n31,n31.symm,n32,n32.symm,List.length_map,k3,d16,valA]
    cases dv:((fieldD (caseD s.cases o.case).fields o.field).kind==(0:Int) && ((fieldD (caseD s.cases o.case).fields o.field).n==(0:Int) && (fieldD (caseD s.cases o.case).fields o.field).s==([]:Txt)))
    ·have pv:eqV (fieldD (caseD s.cases o.case).fields o.field) zeroVal=false:=dv
     simp -implicitDefEqProofs only [go_sem,upd_ne,n21,n21.symm,n31,n31.symm,n32,n32.symm,List.length_map,k3,d16,dv]
     cases k2:(o.kind==2)
     ·have p2:o.kind≠2:=by simpa using k2
      have k2n:(o.kind !=2)=true:=by simp [bne,k2]
      cases d256:decide ((256:Int)≤((caseD s.cases o.case).log.length:Int))
      ·have p256:¬256≤(caseD s.cases o.case).log.length:=by have:=of_decide_eq_false d256; omega
       simp -implicitDefEqProofs only [go_sem,upd_ne,n21,n21.symm,n31,n31.symm,n32,n32.symm,List.length_map,k3,d16,dv,k2,k2n,d256]
       cases dcl:((caseD s.cases o.case).state==closedT)
       ·have pcl:(caseD s.cases o.case).state≠closedT:=by simpa using dcl
        simp only [closedT] at dcl
        simp -implicitDefEqProofs only [go_sem,upd_ne,n21,n21.symm,n31,n31.symm,n32,n32.symm,List.length_map,k3,d16,dv,k2,k2n,d256,dcl]
        cases k4:(o.kind==4)
        ·have p4:o.kind≠4:=by simpa using k4
         simp -implicitDefEqProofs only [go_sem,upd_ne,n21,n21.symm,n31,n31.symm,n32,n32.symm,List.length_map,k3,d16,dv,k2,k2n,d256,dcl,k4]
         exact .mk _ (.refl _) (hs3 _ _ _) ⟨by simp [readyCaseD,d1,p3,p16,pv,p2,p256,pcl,p4,oneOr],rfl⟩
        ·have p4:o.kind=4:=by simpa using k4
         omega
       ·have pcl:(caseD s.cases o.case).state=closedT:=by simpa using dcl
        simp only [closedT] at dcl
        simp -implicitDefEqProofs only [go_sem,upd_ne,n21,n21.symm,n31,n31.symm,n32,n32.symm,List.length_map,k3,d16,dv,k2,k2n,d256,dcl]
        exact .mk _ (.refl _) (hs3 _ _ _) ⟨by simp [readyCaseD,d1,p3,p16,pv,p2,p256,pcl,oneOr],rfl⟩
      ·have p256:256≤(caseD s.cases o.case).log.length:=by have:=of_decide_eq_true d256; omega
       simp -implicitDefEqProofs only [go_sem,upd_ne,n21,n21.symm,n31,n31.symm,n32,n32.symm,List.length_map,k3,d16,dv,k2,k2n,d256]
       exact .mk _ (.refl _) (hs3 _ _ _) ⟨by simp [readyCaseD,d1,p3,p16,pv,p2,p256,oneOr],rfl⟩
     ·have p2:o.kind=2:=by simpa using k2
      omega
    ·have pv:eqV (fieldD (caseD s.cases o.case).fields o.field) zeroVal=true:=dv
     simp -implicitDefEqProofs only [go_sem,upd_ne,n21,n21.symm,n31,n31.symm,n32,n32.symm,List.length_map,k3,d16,dv]
     exact .mk _ (.refl _) (hs3 _ _ _) ⟨by simp [readyCaseD,d1,p3,p16,pv,oneOr],rfl⟩
set_option maxRecDepth 100000 in
theorem readyClose_ok {h:Heap} {x:AV} {s:StoreD} (hb:RdS h x s) (o:OpD) (hf:Few s) (h0:0<o.review) (hr:o.review≤9223372036854775807):FnOK Tryz.prog 65 [x,opA o] h fun r h' =>r= .v (.int .i64 (readyCloseD s o))∧h' =h:=by
 obtain ⟨y1,y2,y3,y4,rfl,⟨xs,hc,hn,hcs⟩,h2,h3,h4⟩:=hb
 cases hpp:s.policy with
 |mk pid pset palg ptgt prules pkids pobls=>
 have hcC:polC (.mk pid pset palg ptgt prules pkids pobls)= [.s pid, .v (.bool pset), .v (.int .i64 palg),tgtA ptgt, .sl (prules.map ruleA) .no, .sl (pkids.map polA) .no,oblsA pobls]:=by simp [polC,kidsA_eq]
 have hfr:=hf.reviews
 refine FnOK.body hU hm Tryz.func65 rfl (by kernel_rfl) 35 rfl [.tmp 4] rfl (Nat.le_of_ble_eq_true rfl) (fun hwf=> ?_)
 simp -implicitDefEqProofs only [go_sem,hcC,opA,opC,List.cons_append,List.nil_append]
 intro i1 h1
 simp -implicitDefEqProofs only [go_sem]
 intro i2 h2'
 have n21:=ne_upd h2'
 have n2:=upd_none h2'
 have hs:∀a b,Ab.Sub h (upd (upd h i1 a) i2 b):=fun a b=>((Sub.refl h).put h1 a).put n2 b
 simp -implicitDefEqProofs only [go_sem,upd_ne,n21,n21.symm,h2.len,List.length_map]
 obtain ⟨n,en⟩:∃n:Nat,o.review=((n:Nat):Int)+1:=⟨(o.review - 1).toNat,by omega⟩
 have e1:revAt s.reviews o.review=s.reviews[n]? :=by
  unfold revAt
  rw [if_pos (by omega),show (o.review - 1).toNat=n by omega]
 have w1:IntKind.i64.wrap (o.review - 1)=((n:Nat):Int):=by rw [wr64 _ (by omega)]; omega
 cases dlt:decide ((s.reviews.length:Int)<o.review)
 ·have hlt:n<s.reviews.length:=by have:=of_decide_eq_false dlt; omega
  have hgl:revAt s.reviews o.review=some s.reviews[n]:=by rw [e1,List.getElem?_eq_getElem hlt]
  simp -implicitDefEqProofs only [go_sem,upd_ne,n21,n21.symm,dlt,w1]
  refine h2.idx (e:=82) n rfl (by simpa using hlt) (by simp only [go_sem]) (by decide) fun p hp1=> ?_
  simp -implicitDefEqProofs only [go_sem,upd_ne,n21,n21.symm,dlt,w1]
  refine hp1.field (f:=6) (off:=6) (t:=4) rfl (by simp only [go_sem]) fun p2 hp2=> ?_
  have hld:=fun a b=>(hp2.sub (hs a b)).part (U:=U) (ty:=4) (by simp only [go_sem]) (by rw [List.getElem_map,show (U 4).sz=1 by simp only [go_sem]]; exact Nat.le_of_ble_eq_true rfl)
  simp -implicitDefEqProofs only [go_sem,hld,List.getElem_map,revA,upd_ne,n21,n21.symm,dlt,w1]
  cases dop:s.reviews[n].isOpen
  ·simp -implicitDefEqProofs only [go_sem,upd_ne,n21,n21.symm,dlt,dop]
   exact .mk _ (.refl _) (hs _ _) ⟨by simp [readyCloseD,hgl,dop,oneOr],rfl⟩
  ·simp -implicitDefEqProofs only [go_sem,upd_ne,n21,n21.symm,dlt,dop]
   refine ⟨.of (by kernel_rfl), ?_⟩
   simp -implicitDefEqProofs only [go_sem,upd_ne,n21,n21.symm,dlt,w1]
   refine h2.idx (e:=82) n rfl (by simpa using hlt) (by simp only [go_sem]) (by decide) fun p hp1=> ?_
   simp -implicitDefEqProofs only [go_sem,upd_ne,n21,n21.symm,dlt,w1]
   refine hp1.field (f:=2) (off:=2) (t:=9) rfl uStr fun p2 hp2=> ?_
   have hld:=fun a b=>(hp2.sub (hs a b)).part (U:=U) (ty:=9) uStr (by rw [List.getElem_map,uStr1]; exact Nat.le_of_ble_eq_true rfl)
   simp -implicitDefEqProofs only [go_sem,hld,List.getElem_map,revA,upd_ne,n21,n21.symm,dlt,w1]
   cases dsu:(s.reviews[n].subj==o.subj)
   ·have psu:s.reviews[n].subj≠o.subj:=by simpa using dsu
    simp -implicitDefEqProofs only [go_sem,upd_ne,n21,n21.symm,dsu]
    exact .mk _ (.refl _) (hs _ _) ⟨by simp [readyCloseD,hgl,dop,psu,oneOr],rfl⟩
   ·have psu:s.reviews[n].subj=o.subj:=by simpa using dsu
    simp -implicitDefEqProofs only [go_sem,upd_ne,n21,n21.symm,dsu]
    exact .mk _ (.refl _) (hs _ _) ⟨by simp [readyCloseD,hgl,dop,psu,oneOr],rfl⟩
 ·have hge:¬n<s.reviews.length:=by have:=of_decide_eq_true dlt; omega
  have hgn:revAt s.reviews o.review=none:=by rw [e1,List.getElem?_eq_none (by omega)]
  simp -implicitDefEqProofs only [go_sem,upd_ne,n21,n21.symm,dlt]
  exact .mk _ (.refl _) (hs _ _) ⟨by simp [readyCloseD,hgn,oneOr],rfl⟩
set_option maxRecDepth 100000 in
theorem ready_ok {h:Heap} {x:AV} {s:StoreD} (hb:RdS h x s) (o:OpD) (hf:Few s) (hr:i64 o.review) (ht:i64 s.tick):FnOK Tryz.prog 21 [x,opA o] h fun r h' =>r= .v (.int .i64 (readyD s o))∧h' =h:=by
 have hb0:=hb
 have hfo:=form_ok o
 have hrc:=fun (G:Heap) (hG:Ab.Sub h G)=>readyCase_ok (hb.sub hG) o hf
 have hrl:=fun (G:Heap) (hG:Ab.Sub h G) (a:0<o.review)=>readyClose_ok (hb.sub hG) o hf a hr.2
 have hfi:=fun (G:Heap) (hG:Ab.Sub h G)=>find_ok (hb.sub hG) o.case hf.cases
 have hha:=fun (G:Heap) (hG:Ab.Sub h G)=>has_ok (hb.sub hG) o.case o.field (Nat.le_trans hf.roles (by decide))
 obtain ⟨y1,y2,y3,y4,rfl,⟨xs,hc,hn,hcs⟩,h2,h3,h4⟩:=hb
 cases hpp:s.policy with
 |mk pid pset palg ptgt prules pkids pobls=>
 have hcC:polC (.mk pid pset palg ptgt prules pkids pobls)= [.s pid, .v (.bool pset), .v (.int .i64 palg),tgtA ptgt, .sl (prules.map ruleA) .no, .sl (pkids.map polA) .no,oblsA pobls]:=by simp [polC,kidsA_eq]
 rw [hpp,hcC] at hb0 hrc hrl hfi hha
 simp only [opA,opC,List.cons_append,List.nil_append] at hfo hrc hrl hfi hha
 refine FnOK.body hU hm Tryz.func21 rfl (by kernel_rfl) 63 rfl [.tmp 4] rfl (Nat.le_of_ble_eq_true rfl) (fun hwf=> ?_)
 simp -implicitDefEqProofs only [go_sem,hcC,opA,opC,List.cons_append,List.nil_append]
 intro i1 h1
 simp -implicitDefEqProofs only [go_sem]
 intro i2 h2'
 have n21:=ne_upd h2'
 have n2:=upd_none h2'
 have hs:∀a b,Ab.Sub h (upd (upd h i1 a) i2 b):=fun a b=>((Sub.refl h).put h1 a).put n2 b
 simp -implicitDefEqProofs only [go_sem,upd_ne,n21,n21.symm]
 refine (hfo _).pthen ?_
 cases dform:formD o
 ·simp -implicitDefEqProofs only [go_sem,upd_ne,n21,n21.symm,dform]
  exact .mk _ (.refl _) (hs _ _) ⟨by simp [readyD,dform,oneOr],rfl⟩
 ·simp -implicitDefEqProofs only [go_sem,upd_ne,n21,n21.symm,dform]
  have hok:okD o=true:=by simp only [formD,takesD,Bool.and_eq_true] at dform; exact dform.2.1.2
  by_cases p1:o.kind=1
  ·have k1:(o.kind==1)=true:=by simp [p1]
   simp -implicitDefEqProofs only [go_sem,upd_ne,n21,n21.symm,k1]
   refine (hfi _ (hs _ _)).pthen ?_
   cases dth:thereD s.cases o.case
   ·simp -implicitDefEqProofs only [go_sem,upd_ne,n21,n21.symm,k1,dth,hc.len,hn]
    cases d64:decide ((64:Int)≤(s.cases.length:Int))
    ·have p64:¬64≤s.cases.length:=by have:=of_decide_eq_false d64; omega
     simp -implicitDefEqProofs only [go_sem,upd_ne,n21,n21.symm,k1,dth,hc.len,hn,d64]
     exact .mk _ (.refl _) (hs _ _) ⟨by simp [readyD,dform,p1,dth,p64,oneOr],rfl⟩
    ·have p64:64≤s.cases.length:=by have:=of_decide_eq_true d64; omega
     simp -implicitDefEqProofs only [go_sem,upd_ne,n21,n21.symm,k1,dth,hc.len,hn,d64]
     exact .mk _ (.refl _) (hs _ _) ⟨by simp [readyD,dform,p1,dth,p64,oneOr],rfl⟩
   ·simp -implicitDefEqProofs only [go_sem,upd_ne,n21,n21.symm,k1,dth]
    exact .mk _ (.refl _) (hs _ _) ⟨by simp [readyD,dform,p1,dth,oneOr],rfl⟩
  have k1:(o.kind==1)=false:=by simp [p1]
  simp -implicitDefEqProofs only [go_sem,upd_ne,n21,n21.symm,k1]
  by_cases p2:o.kind=2
  ·have k2:(o.kind==2)=true:=by simp [p2]
   simp -implicitDefEqProofs only [go_sem,upd_ne,n21,n21.symm,k1,k2]
   refine (hrc _ (hs _ _)).pthen ?_
   simp -implicitDefEqProofs only [go_sem,upd_ne,n21,n21.symm,k1,k2]
   exact .mk _ (.refl _) (hs _ _) ⟨by simp [readyD,dform,p1,p2,oneOr],rfl⟩
  have k2:(o.kind==2)=false:=by simp [p2]
  simp -implicitDefEqProofs only [go_sem,upd_ne,n21,n21.symm,k1,k2]
  by_cases p3:o.kind=3
  ·have k3:(o.kind==3)=true:=by simp [p3]
   simp -implicitDefEqProofs only [go_sem,upd_ne,n21,n21.symm,k1,k2,k3]
   refine (hrc _ (hs _ _)).pthen ?_
   simp -implicitDefEqProofs only [go_sem,upd_ne,n21,n21.symm,k1,k2,k3]
   exact .mk _ (.refl _) (hs _ _) ⟨by simp [readyD,dform,p1,p2,p3,oneOr],rfl⟩
  have k3:(o.kind==3)=false:=by simp [p3]
  simp -implicitDefEqProofs only [go_sem,upd_ne,n21,n21.symm,k1,k2,k3]
  by_cases p4:o.kind=4
  ·have k4:(o.kind==4)=true:=by simp [p4]
   simp -implicitDefEqProofs only [go_sem,upd_ne,n21,n21.symm,k1,k2,k3,k4]
   refine (hrc _ (hs _ _)).pthen ?_
   simp -implicitDefEqProofs only [go_sem,upd_ne,n21,n21.symm,k1,k2,k3,k4]
   exact .mk _ (.refl _) (hs _ _) ⟨by simp [readyD,dform,p1,p2,p3,p4,oneOr],rfl⟩
  have k4:(o.kind==4)=false:=by simp [p4]
  simp -implicitDefEqProofs only [go_sem,upd_ne,n21,n21.symm,k1,k2,k3,k4]
  by_cases p5:o.kind=5
  ·have k5:(o.kind==5)=true:=by simp [p5]
   simp -implicitDefEqProofs only [go_sem,upd_ne,n21,n21.symm,k1,k2,k3,k4,k5]
   have hrv:0<o.review:=by simpa [okD,p5] using hok
   refine (hrl _ (hs _ _) hrv).pthen ?_
   simp -implicitDefEqProofs only [go_sem,upd_ne,n21,n21.symm,k1,k2,k3,k4,k5]
   exact .mk _ (.refl _) (hs _ _) ⟨by simp [readyD,dform,p1,p2,p3,p4,p5,oneOr],rfl⟩
  have k5:(o.kind==5)=false:=by simp [p5]
  simp -implicitDefEqProofs only [go_sem,upd_ne,n21,n21.symm,k1,k2,k3,k4,k5]
  by_cases p6:o.kind=6
  ·have k6:(o.kind==6)=true:=by simp [p6]
   simp -implicitDefEqProofs only [go_sem,upd_ne,n21,n21.symm,k1,k2,k3,k4,k5,k6]
   simp -implicitDefEqProofs only [go_sem,upd_ne,n21,n21.symm,k1,k2,k3,k4,k5,k6,h4.len,List.length_map]
   cases d64:decide ((64:Int)≤(s.roles.length:Int))
   ·have p64:¬64≤s.roles.length:=by have:=of_decide_eq_false d64; omega
    simp -implicitDefEqProofs only [go_sem,upd_ne,n21,n21.symm,k1,k2,k3,k4,k5,k6,d64]
    exact .mk _ (.refl _) (hs _ _) ⟨by simp [readyD,dform,p1,p2,p3,p4,p5,p6,p64,oneOr],rfl⟩
   ·have p64:64≤s.roles.length:=by have:=of_decide_eq_true d64; omega
    simp -implicitDefEqProofs only [go_sem,upd_ne,n21,n21.symm,k1,k2,k3,k4,k5,k6,d64]
    refine (hha _ (hs _ _)).pthen ?_
    cases dha:hasD s.roles ⟨o.case,o.field⟩
    ·simp -implicitDefEqProofs only [go_sem,upd_ne,n21,n21.symm,k1,k2,k3,k4,k5,k6,d64,dha]
     exact .mk _ (.refl _) (hs _ _) ⟨by simp [readyD,dform,p1,p2,p3,p4,p5,p6,p64,dha,oneOr],rfl⟩
    ·simp -implicitDefEqProofs only [go_sem,upd_ne,n21,n21.symm,k1,k2,k3,k4,k5,k6,d64,dha]
     exact .mk _ (.refl _) (hs _ _) ⟨by simp [readyD,dform,p1,p2,p3,p4,p5,p6,p64,dha,oneOr],rfl⟩
  have k6:(o.kind==6)=false:=by simp [p6]
  simp -implicitDefEqProofs only [go_sem,upd_ne,n21,n21.symm,k1,k2,k3,k4,k5,k6]
  by_cases p8:o.kind=8
  ·have k8:(o.kind==8)=true:=by simp [p8]
   simp -implicitDefEqProofs only [go_sem,upd_ne,n21,n21.symm,k1,k2,k3,k4,k5,k6,k8]
   have hrv:0<o.review∧o.review≤1099511627776:=by simpa [okD,p8] using hok
   have w1:IntKind.i64.wrap (1099511627776 - o.review)=1099511627776 - o.review:=wr64 _ (by omega)
   cases dt:decide (1099511627776 - o.review<s.tick)
   ·have pt:¬1099511627776 - o.review<s.tick:=of_decide_eq_false dt
    simp -implicitDefEqProofs only [go_sem,upd_ne,n21,n21.symm,k1,k2,k3,k4,k5,k6,k8,w1,dt]
    exact .mk _ (.refl _) (hs _ _) ⟨by simp [readyD,dform,p1,p2,p3,p4,p5,p6,p8,pt,oneOr],rfl⟩
   ·have pt:1099511627776 - o.review<s.tick:=of_decide_eq_true dt
    simp -implicitDefEqProofs only [go_sem,upd_ne,n21,n21.symm,k1,k2,k3,k4,k5,k6,k8,w1,dt]
    exact .mk _ (.refl _) (hs _ _) ⟨by simp [readyD,dform,p1,p2,p3,p4,p5,p6,p8,pt,oneOr],rfl⟩
  have k8:(o.kind==8)=false:=by simp [p8]
  simp -implicitDefEqProofs only [go_sem,upd_ne,n21,n21.symm,k1,k2,k3,k4,k5,k6,k8]
  exact .mk _ (.refl _) (hs _ _) ⟨by have:¬(2≤o.kind∧o.kind≤4):=(by omega); simp only [readyD,dform,p1,p5,p6,p8,this,if_false,Bool.true_eq_false,oneOr],rfl⟩
end Go.Proofs.YtmlhcdeamjkpjaaGreatDoor

set_option linter.unusedVariables false
namespace Go.Bf
open Go Go.Ab
structure TokD where
 kind:Int
 pos:Int
 n:Int
 s:Txt
def tokA (t:TokD):AV:= .agg [.v (.int .i64 t.kind), .v (.int .i64 t.pos), .v (.int .i64 t.n), .s t.s]
def wrd (c:UInt8):Bool:=ltr c||dgt c||(c.toNat:Int)==95
def decV (l:Txt):Nat:=l.foldl (fun n c=>n*10+(c.toNat - 48)) 0
def numD (neg:Bool) (s:Txt):Int×Nat:=
 let d:=s.takeWhile dgt
 if d= []∨(1<d.length∧s.head? =some 48) then (0,0) else
 let v:Int:=if neg then -(decV d:Int) else (decV d:Int)
 if -9223372036854775808≤v∧v≤9223372036854775807 then (v,d.length) else (0,0)
def wordD (s:Txt):Txt:=if nameOK (s.takeWhile wrd) then s.takeWhile wrd else []
def hexI (c:UInt8):Int:=if dgt c then (c.toNat:Int) - 48 else if 97≤(c.toNat:Int)∧(c.toNat:Int)≤102 then (c.toNat:Int) - 87 else -1
def oddD:Txt→Option UInt8
 |b::x::y::_=>if b=92∧0≤hexI x∧0≤hexI y∧oddB (UInt8.ofNat (16*hexI x+hexI y).toNat)=true then some (UInt8.ofNat (16*hexI x+hexI y).toNat) else none
 |_=>none
def textF:Nat→Txt→Nat→Txt→Txt×Nat
 |0,_,_,_=>([],0)
 |_+1,[],_,_=>([],0)
 |f+1,c::r,at_,out=>
  if c=34 then (if 64<out.length then ([],0) else (out,at_+1))
  else if oddB c=false then textF f r (at_+1) (out++ [c])
  else match oddD (c::r) with
   |some b=>textF f (r.drop 2) (at_+3) (out++ [b])
   |none=>([],0)
def textD (s:Txt):Txt×Nat:=textF s.length (s.drop 1) 1 []
def markB (c:UInt8):Bool:=c∈([123,125,40,41,46,44,59,61,60,62,33]:Txt)
def beginsD (s:Txt):TokD×Nat:=
 let c:=s.headD 0
 if ltr c then (⟨1,0,0,wordD s⟩,(wordD s).length)
 else if dgt c then (⟨2,0,(numD false s).1,[]⟩,(numD false s).2)
 else if c=45 then (⟨2,0,(numD true (s.drop 1)).1,[]⟩,if (numD true (s.drop 1)).1=0 then 0 else (numD true (s.drop 1)).2+1)
 else if c=64 then (⟨3,0,(numD false (s.drop 1)).1,[]⟩,if (numD false (s.drop 1)).2=0∨(numD false (s.drop 1)).1>1099511627776 then 0 else (numD false (s.drop 1)).2+1)
 else if c=35 then (⟨4,0,0,wordD (s.drop 1)⟩,if wordD (s.drop 1)= [] then 0 else (wordD (s.drop 1)).length+1)
 else if c=34 then (⟨5,0,0,(textD s).1⟩,(textD s).2)
 else if markB c then (⟨6,0,0,[c]⟩,1)
 else (⟨0,0,0,[]⟩,0)
inductive Lexed where
 |bad (e:Int) (at_:Int)
 |ok (l:List TokD)
def blankB (c:UInt8):Bool:=(c.toNat:Int)==32||(c.toNat:Int)==10
def lexF:Nat→Txt→Nat→List TokD→Lexed
 |0,_,at_,_=> .bad 5 at_
 |_+1,[],at_,out=> .ok (out++ [⟨7,at_,0,[]⟩])
 |f+1,c::r,at_,out=>
  if blankB c then lexF f r (at_+1) out
  else if (beginsD (c::r)).2=0 then .bad 5 at_
  else lexF f ((c::r).drop (beginsD (c::r)).2) (at_+(beginsD (c::r)).2) (out++ [{(beginsD (c::r)).1 with pos:=at_}])
def lexD (s:Txt):Lexed:=if s.length>4096 then .bad 6 4096 else lexF (s.length+1) s 0 []
theorem takeWhile_le (p:UInt8→Bool) (s:Txt):(s.takeWhile p).length≤s.length:=(List.takeWhile_prefix p).length_le
theorem takeWhile_take (p:UInt8→Bool) (s:Txt):s.take (s.takeWhile p).length=s.takeWhile p:=by
 obtain ⟨t,ht⟩:=List.takeWhile_prefix (l:=s) p
 have:s.take (s.takeWhile p).length=(s.takeWhile p++t).take (s.takeWhile p).length:=by rw [ht]
 rw [this,List.take_left]
theorem numD_le (neg:Bool) (s:Txt):(numD neg s).2≤s.length:=by
 have:=takeWhile_le dgt s
 unfold numD
 simp only
 split
 ·exact Nat.zero_le _
 ·generalize (if neg=true then -(decV (s.takeWhile dgt):Int) else (decV (s.takeWhile dgt):Int))=v
  split
  ·exact this
  ·exact Nat.zero_le _
theorem wordD_le (s:Txt):(wordD s).length≤s.length:=by
 have:=takeWhile_le wrd s
 unfold wordD
 split
 ·exact this
 ·simp
theorem oddD_len {s:Txt} {b:UInt8} (h:oddD s=some b):3≤s.length:=by
 match s,h with
 |_::_::_::_,_=>simp
theorem textF_le:∀(f:Nat) (r:Txt) (at_:Nat) (out:Txt),(textF f r at_ out).2≤at_+r.length
 |0,_,_,_=>by simp [textF]
 |_+1,[],_,_=>by simp [textF]
 |f+1,c::r,at_,out=>by
  simp only [textF]
  split
  ·split<;>simp
  ·split
   ·have:=textF_le f r (at_+1) (out++ [c]); simp only [List.length_cons]; omega
   ·split
    ·rename_i b hb
     have h3:=oddD_len hb
     have:=textF_le f (r.drop 2) (at_+3) (out++ [b])
     simp only [List.length_cons,List.length_drop] at this h3⊢
     omega
    ·simp
theorem beginsD_le (s:Txt) (hs:s≠ []):(beginsD s).2≤s.length:=by
 have h1:1≤s.length:=List.length_pos_iff.2 hs
 have hd:(s.drop 1).length=s.length - 1:=by simp
 have k1:=wordD_le s
 have k2:=wordD_le (s.drop 1)
 have k3:=numD_le false s
 have k4:=numD_le false (s.drop 1)
 have k5:=numD_le true (s.drop 1)
 have k6:=textF_le s.length (s.drop 1) 1 []
 unfold beginsD
 simp only
 split
 ·exact k1
 split
 ·exact k3
 split
 ·simp only; split<;>omega
 split
 ·simp only; split<;>omega
 split
 ·simp only; split<;>omega
 split
 ·simp only [textD]; omega
 split
 ·simp only; omega
 ·simp
end Go.Bf

set_option linter.unusedVariables false
namespace Go.Bf
open Go Go.Ab
structure PS where
 ts:List TokD
 pos:Nat
 rules:Nat
 bad:Int
 place:Int
def hereD (st:PS):TokD:=st.ts.getD st.pos ⟨7,0,0,[]⟩
def wrongD (st:PS) (e p:Int):PS:=if st.bad=0 then {st with bad:=e,place:=p} else st
def stuckD (st:PS):PS:=wrongD st 5 (hereD st).pos
def limitD (st:PS) (more:Bool):PS:=if more then wrongD st 6 (hereD st).pos else st
def isD (st:PS) (s:Txt):Bool:=st.bad==0 && ((hereD st).s==s && ((hereD st).kind==1||(hereD st).kind==6))
def nextD (st:PS):PS:= {st with pos:=st.pos+1}
def takeD (st:PS) (s:Txt):Bool×PS:=if isD st s=true then (true,nextD st) else (false,st)
def mustD (st:PS) (s:Txt):PS:=if isD st s=true then nextD st else stuckD st
def nameP (st:PS):Txt×PS:=
 if (hereD st).kind=1∧st.bad=0 then ((hereD st).s,nextD st) else ([],if (hereD st).kind=1 then st else stuckD st)
def idxT (s:Txt):List Txt→Option Nat
 | []=>none
 |w::r=>if w=s then some 0 else (idxT s r).map (· +1)
def amongD (st:PS) (ws:List Txt):Int×PS:=match idxT (hereD st).s ws with
 |some i=>if (hereD st).kind=1∧st.bad=0 then ((i:Int)+1,nextD st) else (0,stuckD st)
 |none=>(0,stuckD st)
def WfP (st:PS):Prop:=st.pos<st.ts.length∧(∀i (h:i<st.ts.length),st.ts[i].kind≠7→i+1<st.ts.length)∧st.ts.length≤5000
theorem hereD_eq {st:PS} (h:st.pos<st.ts.length):hereD st=st.ts[st.pos]:=by
 unfold hereD; rw [List.getD_eq_getElem?_getD,List.getElem?_eq_getElem h]; rfl
theorem wfP_wrong {st:PS} (e p:Int) (h:WfP st):WfP (wrongD st e p):=by
 unfold wrongD; split<;>exact h
theorem wfP_next {st:PS} (h:WfP st) (hk:(hereD st).kind≠7):WfP (nextD st):=by
 rw [hereD_eq h.1] at hk
 exact ⟨h.2.1 _ h.1 hk,h.2⟩
theorem isD_kind {st:PS} {s:Txt} (h:isD st s=true):(hereD st).kind≠7:=by
 simp only [isD,Bool.and_eq_true,Bool.or_eq_true,beq_iff_eq] at h
 obtain ⟨_,_,h|h⟩:=h<;>rw [h]<;>decide
end Go.Bf

set_option linter.unusedVariables false
namespace Go.Bf
open Go Go.Ab
def Ah (st st' :PS):Prop:=WfP st'∧st'.ts=st.ts∧st.pos≤st'.pos
theorem Ah.refl {st:PS} (h:WfP st):Ah st st:=⟨h,rfl,Nat.le_refl _⟩
theorem Ah.trans {a b c:PS} (x:Ah a b) (y:Ah b c):Ah a c:=⟨y.1,y.2.1.trans x.2.1,Nat.le_trans x.2.2 y.2.2⟩
theorem ah_wrong {st:PS} (e p:Int) (h:WfP st):Ah st (wrongD st e p):=⟨wfP_wrong e p h,by unfold wrongD; split<;>rfl,by unfold wrongD; split<;>exact Nat.le_refl _⟩
theorem ah_next {st:PS} (h:WfP st) (hk:(hereD st).kind≠7):Ah st (nextD st):=⟨wfP_next h hk,rfl,Nat.le_succ _⟩
theorem ah_stuck {st:PS} (h:WfP st):Ah st (stuckD st):=ah_wrong _ _ h
theorem ah_limit {st:PS} (b:Bool) (h:WfP st):Ah st (limitD st b):=by
 unfold limitD; split
 ·exact ah_wrong _ _ h
 ·exact .refl h
theorem ah_take {st:PS} (s:Txt) (h:WfP st):Ah st (takeD st s).2:=by
 unfold takeD; split
 ·rename_i hi; exact ah_next h (isD_kind hi)
 ·exact .refl h
theorem ah_must {st:PS} (s:Txt) (h:WfP st):Ah st (mustD st s):=by
 unfold mustD; split
 ·rename_i hi; exact ah_next h (isD_kind hi)
 ·exact ah_stuck h
theorem ah_name {st:PS} (h:WfP st):Ah st (nameP st).2:=by
 unfold nameP; split
 ·rename_i hi; exact ah_next h (by rw [hi.1]; decide)
 ·simp only; split
  ·exact .refl h
  ·exact ah_stuck h
theorem ah_among {st:PS} (ws:List Txt) (h:WfP st):Ah st (amongD st ws).2:=by
 unfold amongD; split
 ·split
  ·rename_i hi; exact ah_next h (by rw [hi.1]; decide)
  ·exact ah_stuck h
 ·exact ah_stuck h
def catWs:List Txt:= [[115,117,98,106,101,99,116],[97,99,116,105,111,110],[99,97,115,101],[101,110,118]]
def attrP (st:PS):AttrD×PS:=
 (⟨(amongD st catWs).1,(nameP (mustD (amongD st catWs).2 [46])).1,(takeD (nameP (mustD (amongD st catWs).2 [46])).2 [33]).1⟩,(takeD (nameP (mustD (amongD st catWs).2 [46])).2 [33]).2)
theorem ah_attr {st:PS} (h:WfP st):Ah st (attrP st).2:=by
 have h1:=ah_among catWs h
 have h2:=ah_must [46] h1.1
 have h3:=ah_name h2.1
 exact ((h1.trans h2).trans h3).trans (ah_take [33] h3.1)
def trueT:Txt:= [116,114,117,101]
def falseT:Txt:= [102,97,108,115,101]
def valueV (st:PS):ValD×PS:=
 if (hereD st).kind=2 then (⟨2,(hereD st).n,(hereD st).s⟩,st)
 else if (hereD st).kind=3 then (⟨4,(hereD st).n,(hereD st).s⟩,st)
 else if (hereD st).kind=4 then (⟨5,(hereD st).n,(hereD st).s⟩,st)
 else if (hereD st).kind=5 then (⟨3,(hereD st).n,(hereD st).s⟩,st)
 else if isD st trueT then (⟨1,1,[]⟩,st)
 else if isD st falseT then (⟨1,0,[]⟩,st)
 else (⟨0,(hereD st).n,(hereD st).s⟩,stuckD st)
def valueP (st:PS):ValD×PS:=if (valueV st).2.bad=0 then ((valueV st).1,nextD (valueV st).2) else (⟨0,0,[]⟩,(valueV st).2)
theorem stuck_bad (st:PS):(stuckD st).bad≠0:=by
 unfold stuckD wrongD; split
 ·show (5:Int)≠0; decide
 ·assumption
theorem valueV_cases (st:PS):(valueV st).2=st∧(hereD st).kind≠7∨(valueV st).2=stuckD st:=by
 unfold valueV
 split
 ·rename_i h; exact .inl ⟨rfl,by rw [h]; decide⟩
 split
 ·rename_i h; exact .inl ⟨rfl,by rw [h]; decide⟩
 split
 ·rename_i h; exact .inl ⟨rfl,by rw [h]; decide⟩
 split
 ·rename_i h; exact .inl ⟨rfl,by rw [h]; decide⟩
 split
 ·rename_i h; exact .inl ⟨rfl,isD_kind h⟩
 split
 ·rename_i h; exact .inl ⟨rfl,isD_kind h⟩
 ·exact .inr rfl
theorem ah_value {st:PS} (h:WfP st):Ah st (valueP st).2:=by
 unfold valueP
 rcases valueV_cases st with ⟨e,hk⟩|e
 ·rw [e]; split
  ·exact ah_next h hk
  ·exact .refl h
 ·rw [e,if_neg (stuck_bad st)]; exact ah_stuck h
def opP (st:PS):Int×PS:=
 if isD st [61] then (1,nextD st) else if isD st [60] then (2,nextD st) else if isD st [62] then (3,nextD st) else (0,stuckD st)
theorem ah_op {st:PS} (h:WfP st):Ah st (opP st).2:=by
 unfold opP
 split
 ·rename_i hi; exact ah_next h (isD_kind hi)
 split
 ·rename_i hi; exact ah_next h (isD_kind hi)
 split
 ·rename_i hi; exact ah_next h (isD_kind hi)
 ·exact ah_stuck h
def matchP (st:PS):MatchD×PS:=(⟨(attrP st).1,(opP (attrP st).2).1,(valueP (opP (attrP st).2).2).1⟩,(valueP (opP (attrP st).2).2).2)
theorem ah_match {st:PS} (h:WfP st):Ah st (matchP st).2:=by
 have h1:=ah_attr h
 have h2:=ah_op h1.1
 exact (h1.trans h2).trans (ah_value h2.1)
def manyF {α:Type} (one:PS→α×PS) (w:Txt) (most:Nat):Nat→PS→List α→List α×PS
 |0,st,l=>(l,st)
 |f+1,st,l=>if isD st w=true then manyF one w most f (limitD (one (nextD st)).2 (decide (most<l.length+1))) (l++ [(one (nextD st)).1]) else (l,st)
theorem ah_many {α:Type} {one:PS→α×PS} (ho:∀st,WfP st→Ah st (one st).2) (w:Txt) (most:Nat):∀(f:Nat) (st:PS) (l:List α),WfP st→Ah st (manyF one w most f st l).2
 |0,st,l,h=> .refl h
 |f+1,st,l,h=>by
  unfold manyF; split
  ·rename_i hi
   have h1:=ah_next h (isD_kind hi)
   have h2:=ho _ h1.1
   have h3:=ah_limit (decide (most<l.length+1)) h2.1
   exact ((h1.trans h2).trans h3).trans (ah_many ho w most f _ _ h3.1)
  ·exact .refl h
def orT:Txt:= [111,114]
def andT:Txt:= [97,110,100]
def whenT:Txt:= [119,104,101,110]
def allP (st:PS):List MatchD×PS:=manyF matchP [44] 8 st.ts.length (matchP st).2 [(matchP st).1]
theorem ah_all {st:PS} (h:WfP st):Ah st (allP st).2:=(ah_match h).trans (ah_many (fun _ h=>ah_match h) _ _ _ _ _ (ah_match h).1)
def anyP (st:PS):List (List MatchD)×PS:=
 let a:=allP (mustD st [40])
 let m:=manyF allP orT 8 st.ts.length a.2 [a.1]
 (m.1,mustD m.2 [41])
theorem ah_any {st:PS} (h:WfP st):Ah st (anyP st).2:=by
 have h0:=ah_must [40] h
 have h1:=ah_all h0.1
 have h2:=ah_many (fun _ h=>ah_all h) orT 8 st.ts.length _ [(allP (mustD st [40])).1] h1.1
 exact ((h0.trans h1).trans h2).trans (ah_must [41] h2.1)
def tgtP (st:PS):TgtD×PS:=if isD st whenT=true then manyF anyP andT 8 st.ts.length (anyP (nextD st)).2 [(anyP (nextD st)).1] else ([],st)
theorem ah_tgt {st:PS} (h:WfP st):Ah st (tgtP st).2:=by
 unfold tgtP; split
 ·rename_i hi
  have h0:=ah_next h (isD_kind hi)
  have h1:=ah_any h0.1
  exact (h0.trans h1).trans (ah_many (fun _ h=>ah_any h) _ _ _ _ _ h1.1)
 ·exact .refl h
end Go.Bf

set_option linter.unusedVariables false
namespace Go.Bf
open Go Go.Ab
def fnWs:List Txt:= [[111,110,101],[115,105,122,101],[104,97,115],[101,113],[108,101,115,115],[97,100,100],[115,117,98],[109,117,108],[110,111,116],[97,110,100],[111,114]]
def opers (op:Int):List Bool:=if op=3∨op=4 then [true] else if op=5 then [true,false] else if op=11 then [false] else [false,false]
abbrev ExF:=PS→List NodeD→(List NodeD×Bool)×PS
def operG (ex:ExF) (st:PS) (l:List NodeD) (must:Bool):List NodeD×PS:=
 ((ex st l).1.1,if (ex st l).1.2=must then (ex st l).2 else wrongD (ex st l).2 5 (hereD st).pos)
def opersG (ex:ExF):List Bool→PS→List NodeD→List NodeD×PS
 | [],st,l=>(l,st)
 |b::bs,st,l=>if st.bad=0 then opersG ex bs (operG ex st l b).2 (operG ex st l b).1 else (l,st)
def funcG (ex:ExF) (st:PS) (l:List NodeD):(List NodeD×NodeD)×PS:=
 (((opersG ex (opers (2+(amongD st fnWs).1)) (amongD st fnWs).2 l).1,⟨2+(amongD st fnWs).1,⟨0,0,[]⟩,⟨0,[],false⟩⟩),mustD (opersG ex (opers (2+(amongD st fnWs).1)) (amongD st fnWs).2 l).2 [41])
def headG (ex:ExF) (st:PS) (l:List NodeD):(List NodeD×NodeD)×PS:=
 if isD st [40]=true then funcG ex (nextD st) l
 else if (hereD st).kind=1∧(hereD st).s≠trueT∧(hereD st).s≠falseT then ((l,⟨2,⟨0,0,[]⟩,(attrP st).1⟩),(attrP st).2)
 else ((l,⟨1,(valueP st).1,⟨0,[],false⟩⟩),(valueP st).2)
def exprF:Nat→ExF
 |0,st,l=>((l,false),st)
 |f+1,st,l=>(((headG (exprF f) st l).1.1++ [(headG (exprF f) st l).1.2],(headG (exprF f) st l).1.2.op==2),limitD (headG (exprF f) st l).2 (decide (32<(headG (exprF f) st l).1.1.length+1)))
def ExOK (ex:ExF):Prop:=∀st l,WfP st→Ah st (ex st l).2∧(ex st l).1.1.length+2*st.pos≤l.length+2*(ex st l).2.pos+1
theorem operG_ok {ex:ExF} (he:ExOK ex) (st:PS) (l:List NodeD) (b:Bool) (h:WfP st):Ah st (operG ex st l b).2∧(operG ex st l b).1.length+2*st.pos≤l.length+2*(operG ex st l b).2.pos+1:=by
 obtain ⟨h1,h2⟩:=he st l h
 unfold operG
 simp only
 split
 ·exact ⟨h1,h2⟩
 ·refine ⟨h1.trans (ah_wrong _ _ h1.1), ?_⟩
  have:(wrongD (ex st l).2 5 (hereD st).pos).pos=(ex st l).2.pos:=by unfold wrongD; split<;>rfl
  rw [this]; exact h2
theorem opersG_ok {ex:ExF} (he:ExOK ex):∀(bs:List Bool) (st:PS) (l:List NodeD),WfP st→Ah st (opersG ex bs st l).2∧(opersG ex bs st l).1.length+2*st.pos≤l.length+2*(opersG ex bs st l).2.pos+bs.length
 | [],st,l,h=>⟨.refl h,by simp [opersG]⟩
 |b::bs,st,l,h=>by
  unfold opersG; split
  ·obtain ⟨h1,h2⟩:=operG_ok he st l b h
   obtain ⟨h3,h4⟩:=opersG_ok he bs (operG ex st l b).2 (operG ex st l b).1 h1.1
   exact ⟨h1.trans h3,by simp only [List.length_cons]; omega⟩
  ·exact ⟨.refl h,by simp only [List.length_cons]; omega⟩
theorem opers_le (op:Int):(opers op).length≤2:=by
 unfold opers; repeat' split
 all_goals simp
theorem funcG_ok {ex:ExF} (he:ExOK ex) (st:PS) (l:List NodeD) (h:WfP st):Ah st (funcG ex st l).2∧(funcG ex st l).1.1.length+2*st.pos≤l.length+2*(funcG ex st l).2.pos+2:=by
 have h1:=ah_among fnWs h
 obtain ⟨h2,h3⟩:=opersG_ok he (opers (2+(amongD st fnWs).1)) _ l h1.1
 have h4:=ah_must [41] h2.1
 have:=opers_le (2+(amongD st fnWs).1)
 have p1:=h1.2.2
 have p4:=h4.2.2
 unfold funcG
 exact ⟨(h1.trans h2).trans h4,by simp only; omega⟩
theorem headG_ok {ex:ExF} (he:ExOK ex) (st:PS) (l:List NodeD) (h:WfP st):Ah st (headG ex st l).2∧(headG ex st l).1.1.length+2*st.pos≤l.length+2*(headG ex st l).2.pos:=by
 unfold headG; split
 ·rename_i hi
  have h1:=ah_next h (isD_kind hi)
  obtain ⟨h2,h3⟩:=funcG_ok he _ l h1.1
  have:(nextD st).pos=st.pos+1:=rfl
  exact ⟨h1.trans h2,by omega⟩
 ·split
  ·have h1:=ah_attr h
   have:=h1.2.2
   exact ⟨h1,by simp only; omega⟩
  ·have h1:=ah_value h
   have:=h1.2.2
   exact ⟨h1,by simp only; omega⟩
theorem exprF_ok:∀f,ExOK (exprF f)
 |0=>fun st l h=>⟨.refl h,by simp [exprF]⟩
 |f+1=>fun st l h=>by
  obtain ⟨h1,h2⟩:=headG_ok (exprF_ok f) st l h
  have h3:=ah_limit (decide (32<(headG (exprF f) st l).1.1.length+1)) h1.1
  have:=h3.2.2
  refine ⟨h1.trans h3, ?_⟩
  simp only [exprF,List.length_append,List.length_singleton]
  omega
def onWs:List Txt:= [[112,101,114,109,105,116],[100,101,110,121]]
def dutyWs:List Txt:= [[108,111,103],[114,101,100,97,99,116],[114,101,118,105,101,119],[110,111,116,105,102,121]]
def onceT:Txt:= [111,110]
def oblP (st:PS):OblD×PS:=
 (⟨(amongD st onWs).1,(amongD (amongD st onWs).2 dutyWs).1,(nameP (amongD (amongD st onWs).2 dutyWs).2).1⟩,(nameP (amongD (amongD st onWs).2 dutyWs).2).2)
theorem ah_obl {st:PS} (h:WfP st):Ah st (oblP st).2:=by
 have h1:=ah_among onWs h
 have h2:=ah_among dutyWs h1.1
 exact (h1.trans h2).trans (ah_name h2.1)
def oblsP (st:PS):List OblD×PS:=manyF oblP onceT 8 st.ts.length st []
theorem ah_obls {st:PS} (h:WfP st):Ah st (oblsP st).2:=ah_many (fun _ h=>ah_obl h) _ _ _ _ _ h
end Go.Bf

set_option linter.unusedVariables false
namespace Go.Bf
open Go Go.Ab
inductive Rch (a:PS):PS→Prop where
 |refl:Rch a a
 |wrong {b:PS} (e p:Int):Rch a b→(e=5∨e=6)→(∃i,i≤b.pos∧p=(b.ts.getD i ⟨7,0,0,[]⟩).pos)→Rch a (wrongD b e p)
 |next {b:PS}:Rch a b→b.bad=0→(hereD b).kind≠7→Rch a (nextD b)
theorem Rch.trans {a b c:PS} (x:Rch a b) (y:Rch b c):Rch a c:=by
 induction y with
 |refl=>exact x
 |wrong e p _ h1 h2 ih=>exact .wrong e p ih h1 h2
 |next _ h1 h2 ih=>exact .next ih h1 h2
theorem rch_stuck (st:PS):Rch st (stuckD st):= .wrong _ _ .refl (.inl rfl) ⟨st.pos,Nat.le_refl _,rfl⟩
theorem rch_limit (st:PS) (b:Bool):Rch st (limitD st b):=by
 unfold limitD; split
 ·exact .wrong _ _ .refl (.inr rfl) ⟨st.pos,Nat.le_refl _,rfl⟩
 ·exact .refl
theorem isD_bad {st:PS} {s:Txt} (h:isD st s=true):st.bad=0:=by
 simp only [isD,Bool.and_eq_true,beq_iff_eq] at h; exact h.1
theorem rch_is {st:PS} {s:Txt} (h:isD st s=true):Rch st (nextD st):= .next .refl (isD_bad h) (isD_kind h)
theorem rch_take (st:PS) (s:Txt):Rch st (takeD st s).2:=by
 unfold takeD; split
 ·rename_i h; exact rch_is h
 ·exact .refl
theorem rch_must (st:PS) (s:Txt):Rch st (mustD st s):=by
 unfold mustD; split
 ·rename_i h; exact rch_is h
 ·exact rch_stuck _
theorem rch_name (st:PS):Rch st (nameP st).2:=by
 unfold nameP; split
 ·rename_i h; exact .next .refl h.2 (by rw [h.1]; decide)
 ·simp only; split
  ·exact .refl
  ·exact rch_stuck _
theorem rch_among (st:PS) (ws:List Txt):Rch st (amongD st ws).2:=by
 unfold amongD; split
 ·split
  ·rename_i h; exact .next .refl h.2 (by rw [h.1]; decide)
  ·exact rch_stuck _
 ·exact rch_stuck _
theorem rch_attr (st:PS):Rch st (attrP st).2:=(((rch_among st catWs).trans (rch_must _ [46])).trans (rch_name _)).trans (rch_take _ [33])
theorem rch_value (st:PS):Rch st (valueP st).2:=by
 unfold valueP
 rcases valueV_cases st with ⟨e,hk⟩|e
 ·rw [e]; split
  ·rename_i h; exact .next .refl h hk
  ·exact .refl
 ·rw [e,if_neg (stuck_bad st)]; exact rch_stuck st
theorem rch_op (st:PS):Rch st (opP st).2:=by
 unfold opP
 split
 ·rename_i h; exact rch_is h
 split
 ·rename_i h; exact rch_is h
 split
 ·rename_i h; exact rch_is h
 ·exact rch_stuck _
theorem rch_match (st:PS):Rch st (matchP st).2:=((rch_attr st).trans (rch_op _)).trans (rch_value _)
theorem rch_many {α:Type} {one:PS→α×PS} (ho:∀st,Rch st (one st).2) (w:Txt) (most:Nat):∀(f:Nat) (st:PS) (l:List α),Rch st (manyF one w most f st l).2
 |0,st,l=> .refl
 |f+1,st,l=>by
  unfold manyF; split
  ·rename_i h
   exact (((rch_is h).trans (ho _)).trans (rch_limit _ _)).trans (rch_many ho w most f _ _)
  ·exact .refl
theorem rch_all (st:PS):Rch st (allP st).2:=(rch_match st).trans (rch_many rch_match _ _ _ _ _)
theorem rch_any (st:PS):Rch st (anyP st).2:=(((rch_must st [40]).trans (rch_all _)).trans (rch_many rch_all orT 8 st.ts.length _ [(allP (mustD st [40])).1])).trans (rch_must _ [41])
theorem rch_tgt (st:PS):Rch st (tgtP st).2:=by
 unfold tgtP; split
 ·rename_i h; exact ((rch_is h).trans (rch_any _)).trans (rch_many rch_any _ _ _ _ _)
 ·exact .refl
theorem rch_obl (st:PS):Rch st (oblP st).2:=((rch_among st onWs).trans (rch_among _ dutyWs)).trans (rch_name _)
theorem rch_obls (st:PS):Rch st (oblsP st).2:=rch_many rch_obl _ _ _ _ _
theorem rch_pos {a b:PS} (h:Rch a b):b.ts=a.ts∧a.pos≤b.pos∧b.rules=a.rules:=by
 induction h with
 |refl=>exact ⟨rfl,Nat.le_refl _,rfl⟩
 |wrong e p _ _ _ ih=>
  unfold wrongD; split
  ·exact ih
  ·exact ih
 |next _ _ _ ih=>exact ⟨ih.1,Nat.le_succ_of_le ih.2.1,ih.2.2⟩
theorem rch_oper {ex:ExF} (he:∀st l,Rch st (ex st l).2) (st:PS) (l:List NodeD) (b:Bool):Rch st (operG ex st l b).2:=by
 unfold operG; simp only; split
 ·exact he st l
 ·have:=rch_pos (he st l)
  exact .wrong _ _ (he st l) (.inl rfl) ⟨st.pos,this.2.1,by rw [this.1]; rfl⟩
theorem rch_opers {ex:ExF} (he:∀st l,Rch st (ex st l).2):∀(bs:List Bool) (st:PS) (l:List NodeD),Rch st (opersG ex bs st l).2
 | [],st,l=> .refl
 |b::bs,st,l=>by
  unfold opersG; split
  ·exact (rch_oper he st l b).trans (rch_opers he bs _ _)
  ·exact .refl
theorem rch_expr:∀(f:Nat) (st:PS) (l:List NodeD),Rch st (exprF f st l).2
 |0,st,l=> .refl
 |f+1,st,l=>by
  refine Rch.trans ?_ (rch_limit _ _)
  unfold headG; split
  ·rename_i h
   exact (rch_is h).trans (((rch_among _ fnWs).trans (rch_opers (rch_expr f) _ _ _)).trans (rch_must _ [41]))
  ·split
   ·exact rch_attr st
   ·exact rch_value st
def ifT:Txt:= [105,102]
def permitT:Txt:= [112,101,114,109,105,116]
def denyT:Txt:= [100,101,110,121]
def policyT:Txt:= [112,111,108,105,99,121]
def setT:Txt:= [115,101,116]
def kindWs:List Txt:= [policyT,setT]
def algWs:List Txt:= [[100,101,110,121,111,118,101,114],[112,101,114,109,105,116,111,118,101,114],[102,105,114,115,116],[111,110,108,121],[100,101,110,121,117,110,108,101,115,115],[112,101,114,109,105,116,117,110,108,101,115,115]]
def condP (st:PS):List NodeD×PS:=if isD st ifT=true then operG (exprF st.ts.length) (nextD st) [] false else ([],st)
theorem rch_cond (st:PS):Rch st (condP st).2:=by
 unfold condP; split
 ·rename_i h; exact (rch_is h).trans (rch_oper (rch_expr _) _ _ _)
 ·exact .refl
theorem ah_cond {st:PS} (h:WfP st):Ah st (condP st).2:=by
 unfold condP; split
 ·rename_i hi
  have h1:=ah_next h (isD_kind hi)
  exact h1.trans (operG_ok (exprF_ok _) _ _ _ h1.1).1
 ·exact .refl h
def ruleP (deny:Bool) (st:PS):RuleD×PS:=
 (⟨(nameP st).1,deny,(tgtP (nameP st).2).1,(condP (tgtP (nameP st).2).2).1,(oblsP (condP (tgtP (nameP st).2).2).2).1⟩,mustD (oblsP (condP (tgtP (nameP st).2).2).2).2 [59])
theorem rch_rule (deny:Bool) (st:PS):Rch st (ruleP deny st).2:=((((rch_name st).trans (rch_tgt _)).trans (rch_cond _)).trans (rch_obls _)).trans (rch_must _ [59])
theorem ah_rule (deny:Bool) {st:PS} (h:WfP st):Ah st (ruleP deny st).2:=by
 have h1:=ah_name h
 have h2:=ah_tgt h1.1
 have h3:=ah_cond h2.1
 have h4:=ah_obls h3.1
 exact (((h1.trans h2).trans h3).trans h4).trans (ah_must [59] h4.1)
inductive RchR (a:PS):PS→Prop where
 |refl:RchR a a
 |small {b c:PS}:RchR a b→Rch b c→RchR a c
 |rule {b:PS}:RchR a b→b.bad=0→b.rules≠64→(hereD b).kind≠7→RchR a {nextD b with rules:=b.rules+1}
theorem RchR.trans {a b c:PS} (x:RchR a b) (y:RchR b c):RchR a c:=by
 induction y with
 |refl=>exact x
 |small _ h1 ih=>exact .small ih h1
 |rule _ h1 h2 h3 ih=>exact .rule ih h1 h2 h3
theorem Rch.big {a b:PS} (h:Rch a b):RchR a b:= .small .refl h
def someF:Nat→PS→List RuleD→List RuleD×PS
 |0,st,l=>(l,st)
 |f+1,st,l=>if isD st permitT=true∨isD st denyT=true then
   if l.length=16∨st.rules=64 then (l,limitD st true)
   else someF f (ruleP (isD st denyT) {nextD st with rules:=st.rules+1}).2 (l++ [(ruleP (isD st denyT) {nextD st with rules:=st.rules+1}).1])
  else (l,st)
abbrev PoF:=PS→PolD×PS
def kidsF (pol:PoF) (deep:Bool):Nat→PS→List PolD→List PolD×PS
 |0,st,l=>(l,st)
 |f+1,st,l=>if isD st policyT=true∨isD st setT=true then
   if l.length=16∨deep=true then (l,limitD st true)
   else kidsF pol deep f (pol st).2 (l++ [(pol st).1])
  else (l,st)
def headP (st:PS):(Bool×Txt×Int×TgtD)×PS:=
 (((amongD st kindWs).1==2,(nameP (amongD st kindWs).2).1,(amongD (nameP (amongD st kindWs).2).2 algWs).1,(tgtP (amongD (nameP (amongD st kindWs).2).2 algWs).2).1),mustD (tgtP (amongD (nameP (amongD st kindWs).2).2 algWs).2).2 [123])
theorem rch_head (st:PS):Rch st (headP st).2:=((((rch_among st kindWs).trans (rch_name _)).trans (rch_among _ algWs)).trans (rch_tgt _)).trans (rch_must _ [123])
theorem ah_head {st:PS} (h:WfP st):Ah st (headP st).2:=by
 have h1:=ah_among kindWs h
 have h2:=ah_name h1.1
 have h3:=ah_among algWs h2.1
 have h4:=ah_tgt h3.1
 exact (((h1.trans h2).trans h3).trans h4).trans (ah_must [123] h4.1)
def bodyP (pol:PoF) (deep:Bool) (set:Bool) (st:PS):(List RuleD×List PolD)×PS:=
 if set=true then (([],(kidsF pol deep 17 st []).1),(kidsF pol deep 17 st []).2) else (((someF 17 st []).1,[]),(someF 17 st []).2)
def polF:Nat→PoF
 |0,st=>(.mk [] false 0 [] [] [] [],st)
 |r+1,st=>(.mk (headP st).1.2.1 (headP st).1.1 (headP st).1.2.2.1 (headP st).1.2.2.2 (bodyP (polF r) (r==0) (headP st).1.1 (headP st).2).1.1 (bodyP (polF r) (r==0) (headP st).1.1 (headP st).2).1.2
   (oblsP (mustD (bodyP (polF r) (r==0) (headP st).1.1 (headP st).2).2 [125])).1,(oblsP (mustD (bodyP (polF r) (r==0) (headP st).1.1 (headP st).2).2 [125])).2)
theorem isD_or {st:PS} {a b:Txt} (h:isD st a=true∨isD st b=true):st.bad=0∧(hereD st).kind≠7:=by
 rcases h with h|h
 ·exact ⟨isD_bad h,isD_kind h⟩
 ·exact ⟨isD_bad h,isD_kind h⟩
theorem ah_rules {st:PS} (h:WfP st) (hk:(hereD st).kind≠7):Ah st {nextD st with rules:=st.rules+1}:=ah_next h hk
theorem ah_some:∀(f:Nat) (st:PS) (l:List RuleD),WfP st→Ah st (someF f st l).2
 |0,st,l,h=> .refl h
 |f+1,st,l,h=>by
  unfold someF; split
  ·rename_i hi
   split
   ·exact ah_limit true h
   ·have h1:=ah_rules h (isD_or hi).2
    have h2:=ah_rule (isD st denyT) h1.1
    exact (h1.trans h2).trans (ah_some f _ _ h2.1)
  ·exact .refl h
theorem rch_some:∀(f:Nat) (st:PS) (l:List RuleD),RchR st (someF f st l).2
 |0,st,l=> .refl
 |f+1,st,l=>by
  unfold someF; split
  ·rename_i hi
   split
   ·exact (rch_limit st true).big
   ·rename_i hn
    have h1:RchR st {nextD st with rules:=st.rules+1}:= .rule .refl (isD_or hi).1 (fun e=>hn (.inr e)) (isD_or hi).2
    exact (h1.trans (rch_rule (isD st denyT) _).big).trans (rch_some f _ _)
  ·exact .refl
theorem ah_kids {pol:PoF} (hp:∀st,WfP st→Ah st (pol st).2) (deep:Bool):∀(f:Nat) (st:PS) (l:List PolD),WfP st→Ah st (kidsF pol deep f st l).2
 |0,st,l,h=> .refl h
 |f+1,st,l,h=>by
  unfold kidsF; split
  ·split
   ·exact ah_limit true h
   ·have h1:=hp st h
    exact h1.trans (ah_kids hp deep f _ _ h1.1)
  ·exact .refl h
theorem rch_kids {pol:PoF} (hp:∀st,RchR st (pol st).2) (deep:Bool):∀(f:Nat) (st:PS) (l:List PolD),RchR st (kidsF pol deep f st l).2
 |0,st,l=> .refl
 |f+1,st,l=>by
  unfold kidsF; split
  ·split
   ·exact (rch_limit st true).big
   ·exact (hp st).trans (rch_kids hp deep f _ _)
  ·exact .refl
theorem ah_body {pol:PoF} (hp:∀st,WfP st→Ah st (pol st).2) (deep set:Bool) {st:PS} (h:WfP st):Ah st (bodyP pol deep set st).2:=by
 unfold bodyP; split
 ·exact ah_kids hp deep _ _ _ h
 ·exact ah_some _ _ _ h
theorem rch_body {pol:PoF} (hp:∀st,RchR st (pol st).2) (deep set:Bool) (st:PS):RchR st (bodyP pol deep set st).2:=by
 unfold bodyP; split
 ·exact rch_kids hp deep _ _ _
 ·exact rch_some _ _ _
theorem ah_pol:∀(r:Nat) (st:PS),WfP st→Ah st (polF r st).2
 |0,st,h=> .refl h
 |r+1,st,h=>by
  have h1:=ah_head h
  have h2:=ah_body (ah_pol r) (r==0) (headP st).1.1 h1.1
  have h3:=ah_must [125] h2.1
  exact ((h1.trans h2).trans h3).trans (ah_obls h3.1)
theorem rch_pol:∀(r:Nat) (st:PS),RchR st (polF r st).2
 |0,st=> .refl
 |r+1,st=>(((rch_head st).big.trans (rch_body (rch_pol r) _ _ _)).trans (rch_must _ [125]).big).trans (rch_obls _).big
theorem rules_pol {a b:PS} (h:RchR a b) (h0:a.rules≤64):b.rules≤64:=by
 induction h with
 |refl=>exact h0
 |small _ h1 ih=>rw [(rch_pos h1).2.2]; exact ih
 |rule _ _ h2 _ ih=>show _+1≤64; omega
end Go.Bf

set_option linter.unusedVariables false
namespace Go.Bf
open Go Go.Ab
theorem lexF_form:∀(f:Nat) (s:Txt) (a:Nat) (out l:List TokD),lexF f s a out= .ok l→∃pre,l=out++pre++ [⟨7,(a+s.length:Nat),0,[]⟩]∧pre.length≤s.length∧∀t∈pre,(a:Int)≤t.pos∧t.pos<((a+s.length:Nat):Int)
 |0,_,_,_,_,h=>by simp [lexF] at h
 |f+1,[],a,out,l,h=>by
  simp only [lexF,Lexed.ok.injEq] at h
  exact ⟨[],by simp [←h],by simp,by simp⟩
 |f+1,c::r,a,out,l,h=>by
  simp only [lexF] at h
  split at h
  ·obtain ⟨pre,e1,e2,e3⟩:=lexF_form f r (a+1) out l h
   have ee:((a+1+r.length:Nat):Int)=((a+(c::r).length:Nat):Int):=by simp only [List.length_cons]; omega
   refine ⟨pre,by rw [e1,ee],by simp only [List.length_cons]; omega,fun t ht=> ?_⟩
   have:=e3 t ht
   rw [ee] at this
   exact ⟨by omega,this.2⟩
  ·split at h
   ·cases h
   ·rename_i hn
    have hle:=beginsD_le (c::r) (by simp)
    obtain ⟨pre,e1,e2,e3⟩:=lexF_form f _ _ _ l h
    have ee:((a+(beginsD (c::r)).2+((c::r).drop (beginsD (c::r)).2).length:Nat):Int)=((a+(c::r).length:Nat):Int):=by rw [List.length_drop]; omega
    refine ⟨{(beginsD (c::r)).1 with pos:=a}::pre,by rw [e1,ee]; simp,by rw [List.length_drop] at e2; simp only [List.length_cons] at e2 hle⊢; omega,fun t ht=> ?_⟩
    rcases List.mem_cons.1 ht with rfl|ht
    ·refine ⟨Int.le_refl _, ?_⟩
     show (a:Int)<_
     simp only [List.length_cons]; omega
    ·have:=e3 t ht
     rw [ee] at this
     exact ⟨by omega,this.2⟩
theorem lexD_form {s:Txt} {ts:List TokD} (h:lexD s= .ok ts):∃pre,ts=pre++ [⟨7,s.length,0,[]⟩]∧pre.length≤s.length∧(∀t∈pre,0≤t.pos∧t.pos<(s.length:Int))∧s.length≤4096:=by
 unfold lexD at h
 split at h
 ·cases h
 ·rename_i hl
  obtain ⟨pre,e1,e2,e3⟩:=lexF_form _ _ _ _ _ h
  exact ⟨pre,by simpa using e1,e2,by simpa using e3,by omega⟩
theorem wfP_start {s:Txt} {ts:List TokD} (h:lexD s= .ok ts) (x:Nat) (e p:Int):WfP ⟨ts,0,x,e,p⟩:=by
 obtain ⟨pre,rfl,h2,_,h3⟩:=lexD_form h
 refine ⟨by simp,fun i hi hk=> ?_,by simp; omega⟩
 by_cases hl:i<pre.length
 ·simp; omega
 ·exfalso
  simp only [List.length_append,List.length_singleton] at hi
  have:i=pre.length:=by omega
  subst this
  apply hk
  simp
theorem lexF_bad:∀(f:Nat) (s:Txt) (a:Nat) (out:List TokD) (e p:Int),lexF f s a out= .bad e p→e=5∧0≤p∧(s.length<f→p≤((a+s.length:Nat):Int))
 |0,s,a,out,e,p,h=>by
  simp only [lexF,Lexed.bad.injEq] at h
  obtain ⟨rfl,rfl⟩:=h
  exact ⟨rfl,by omega,by omega⟩
 |f+1,[],a,out,e,p,h=>by simp [lexF] at h
 |f+1,c::r,a,out,e,p,h=>by
  simp only [lexF] at h
  split at h
  ·obtain ⟨h1,h2,h3⟩:=lexF_bad f r (a+1) out e p h
   refine ⟨h1,h2,fun hl=> ?_⟩
   simp only [List.length_cons] at hl⊢
   have:=h3 (by omega)
   omega
  ·split at h
   ·simp only [Lexed.bad.injEq] at h
    obtain ⟨rfl,rfl⟩:=h
    exact ⟨rfl,by omega,fun _=>by omega⟩
   ·obtain ⟨h1,h2,h3⟩:=lexF_bad f _ _ _ e p h
    refine ⟨h1,h2,fun hl=> ?_⟩
    have hle:=beginsD_le (c::r) (by simp)
    rw [List.length_drop] at h3
    have:=h3 (by omega)
    omega
theorem lexD_bad {s:Txt} {e a:Int} (h:lexD s= .bad e a):(e=5∨e=6)∧0≤a∧a≤s.length:=by
 unfold lexD at h
 split at h
 ·simp only [Lexed.bad.injEq] at h
  obtain ⟨rfl,rfl⟩:=h
  exact ⟨.inr rfl,by omega,by omega⟩
 ·obtain ⟨h1,h2,h3⟩:=lexF_bad _ _ _ _ _ _ h
  have:=h3 (by omega)
  exact ⟨.inl h1,h2,by omega⟩
def zeroP:PolD:= .mk [] false 0 [] [] [] []
def endP (s:Txt) (x:PolD×PS):PS:=
 if (if (hereD x.2).kind=7 then x.2 else stuckD x.2).bad=0∧rightE x.1≠0 then wrongD (if (hereD x.2).kind=7 then x.2 else stuckD x.2) 5 s.length else (if (hereD x.2).kind=7 then x.2 else stuckD x.2)
def parseT (s:Txt) (ts:List TokD):PolD×Int×Int:=
 if (endP s (polF 4 ⟨ts,0,0,0,0⟩)).bad=0 then ((polF 4 ⟨ts,0,0,0,0⟩).1,0,0) else (zeroP,(endP s (polF 4 ⟨ts,0,0,0,0⟩)).bad,(endP s (polF 4 ⟨ts,0,0,0,0⟩)).place)
def parseD (s:Txt):PolD×Int×Int:=match lexD s with
 | .bad e a=>(zeroP,e,a)
 | .ok ts=>parseT s ts
end Go.Bf

set_option linter.unusedSimpArgs false
set_option linter.unusedVariables false
namespace Go.Proofs.YtmlhcdeamjkpjaaGreatDoor
open Go Go.Ab Go.Bf
def Byt (g:FuncId) (p:UInt8→Bool):Prop:=∀(c:UInt8) (h:Heap),FnOK Tryz.prog g [.v (.int .u8 c.toNat)] h fun r h' =>r= .v (.bool (p c))∧h' =h
theorem isDigit_ok:Byt 201 dgt:=fun c h=>by
 refine FnOK.body hU hm Tryz.func201 rfl (by kernel_rfl) 9 rfl [.tmp 2] rfl (Nat.le_of_ble_eq_true rfl) (fun hwf=> ?_)
 cases d1:decide (48≤(c.toNat:Int))<;>cases d2:decide ((c.toNat:Int)≤57)
 all_goals
  simp -implicitDefEqProofs only [go_sem,d1,d2]
  exact .same (.refl _) ⟨by simp only [dgt,d1,d2]; rfl,rfl⟩
theorem isWord_ok:Byt 247 wrd:=fun c h=>by
 refine FnOK.body hU hm Tryz.func247 rfl (by kernel_rfl) 17 rfl [.tmp 2] rfl (Nat.le_of_ble_eq_true rfl) (fun hwf=> ?_)
 cases d1:decide (97≤(c.toNat:Int))<;>cases d2:decide ((c.toNat:Int)≤122)<;>cases d3:dgt c<;>cases d4:((c.toNat:Int)==95)
 all_goals
  simp -implicitDefEqProofs only [go_sem,d1,d2,d4]
  first
   |exact .same (.refl _) ⟨by simp only [wrd,ltr,d1,d2,d3,d4]; rfl,rfl⟩
   |(refine (isDigit_ok c _).pthen ?_; simp -implicitDefEqProofs only [go_sem,d1,d2,d3,d4]; exact .same (.refl _) ⟨by simp only [wrd,ltr,d1,d2,d3,d4]; rfl,rfl⟩)
theorem plain_ok:Byt 249 (fun c=> !oddB c):=fun c h=>by
 refine FnOK.body hU hm Tryz.func249 rfl (by kernel_rfl) 17 rfl [.tmp 2] rfl (Nat.le_of_ble_eq_true rfl) (fun hwf=> ?_)
 cases d1:decide (32≤(c.toNat:Int))<;>cases d2:decide ((c.toNat:Int)≤126)<;>cases d3:((c.toNat:Int)==34)<;>cases d4:((c.toNat:Int)==92)
 all_goals
  simp -implicitDefEqProofs only [go_sem,d1,d2,d3,d4,bne]
  refine .same (.refl _) ⟨?_,rfl⟩
  have e1:decide ((c.toNat:Int)<32)= !decide (32≤(c.toNat:Int)):=by
   by_cases h:(32:Int)≤c.toNat
   ·simp [h,Int.not_lt.2 h]
   ·simp [h,Int.not_le.1 h]
  have e2:decide (126<(c.toNat:Int))= !decide ((c.toNat:Int)≤126):=by
   by_cases h:(c.toNat:Int)≤126
   ·simp [h,Int.not_lt.2 h]
   ·simp [h,Int.not_le.1 h]
  simp only [oddB,e1,e2,d1,d2,d3,d4]
  rfl
theorem tw_succ (p:UInt8→Bool) (s:Txt) (i:Nat) (hi:i<s.length) (h:i≤(s.takeWhile p).length) (hp:p s[i]=true):i+1≤(s.takeWhile p).length:=by
 induction s generalizing i with
 |nil=>cases hi
 |cons c r ih=>
  cases i with
  |zero=>simp only [List.getElem_cons_zero] at hp; simp [hp]
  |succ i=>
   by_cases hc:p c=true
   ·simp only [List.takeWhile_cons,hc,if_true,List.length_cons] at h⊢
    have:=ih i (by simpa using hi) (by omega) (by simpa using hp)
    omega
   ·simp [hc] at h
theorem tw_at (p:UInt8→Bool) (s:Txt) (i:Nat) (hi:i<s.length) (h:i≤(s.takeWhile p).length) (hp:p s[i]=false):(s.takeWhile p).length=i:=by
 induction s generalizing i with
 |nil=>cases hi
 |cons c r ih=>
  cases i with
  |zero=>simp only [List.getElem_cons_zero] at hp; simp [hp]
  |succ i=>
   by_cases hc:p c=true
   ·simp only [List.takeWhile_cons,hc,if_true,List.length_cons] at h⊢
    rw [ih i (by simpa using hi) (by omega) (by simpa using hp)]
   ·simp [hc] at h
theorem run_ok (g:FuncId) (p:UInt8→Bool) (hg:Byt g p) (s:Txt) (h:Heap):FnOK Tryz.prog 246 [.s s, .fn g []] h fun r h' =>r= .v (.int .i64 (s.takeWhile p).length)∧h' =h:=by
 refine FnOK.body hU hm Tryz.func246 rfl (by kernel_rfl) 20 rfl [.tmp 4] rfl (Nat.le_of_ble_eq_true rfl) (fun hwf=> ?_)
 have hlen:=hwf (.s s) (by simp)
 simp only [wfA,wf1,lim] at hlen
 simp -implicitDefEqProofs only [go_sem]
 refine .intro (fun m ρ h' =>h' =h∧∃i:Nat,i≤s.length∧m=s.length - i∧i≤(s.takeWhile p).length∧lk ρ 0=some (.s s)∧lk ρ 1=some (.fn g [])∧lk ρ 5=some (.v (.int .i64 i))) s.length ?_ ?_
 ·refine ⟨rfl,0,by omega,rfl,by omega, ?_, ?_, ?_⟩<;>simp -implicitDefEqProofs only [go_sem]
 ·rintro m ρ h' ⟨rfl,i,hi,rfl,hc,r0,r1,r5⟩
  cases d1:decide ((i:Int)<(s.length:Int))
  ·have hge:i=s.length:=by have:=of_decide_eq_false d1; omega
   have:=takeWhile_le p s
   simp -implicitDefEqProofs only [go_sem,r0,r1,r5,d1]
   exact .same (.refl _) ⟨by simp only [oneOr]; congr 3; omega,rfl⟩
  ·have hlt:i<s.length:=by have:=of_decide_eq_true d1; omega
   have w1:IntKind.i64.wrap ((i:Int)+1)=((i+1:Nat):Int):=by rw [wr64 _ (by omega)]; omega
   simp -implicitDefEqProofs only [go_sem,r0,r1,r5,d1]
   refine .at i hlt ?_
   simp -implicitDefEqProofs only [go_sem,r0,r1,r5,d1,byteA]
   refine (hg s[i] _).pthen ?_
   cases d2:p s[i]
   ·have:=tw_at p s i hlt hc d2
    simp -implicitDefEqProofs only [go_sem,r0,r1,r5,d1,d2]
    exact .same (.refl _) ⟨by rw [this]; rfl,rfl⟩
   ·simp -implicitDefEqProofs only [go_sem,r0,r1,r5,d1,d2,w1]
    refine ⟨_, ?_,rfl,i+1,by omega,rfl,tw_succ p s i hlt hc d2, ?_, ?_, ?_⟩
    ·omega
    all_goals simp -implicitDefEqProofs only [go_sem,r0,r1,r5,w1]
theorem name_ok' (s:Txt) (h:Heap):FnOK Tryz.prog 200 [.s s] h fun r h' =>r= .s (wordD s)∧h' =h:=by
 refine FnOK.body hU hm Tryz.func200 rfl (by kernel_rfl) 12 rfl [.tmp 2] rfl (Nat.le_of_ble_eq_true rfl) (fun hwf=> ?_)
 simp -implicitDefEqProofs only [go_sem]
 refine (run_ok _ _ isWord_ok s _).pthen ?_
 simp -implicitDefEqProofs only [go_sem]
 refine ⟨by omega,by have:=takeWhile_le wrd s; omega, ?_⟩
 simp -implicitDefEqProofs only [go_sem,Option.isSome_none,Option.isSome_some,cutL_ft,Int.toNat_natCast,takeWhile_take]
 refine ⟨by have:=takeWhile_le wrd s; omega, ?_⟩
 refine (name_ok _ _).pthen ?_
 cases d1:nameOK (s.takeWhile wrd)
 ·simp -implicitDefEqProofs only [go_sem,d1]
  exact .same (.refl _) ⟨by simp [wordD,d1,oneOr],rfl⟩
 ·simp -implicitDefEqProofs only [go_sem,d1]
  exact .same (.refl _) ⟨by simp [wordD,d1,oneOr],rfl⟩
theorem wr8 {x:Int} (h:0≤x∧x<256):IntKind.u8.wrap x=x:=by
 unfold IntKind.wrap
 simp only [IntKind.signed,IntKind.bits]
 simp
 omega
theorem digit_ok (c:UInt8) (h:Heap):FnOK Tryz.prog 273 [.v (.int .u8 c.toNat)] h fun r h' =>r= .v (.int .i64 (hexI c))∧h' =h:=by
 refine FnOK.body hU hm Tryz.func273 rfl (by kernel_rfl) 20 rfl [.tmp 2] rfl (Nat.le_of_ble_eq_true rfl) (fun hwf=> ?_)
 have hc:=c.toNat_lt
 simp -implicitDefEqProofs only [go_sem]
 refine (isDigit_ok c _).pthen ?_
 cases d1:dgt c
 case true=>
  have e1:48≤(c.toNat:Int)∧(c.toNat:Int)≤57:=by simpa [dgt] using d1
  have w1:IntKind.u8.wrap ((c.toNat:Int) - 48)=(c.toNat:Int) - 48:=wr8 (by omega)
  have w2:IntKind.i64.wrap ((c.toNat:Int) - 48)=(c.toNat:Int) - 48:=wr64 _ (by omega)
  simp -implicitDefEqProofs only [go_sem,d1,w1,w2]
  exact .same (.refl _) ⟨by simp [hexI,d1,oneOr],rfl⟩
 cases d2:decide (97≤(c.toNat:Int))<;>cases d3:decide ((c.toNat:Int)≤102)
 case true.true=>
  have e2:=of_decide_eq_true d2
  have e3:=of_decide_eq_true d3
  have w1:IntKind.u8.wrap ((c.toNat:Int) - 97)=(c.toNat:Int) - 97:=wr8 (by omega)
  have w2:IntKind.i64.wrap ((c.toNat:Int) - 97)=(c.toNat:Int) - 97:=wr64 _ (by omega)
  have w3:IntKind.i64.wrap ((c.toNat:Int) - 97+10)=(c.toNat:Int) - 87:=by rw [wr64 _ (by omega)]; omega
  simp -implicitDefEqProofs only [go_sem,d1,d2,d3,w1,w2,w3]
  exact .same (.refl _) ⟨by simp [hexI,d1,e2,e3,oneOr],rfl⟩
 all_goals
  simp -implicitDefEqProofs only [go_sem,d1,d2,d3]
  simp only [decide_eq_true_eq,decide_eq_false_iff_not] at d2 d3
  refine .same (.refl _) ⟨?_,rfl⟩
  have:¬(97≤(c.toNat:Int)∧(c.toNat:Int)≤102):=by omega
  simp [hexI,d1,this,oneOr]
theorem hexI_le (c:UInt8): -1≤hexI c∧hexI c≤15:=by
 unfold hexI
 split
 ·rename_i h; simp [dgt] at h; omega
 ·split<;>omega
theorem u8_ofNat (n:Nat) (h:n<256):((UInt8.ofNat n).toNat:Int)=n:=by
 simp; omega
theorem odd_ok (s:Txt) (h:Heap):FnOK Tryz.prog 250 [.s s] h fun r h' =>(∃x:Int,r= .tup [.v (.int .u8 x), .v (.bool (oddD s).isSome)]∧∀c,oddD s=some c→x=c.toNat)∧h' =h:=by
 refine FnOK.body hU hm Tryz.func250 rfl (by kernel_rfl) 38 rfl [.tmp 2, .tmp 3] rfl (Nat.le_of_ble_eq_true rfl) (fun hwf=> ?_)
 have hlen:=hwf (.s s) (by simp)
 simp only [wfA,wf1,lim] at hlen
 cases d0:decide ((s.length:Int)<3)
 case true=>
  have e0:s.length<3:=by have:=of_decide_eq_true d0; omega
  have:oddD s=none:=by
   match s,e0 with
   | [],_=>rfl
   | [_],_=>rfl
   | [_,_],_=>rfl
  simp -implicitDefEqProofs only [go_sem,d0]
  exact .same (.refl _) ⟨⟨0,by rw [this]; rfl,fun c hc=>by rw [this] at hc; cases hc⟩,rfl⟩
 have e0:3≤s.length:=by have:=of_decide_eq_false d0; omega
 obtain ⟨b,x,y,t,rfl⟩:∃b x y t,s=b::x::y::t:=by
  match s,e0 with
  |b::x::y::t,_=>exact ⟨b,x,y,t,rfl⟩
 simp only [List.length_cons] at d0
 have bad:oddD (b::x::y::t)=none→∃z:Int,AV.tup [.v (.int .u8 0), .v (.bool false)]= .tup [.v (.int .u8 z), .v (.bool (oddD (b::x::y::t)).isSome)]∧∀c,oddD (b::x::y::t)=some c→z=c.toNat:=
  fun e=>⟨0,by rw [e]; rfl,fun c hc=>by rw [e] at hc; cases hc⟩
 cases d1:((b.toNat:Int) !=92)
 case true=>
  have e1:b≠92:=by rintro rfl; simp at d1
  simp -implicitDefEqProofs only [go_sem,d0]
  refine .at 0 (by simp) ?_
  simp -implicitDefEqProofs only [go_sem,d0,byteA,List.getElem_cons_zero,d1]
  exact .same (.refl _) ⟨bad (by simp [oddD,e1]),rfl⟩
 have e1:b=92:=by
  have:(b.toNat:Int)=92:=by simpa using d1
  exact UInt8.toNat_inj.1 (by show b.toNat=92; omega)
 simp -implicitDefEqProofs only [go_sem,d0]
 refine .at 0 (by simp) ?_
 simp -implicitDefEqProofs only [go_sem,d0,byteA,List.getElem_cons_zero,d1]
 refine .at 1 (by simp) ?_
 simp -implicitDefEqProofs only [go_sem,d0,byteA,List.getElem_cons_zero,List.getElem_cons_succ,d1]
 refine (digit_ok x _).pthen ?_
 cases d2:decide (hexI x<0)
 case true=>
  have e2:=of_decide_eq_true d2
  simp -implicitDefEqProofs only [go_sem,d0,d1,d2]
  exact .same (.refl _) ⟨bad (by simp [oddD]; intros; omega),rfl⟩
 have e2:0≤hexI x:=by have:=of_decide_eq_false d2; omega
 simp -implicitDefEqProofs only [go_sem,d0,d1,d2]
 refine .at 2 (by simp) ?_
 simp -implicitDefEqProofs only [go_sem,d0,d1,d2,byteA,List.getElem_cons_zero,List.getElem_cons_succ]
 refine (digit_ok y _).pthen ?_
 cases d3:decide (hexI y<0)
 case true=>
  have e3:=of_decide_eq_true d3
  simp -implicitDefEqProofs only [go_sem,d0,d1,d2,d3]
  exact .same (.refl _) ⟨bad (by simp [oddD]; intros; omega),rfl⟩
 have e3:0≤hexI y:=by have:=of_decide_eq_false d3; omega
 have hx:=hexI_le x
 have hy:=hexI_le y
 have w1:IntKind.i64.wrap (16*hexI x)=16*hexI x:=wr64 _ (by omega)
 have w2:IntKind.i64.wrap (16*hexI x+hexI y)=16*hexI x+hexI y:=wr64 _ (by omega)
 have w3:IntKind.u8.wrap (16*hexI x+hexI y)=((UInt8.ofNat (16*hexI x+hexI y).toNat).toNat:Int):=by
  rw [wr8 (by omega),u8_ofNat _ (by omega)]; omega
 simp -implicitDefEqProofs only [go_sem,d0,d1,d2,d3]
 refine .quiet (by kernel_rfl) ?_
 simp -implicitDefEqProofs only [go_sem]
 refine .at 1 (by simp) ?_
 simp -implicitDefEqProofs only [go_sem,byteA,List.getElem_cons_zero,List.getElem_cons_succ]
 refine ⟨_,digit_ok x _, ?_⟩
 simp -implicitDefEqProofs only [go_sem]
 refine .at 2 (by simp) ?_
 simp -implicitDefEqProofs only [go_sem,byteA,List.getElem_cons_zero,List.getElem_cons_succ]
 refine ⟨_,digit_ok y _, ?_⟩
 simp -implicitDefEqProofs only [go_sem,w1,w2,w3]
 refine (plain_ok _ _).pthen ?_
 simp -implicitDefEqProofs only [go_sem]
 refine .same (.refl _) ⟨⟨((UInt8.ofNat (16*hexI x+hexI y).toNat).toNat:Int), ?_,fun c hc=> ?_⟩,rfl⟩
 ·cases d5:oddB (UInt8.ofNat (16*hexI x+hexI y).toNat)<;>simp [oddD,e1,e2,e3,d5,oneOr]
 ·simp only [oddD] at hc
  split at hc
  ·cases hc; rfl
  ·cases hc
end Go.Proofs.YtmlhcdeamjkpjaaGreatDoor

set_option linter.unusedSimpArgs false
set_option linter.unusedVariables false
namespace Go.Proofs.YtmlhcdeamjkpjaaGreatDoor
open Go Go.Ab Go.Bf
theorem u5z:(U 5).sz=1:=by simp only [go_sem]
theorem u5b:(U 5).bytes=1:=by simp only [go_sem]
theorem byteA_sized (l:List UInt8):Sized 1 (l.map byteA):=fun z hz=>by
 obtain ⟨c,_,rfl⟩:=List.mem_map.1 hz; rfl
theorem text_ok (s:Txt) (hs:s.length≤10000) (h:Heap):FnOK Tryz.prog 203 [.s s] h fun r h' =>r= .tup [.s (textD s).1, .v (.int .i64 (textD s).2)]∧h' =h:=by
 refine FnOK.body hU hm Tryz.func203 rfl (by kernel_rfl) 50 rfl [.tmp 2, .tmp 3] rfl (Nat.le_of_ble_eq_true rfl) (fun hwf=> ?_)
 simp -implicitDefEqProofs only [go_sem]
 refine .intro (fun m ρ h' =>∃(i f:Nat) (y:AV) (out:Txt),Acc U 5 h h' y (out.map byteA)∧out.length≤i∧m=s.length+1 - i∧i≤s.length+3∧s.length≤f+i∧textF f (s.drop i) i out=textD s∧lk ρ 0=some (.s s)∧lk ρ 4=some y∧lk ρ 5=some (.v (.int .i64 i))) s.length ?_ ?_
 ·refine ⟨1,s.length, .sl [] .full,[], .full (.refl _),by simp,by omega,by omega,by omega,rfl, ?_, ?_, ?_⟩<;>simp -implicitDefEqProofs only [go_sem]
 ·rintro m ρ h' ⟨i,f,y,out,hy,hoi,rfl,hi,hf,he,r0,r4,r5⟩
  cases d1:decide ((i:Int)<(s.length:Int))
  ·have hge:s.length≤i:=by have:=of_decide_eq_false d1; omega
   have hd:s.drop i= []:=List.drop_of_length_le hge
   have:textD s=([],0):=by
    rw [←he,hd]
    cases f<;>rfl
   simp -implicitDefEqProofs only [go_sem,r0,r4,r5,d1]
   exact .mk _ (.refl _) hy.1 ⟨by rw [this]; rfl,rfl⟩
  have hlt:i<s.length:=by have:=of_decide_eq_true d1; omega
  obtain ⟨f,rfl⟩:∃g,f=g+1:=⟨f - 1,by omega⟩
  have hdr:s.drop i=s[i]::s.drop (i+1):=List.drop_eq_getElem_cons hlt
  rw [hdr] at he
  simp only [textF] at he
  have w1:IntKind.i64.wrap ((i:Int)+1)=((i+1:Nat):Int):=by rw [wr64 _ (by omega)]; omega
  have w3:IntKind.i64.wrap ((i:Int)+3)=((i+3:Nat):Int):=by rw [wr64 _ (by omega)]; omega
  simp -implicitDefEqProofs only [go_sem,r0,r4,r5,d1]
  refine .at i hlt ?_
  cases d2:((s[i].toNat:Int)==34)
  case true=>
   have e2:s[i]=34:=by
    have:(s[i].toNat:Int)=34:=by simpa using d2
    exact UInt8.toNat_inj.1 (by show s[i].toNat=34; omega)
   rw [if_pos e2] at he
   cases d3:decide (64<(out.length:Int))
   case true=>
    have e3:64<out.length:=by have:=of_decide_eq_true d3; omega
    rw [if_pos e3] at he
    simp -implicitDefEqProofs only [go_sem,r0,r4,r5,d1,byteA,d2,hy.len,List.length_map,d3]
    exact .mk _ (.refl _) hy.1 ⟨by rw [←he]; rfl,rfl⟩
   have e3:¬64<out.length:=by have:=of_decide_eq_false d3; omega
   rw [if_neg e3] at he
   simp -implicitDefEqProofs only [go_sem,r0,r4,r5,d1,byteA,d2,hy.len,List.length_map,d3,w1]
   obtain ⟨q,rfl⟩:=hy.row
   simp -implicitDefEqProofs only [go_sem,r0,r4,r5,w1]
   exact .mk _ (.refl _) hy.1 ⟨by rw [←he]; rfl,rfl⟩
  have e2:s[i]≠34:=by intro e; rw [e] at d2; simp at d2
  rw [if_neg e2] at he
  simp -implicitDefEqProofs only [go_sem,r0,r4,r5,d1,byteA,d2]
  refine .at i hlt ?_
  simp -implicitDefEqProofs only [go_sem,r0,r4,r5,d1,byteA,d2]
  refine (plain_ok _ _).pthen ?_
  cases d4:oddB s[i]
  ·rw [if_pos d4] at he
   simp -implicitDefEqProofs only [go_sem,r0,r4,r5,d4]
   refine .at i hlt ?_
   simp -implicitDefEqProofs only [go_sem,r0,r4,r5,d4,byteA]
   refine hy.app (zs:= [byteA s[i]]) (by rw [u5z]; decide) (by rw [u5b]; decide) (fun k hk=>hk) (by rw [u5z]; exact byteA_sized out) (by rw [u5z]; exact byteA_sized [s[i]]) (by rw [u5b]; simp; omega) fun y' h2 hy' hk2=> ?_
   simp -implicitDefEqProofs only [go_sem,r0,r4,r5,d4,w1]
   refine ⟨_, ?_,i+1,f,y',out++ [s[i]],by simpa using hy',by simp; omega,rfl,by omega,by omega,he, ?_, ?_, ?_⟩
   ·omega
   all_goals simp -implicitDefEqProofs only [go_sem,r0,r4,r5,w1]
  ·rw [if_neg (by simp [d4])] at he
   simp -implicitDefEqProofs only [go_sem,r0,r4,r5,d4]
   refine ⟨by omega, ?_⟩
   simp -implicitDefEqProofs only [go_sem,Option.isSome_none,Option.isSome_some,cutL_tf,Int.toNat_natCast,r0,r4,r5]
   refine ⟨by omega,by omega, ?_⟩
   refine (odd_ok _ _).mono fun x h2 hx=> ?_
   obtain ⟨⟨v,rfl,hv⟩,rfl⟩:=hx
   rw [←hdr] at he
   cases e5:oddD (s.drop i) with
   |none=>
    rw [e5] at he
    simp -implicitDefEqProofs only [go_sem,r0,r4,r5,Option.isSome_none]
    exact .mk _ (.refl _) hy.1 ⟨by rw [←he]; rfl,rfl⟩
   |some b=>
    rw [e5] at he
    have hvb:=hv b e5
    subst hvb
    have h3:=oddD_len e5
    simp only [List.length_drop] at h3
    simp -implicitDefEqProofs only [go_sem,r0,r4,r5,Option.isSome_some]
    refine hy.app (zs:= [byteA b]) (by rw [u5z]; decide) (by rw [u5b]; decide) (fun k hk=>hk) (by rw [u5z]; exact byteA_sized out) (by rw [u5z]; exact byteA_sized [b]) (by rw [u5b]; simp; omega) fun y' h2 hy' hk2=> ?_
    simp -implicitDefEqProofs only [go_sem,r0,r4,r5,w3]
    refine ⟨_, ?_,i+3,f,y',out++ [b],by simpa using hy',by simp; omega,rfl,by omega,by omega, ?_, ?_, ?_, ?_⟩
    ·omega
    ·simp only [List.drop_drop] at he
     exact he
    all_goals simp -implicitDefEqProofs only [go_sem,r0,r4,r5,w3]
end Go.Proofs.YtmlhcdeamjkpjaaGreatDoor

set_option linter.unusedVariables false
namespace Go.Bf
open Go Go.Ab
theorem dgt_iff (c:UInt8):dgt c=true↔48≤c.toNat∧c.toNat≤57:=by
 simp only [dgt,Bool.and_eq_true,decide_eq_true_eq]; omega
def decA (acc:Nat) (l:Txt):Nat:=l.foldl (fun n c=>n*10+(c.toNat - 48)) acc
theorem decA_cons (acc:Nat) (c:UInt8) (r:Txt):decA acc (c::r)=decA (acc*10+(c.toNat - 48)) r:=List.foldl_cons ..
theorem dec_mono:∀(l:Txt) (acc:Nat),acc≤decA acc l
 | [],acc=>Nat.le_refl _
 |c::r,acc=>by rw [decA_cons]; exact Nat.le_trans (by omega) (dec_mono r (acc*10+(c.toNat - 48)))
theorem parse_digits:∀(l:Txt) (acc:Nat),(∀c∈l,dgt c=true)→acc<18446744073709551616→
  Lib.parseUint10 acc l=if decA acc l<18446744073709551616 then .ok (decA acc l) else .range
 | [],acc,_,ha=>by
  have:decA acc []=acc:=rfl
  rw [this,if_pos ha]; rfl
 |c::r,acc,hd,ha=>by
  have hc:=(dgt_iff c).1 (hd c (by simp))
  have hm:=dec_mono r (acc*10+(c.toNat - 48))
  rw [decA_cons]
  unfold Lib.parseUint10
  rw [if_pos hc]
  split
  ·rw [if_neg (by omega)]
  ·split
   ·rw [if_neg (by omega)]
   ·exact parse_digits r _ (fun x hx=>hd x (by simp [hx])) (by omega)
def signT (neg:Bool):Txt:=if neg then [45] else []
theorem atoi_digits (neg:Bool) (d:Txt) (h0:d≠ []) (hd:∀c∈d,dgt c=true):
  Lib.atoiAll (signT neg++d)=if -9223372036854775808≤(if neg then -(decV d:Int) else (decV d:Int))∧(if neg then -(decV d:Int) else (decV d:Int))≤9223372036854775807 then .ok (if neg then -(decV d:Int) else (decV d:Int)) else .range:=by
 have hp:Lib.parseMag d=if decV d<18446744073709551616 then .ok (decV d) else .range:=by
  unfold Lib.parseMag
  rw [if_neg h0]
  exact parse_digits d 0 hd (by decide)
 cases neg
 ·obtain ⟨c,r,rfl⟩:=List.exists_cons_of_ne_nil h0
  have hc:=(dgt_iff c).1 (hd c (by simp))
  simp only [signT,Bool.false_eq_true,if_false,List.nil_append,Lib.atoiAll]
  rw [if_neg (by omega),hp]
  have e45:(c.toNat=45)=False:=by simp; omega
  simp only [e45,not_false_eq_true,true_and,false_and,if_false]
  split
  ·rename_i h; split at h
   ·cases h
   ·cases h
  ·rename_i h; split at h
   ·cases h
   ·rw [if_neg (by omega)]
  ·rename_i u h; split at h
   ·cases h
    split
    ·rw [if_neg (by omega)]
    ·rw [if_pos (by omega)]
   ·cases h
 ·simp only [signT,if_true,List.cons_append,List.nil_append,Lib.atoiAll]
  rw [if_pos (.inr (by decide)),hp]
  simp only [show ((45:UInt8).toNat=45)=True by simp,not_true_eq_false,false_and,if_false,true_and,if_true]
  split
  ·rename_i h; split at h
   ·cases h
   ·cases h
  ·rename_i h; split at h
   ·cases h
   ·rw [if_neg (by omega)]
  ·rename_i u h; split at h
   ·cases h
    split
    ·rw [if_neg (by omega)]
    ·rw [if_pos (by omega)]
   ·cases h
theorem takeWhile_dgt (s:Txt):∀c∈s.takeWhile dgt,dgt c=true:=fun c hc=>by
 induction s with
 |nil=>cases hc
 |cons x r ih=>
  simp only [List.takeWhile_cons] at hc
  split at hc
  ·rename_i hx
   rcases List.mem_cons.1 hc with rfl|hc
   ·exact hx
   ·exact ih hc
  ·cases hc
end Go.Bf

set_option linter.unusedVariables false
namespace Go.Proofs
open Go.Shelf
def Tryz.lays137_ren:Go.Shelf.Ren:=⟨fun|137=>204|217=>251|266=>274|n=>n,fun|9=>9|5=>5|3=>3|n=>n,fun|n=>n⟩
theorem Tryz.lays137:Go.Proofs.Lays.n137 Tryz.prog Tryz.lays137_ren:= {
 mixed:=by kernel_rfl
 f137:=Tryz.func204.trans (congrArg some (by kernel_rfl))
 f217:=Tryz.func251.trans (congrArg some (by kernel_rfl))
 f266:=Tryz.func274.trans (congrArg some (by kernel_rfl))
 t3:=Tryz.underlying3
 a3:=Tryz.isAgg3
 z3:=Tryz.sizeOf3
 v3:=Tryz.zeroValue3
 t5:=Tryz.underlying5
 a5:=Tryz.isAgg5
 z5:=Tryz.sizeOf5
 v5:=Tryz.zeroValue5
 t9:=Tryz.underlying9
 a9:=Tryz.isAgg9
 z9:=Tryz.sizeOf9
 v9:=Tryz.zeroValue9}
open Go.RowKit in
theorem Tryz.strings_IndexByte (s:ByteArray) (c:Int) (w:World):
  Calls Tryz.prog 204 #[.string s, .int .u8 c] w fun e w' =>e= .returned (.int .i64 (Lib.indexByte s.data.toList c.toNat.toUInt8))∧w' =w:=Any.strings_IndexByte Tryz.lays137 s c w
def Tryz.laysC172_ren:Go.Shelf.Ren:=⟨fun|172=>248|244=>271|245=>272|247=>291|279=>292|280=>293|281=>294|282=>295|287=>315|316=>316|171=>318|205=>317|321=>321|322=>322|243=>323|246=>324|283=>325|284=>326|285=>327|286=>328|129=>330|317=>329|318=>331|319=>332|320=>333|337=>334|338=>335|n=>n,fun|9=>9|3=>3|75=>310|76=>311|4=>4|5=>5|167=>357|37=>236|0=>0|85=>358|2=>2|168=>360|53=>231|175=>372|46=>279|210=>375|127=>381|145=>384|143=>382|21=>21|171=>386|173=>389|212=>392|51=>393|20=>20|213=>394|232=>397|233=>398|80=>223|n=>n,fun|15=>1|16=>2|17=>3|18=>4|19=>5|n=>n⟩
theorem Tryz.laysC172:Go.Proofs.LaysC.n172 Tryz.prog Tryz.laysC172_ren:= {
 mixed:=by kernel_rfl
 f129:=Tryz.func330.trans (congrArg some (by kernel_rfl))
 f171:=Tryz.func318.trans (congrArg some (by kernel_rfl))
 f172:=Tryz.func248.trans (congrArg some (by kernel_rfl))
 f205:=Tryz.func317.trans (congrArg some (by kernel_rfl))
 f243:=Tryz.func323.trans (congrArg some (by kernel_rfl))
 f244:=Tryz.func271.trans (congrArg some (by kernel_rfl))
 f245:=Tryz.func272.trans (congrArg some (by kernel_rfl))
 f246:=Tryz.func324.trans (congrArg some (by kernel_rfl))
 f247:=Tryz.func291.trans (congrArg some (by kernel_rfl))
 f279:=Tryz.func292.trans (congrArg some (by kernel_rfl))
 f280:=Tryz.func293.trans (congrArg some (by kernel_rfl))
 f281:=Tryz.func294.trans (congrArg some (by kernel_rfl))
 f282:=Tryz.func295.trans (congrArg some (by kernel_rfl))
 f283:=Tryz.func325.trans (congrArg some (by kernel_rfl))
 f284:=Tryz.func326.trans (congrArg some (by kernel_rfl))
 f285:=Tryz.func327.trans (congrArg some (by kernel_rfl))
 f286:=Tryz.func328.trans (congrArg some (by kernel_rfl))
 f287:=Tryz.func315.trans (congrArg some (by kernel_rfl))
 f316:=Tryz.func316.trans (congrArg some (by kernel_rfl))
 f317:=Tryz.func329.trans (congrArg some (by kernel_rfl))
 f318:=Tryz.func331.trans (congrArg some (by kernel_rfl))
 f319:=Tryz.func332.trans (congrArg some (by kernel_rfl))
 f320:=Tryz.func333.trans (congrArg some (by kernel_rfl))
 f321:=Tryz.func321.trans (congrArg some (by kernel_rfl))
 f322:=Tryz.func322.trans (congrArg some (by kernel_rfl))
 f337:=Tryz.func334.trans (congrArg some (by kernel_rfl))
 f338:=Tryz.func335.trans (congrArg some (by kernel_rfl))
 t0:=Tryz.underlying0
 a0:=Tryz.isAgg0
 z0:=Tryz.sizeOf0
 v0:=Tryz.zeroValue0
 t2:=Tryz.underlying2
 a2:=Tryz.isAgg2
 z2:=Tryz.sizeOf2
 v2:=Tryz.zeroValue2
 t3:=Tryz.underlying3
 a3:=Tryz.isAgg3
 z3:=Tryz.sizeOf3
 v3:=Tryz.zeroValue3
 t4:=Tryz.underlying4
 a4:=Tryz.isAgg4
 z4:=Tryz.sizeOf4
 v4:=Tryz.zeroValue4
 t5:=Tryz.underlying5
 a5:=Tryz.isAgg5
 z5:=Tryz.sizeOf5
 v5:=Tryz.zeroValue5
 t9:=Tryz.underlying9
 a9:=Tryz.isAgg9
 z9:=Tryz.sizeOf9
 v9:=Tryz.zeroValue9
 t20:=Tryz.underlying20
 a20:=Tryz.isAgg20
 z20:=Tryz.sizeOf20
 v20:=Tryz.zeroValue20
 t21:=Tryz.underlying21
 a21:=Tryz.isAgg21
 z21:=Tryz.sizeOf21
 v21:=Tryz.zeroValue21
 t37:=Tryz.underlying236
 a37:=Tryz.isAgg236
 z37:=Tryz.sizeOf236
 v37:=Tryz.zeroValue236
 t46:=Tryz.underlying279
 a46:=Tryz.isAgg279
 z46:=Tryz.sizeOf279
 v46:=Tryz.zeroValue279
 t51:=Tryz.underlying393
 a51:=Tryz.isAgg393
 z51:=Tryz.sizeOf393
 v51:=Tryz.zeroValue393
 t53:=Tryz.underlying231
 a53:=Tryz.isAgg231
 z53:=Tryz.sizeOf231
 v53:=Tryz.zeroValue231
 t75:=Tryz.underlying310
 a75:=Tryz.isAgg310
 z75:=Tryz.sizeOf310
 v75:=Tryz.zeroValue310
 t76:=Tryz.underlying311
 a76:=Tryz.isAgg311
 z76:=Tryz.sizeOf311
 v76:=Tryz.zeroValue311
 t85:=Tryz.underlying358
 a85:=Tryz.isAgg358
 z85:=Tryz.sizeOf358
 v85:=Tryz.zeroValue358
 t127:=Tryz.underlying381
 a127:=Tryz.isAgg381
 z127:=Tryz.sizeOf381
 v127:=Tryz.zeroValue381
 t143:=Tryz.underlying382
 a143:=Tryz.isAgg382
 z143:=Tryz.sizeOf382
 v143:=Tryz.zeroValue382
 t145:=Tryz.underlying384
 a145:=Tryz.isAgg384
 z145:=Tryz.sizeOf384
 v145:=Tryz.zeroValue384
 t167:=Tryz.underlying357
 a167:=Tryz.isAgg357
 z167:=Tryz.sizeOf357
 v167:=Tryz.zeroValue357
 t168:=Tryz.underlying360
 a168:=Tryz.isAgg360
 z168:=Tryz.sizeOf360
 v168:=Tryz.zeroValue360
 t171:=Tryz.underlying386
 a171:=Tryz.isAgg386
 z171:=Tryz.sizeOf386
 v171:=Tryz.zeroValue386
 t173:=Tryz.underlying389
 a173:=Tryz.isAgg389
 z173:=Tryz.sizeOf389
 v173:=Tryz.zeroValue389
 t175:=Tryz.underlying372
 a175:=Tryz.isAgg372
 z175:=Tryz.sizeOf372
 v175:=Tryz.zeroValue372
 t210:=Tryz.underlying375
 a210:=Tryz.isAgg375
 z210:=Tryz.sizeOf375
 v210:=Tryz.zeroValue375
 t212:=Tryz.underlying392
 a212:=Tryz.isAgg392
 z212:=Tryz.sizeOf392
 v212:=Tryz.zeroValue392
 t213:=Tryz.underlying394
 a213:=Tryz.isAgg394
 z213:=Tryz.sizeOf394
 t232:=Tryz.underlying397
 a232:=Tryz.isAgg397
 z232:=Tryz.sizeOf397
 v232:=Tryz.zeroValue397
 t233:=Tryz.underlying398
 a233:=Tryz.isAgg398
 z233:=Tryz.sizeOf398
 v233:=Tryz.zeroValue398
 g15:=by kernel_rfl
 g16:=by kernel_rfl
 g17:=by kernel_rfl
 g18:=by kernel_rfl
 g19:=by kernel_rfl
 t80:=Tryz.underlying223
 a80:=Tryz.isAgg223
 z80:=Tryz.sizeOf223
 v80:=Tryz.zeroValue223
 i0:=by kernel_rfl
 i2:=by kernel_rfl
 i3:=by kernel_rfl
 i4:=by kernel_rfl
 i5:=by kernel_rfl
 i9:=by kernel_rfl
 i20:=by kernel_rfl
 i21:=by kernel_rfl
 i37:=by kernel_rfl
 i46:=by kernel_rfl
 i51:=by kernel_rfl
 i53:=by kernel_rfl
 i75:=by kernel_rfl
 i76:=by kernel_rfl
 i80:=by kernel_rfl
 i85:=by kernel_rfl
 i127:=by kernel_rfl
 i143:=by kernel_rfl
 i145:=by kernel_rfl
 i167:=by kernel_rfl
 i168:=by kernel_rfl
 i171:=by kernel_rfl
 i173:=by kernel_rfl
 i175:=by kernel_rfl
 i210:=by kernel_rfl
 i212:=by kernel_rfl
 i232:=by kernel_rfl
 i233:=by kernel_rfl
 m15:=by kernel_rfl
 m16:=by kernel_rfl
 m17:=by kernel_rfl
 m18:=by kernel_rfl
 m19:=by kernel_rfl
 c0:=by kernel_rfl
 c2:=by kernel_rfl
 c3:=by kernel_rfl
 c4:=by kernel_rfl
 c5:=by kernel_rfl
 c9:=by kernel_rfl
 c20:=by kernel_rfl
 c21:=by kernel_rfl
 c37:=by kernel_rfl
 c46:=by kernel_rfl
 c51:=by kernel_rfl
 c53:=by kernel_rfl
 c75:=by kernel_rfl
 c76:=by kernel_rfl
 c80:=by kernel_rfl
 c85:=by kernel_rfl
 c127:=by kernel_rfl
 c143:=by kernel_rfl
 c145:=by kernel_rfl
 c167:=by kernel_rfl
 c168:=by kernel_rfl
 c171:=by kernel_rfl
 c173:=by kernel_rfl
 c175:=by kernel_rfl
 c210:=by kernel_rfl
 c212:=by kernel_rfl
 c213:=by kernel_rfl
 c232:=by kernel_rfl
 c233:=by kernel_rfl}
open Go.RowKit in
theorem Tryz.strconv_Atoi_ok (s:ByteArray) (hmax:s.size≤9223372036854775806) (v:Int) (h:Lib.atoiAll s.data.toList= .ok v) (w:World):
  Calls Tryz.prog 248 #[.string s] w fun e w' =>e= .returned (.tuple #[.int .i64 v, .nilIface])∧(w' =w∨∃t,w' =Lib.bytesWorld w 5 t):=Any.strconv_Atoi_ok Tryz.laysC172 s hmax v h w
open Go.RowKit in
theorem Tryz.strconv_Atoi_range (s:ByteArray) (hlim:s.size≤281474976710656) (h:Lib.atoiAll s.data.toList= .range) (ev:Value) (w:World) (hv:w.cell? ⟨2,0,none⟩=some ev) (hev:ev= .nilIface∨∃te pe,ev= .iface te pe):
  Calls Tryz.prog 248 #[.string s] w fun e w' =>∃N,e= .returned (.tuple #[.int .i64 (Lib.atoiSat s.data.toList), .iface 360 (.pointer (some ⟨N,0,none⟩))])∧w.heap.size≤N∧w'.heap[N]? =some (.cells #[.string ⟨#[65,116,111,105]⟩, .string s,ev] 375 (0,0))∧Below w.heap.size w w' :=Any.strconv_Atoi_range Tryz.laysC172 s hlim h ev w hv hev
end Go.Proofs

set_option linter.unusedSimpArgs false
set_option linter.unusedVariables false
namespace Go.Proofs.YtmlhcdeamjkpjaaGreatDoor
open Go Go.Ab Go.Bf Go.RowKit
theorem run_calls (s:Txt) (hs:s.length≤100000) (w:World):Calls Tryz.prog 246 #[.string ⟨s.toArray⟩, .func (.func 201) #[] #[]] w fun e w' =>e= .returned (.int .i64 (s.takeWhile dgt).length)∧Below w.heap.size w w' :=by
 refine Go.Ab.FnOK.calls (args:= [.s s, .fn 201 []]) ⟨_,Tryz.func246,by kernel_rfl,rfl⟩ ((run_ok _ _ isDigit_ok s noHeap).mono fun _ _ h=>h.1) rfl (fun i hi=> ?_)
 rcases i with _|_|i
 ·exact .s s (by show s.length<lim; have:(100000:Nat)<lim:=(by decide); omega)
 ·exact .fn _ [] #[] rfl (fun i hi=>by cases hi)
 ·simp at hi; omega
def valI (neg:Bool) (d:Txt):Int:=if neg then -(decV d:Int) else (decV d:Int)
def inI (neg:Bool) (d:Txt):Prop:= -9223372036854775808≤(if neg then -(decV d:Int) else (decV d:Int))∧(if neg then -(decV d:Int) else (decV d:Int))≤9223372036854775807
instance (neg:Bool) (d:Txt):Decidable (inI neg d):=inferInstanceAs (Decidable (_∧_))
theorem signT_le (neg:Bool):(signT neg).length≤1:=by cases neg<;>decide
theorem atoi_in (neg:Bool) (d:Txt) (h0:d≠ []) (hd:∀c∈d,dgt c=true) (hlen:d.length≤10000) (S:ByteArray) (hS:S=⟨(signT neg++d).toArray⟩) (hr:inI neg d) (W:World):
  Calls Tryz.prog 248 #[.string S] W fun e w' =>e= .returned (.tuple #[.int .i64 (valI neg d), .nilIface])∧Below W.heap.size W w' :=by
 have hl:=signT_le neg
 have hsz:S.size≤10001:=by rw [hS]; simp [ByteArray.size]; omega
 have ha:Lib.atoiAll S.data.toList= .ok (valI neg d):=by
  rw [hS]
  show Lib.atoiAll (signT neg++d)=_
  rw [atoi_digits neg d h0 hd]
  exact if_pos hr
 refine (Tryz.strconv_Atoi_ok S (by omega) _ ha W).mono ?_
 rintro e w' ⟨rfl,rfl|⟨t,rfl⟩⟩
 ·exact ⟨rfl, .refl _ _⟩
 ·exact ⟨rfl,Lib.bytesWorld_below W _ t⟩
theorem atoi_out (neg:Bool) (d:Txt) (h0:d≠ []) (hd:∀c∈d,dgt c=true) (hlen:d.length≤10000) (S:ByteArray) (hS:S=⟨(signT neg++d).toArray⟩) (hr:¬inI neg d) (W:World) (ev:Value) (hv:W.cell? ⟨2,0,none⟩=some ev) (hev:ev= .nilIface∨∃te pe,ev= .iface te pe):
  Calls Tryz.prog 248 #[.string S] W fun e w' =>(∃(x:Int) (N:Nat),e= .returned (.tuple #[.int .i64 x, .iface 360 (.pointer (some ⟨N,0,none⟩))]))∧Below W.heap.size W w' :=by
 have hl:=signT_le neg
 have hsz:S.size≤10001:=by rw [hS]; simp [ByteArray.size]; omega
 have ha:Lib.atoiAll S.data.toList= .range:=by
  rw [hS]
  show Lib.atoiAll (signT neg++d)=_
  rw [atoi_digits neg d h0 hd]
  exact if_neg hr
 refine (Tryz.strconv_Atoi_range S (by omega) ha ev W hv hev).mono ?_
 rintro e w' ⟨N,rfl,_,_,hb⟩
 exact ⟨⟨_,N,rfl⟩,hb⟩
set_option maxHeartbeats 1000000 in
set_option maxRecDepth 1000000 in
theorem number_walk (neg:Bool) (s:Txt) (hs:s.length≤10000) (w:World) (ev:Value) (hv:w.cell? ⟨2,0,none⟩=some ev) (hev:ev= .nilIface∨∃te pe,ev= .iface te pe) (hg:2<w.heap.size):
  Calls Tryz.prog 202 #[.string ⟨(signT neg).toArray⟩, .string ⟨s.toArray⟩] w fun e w' =>e= .returned (.tuple #[.int .i64 (numD neg s).1, .int .i64 ((numD neg s).2:Nat)])∧Below w.heap.size w w' :=by
 have hle:=takeWhile_le dgt s
 obtain ⟨d,ed⟩:∃d,s.takeWhile dgt=d:=⟨_,rfl⟩
 have htk:s.take d.length=d:=by rw [←ed,takeWhile_take]
 have hrun:=run_calls s (by omega) w
 have hall:=takeWhile_dgt s
 rw [ed] at hrun hle hall
 go_enter Tryz.func202,Tryz.ntmps202
 by_cases h0:d.length=0
 ·have e0:d= []:=List.length_eq_zero_iff.1 h0
  have en:numD neg s=(0,0):=by unfold numD; rw [ed,if_pos (.inl e0)]
  go_wp2_with (go_at_call 246; refine hrun.mono ?_)
  rintro e W0 ⟨rfl,b0⟩
  rw [h0]
  go_wp2
  go_ret2
  rw [en]
  exact ⟨rfl,b0⟩
 ·have e0:d≠ []:=by rintro rfl; exact h0 rfl
  go_wp2_with (go_at_call 246; refine hrun.mono ?_)
  rintro e W0 ⟨rfl,b0⟩
  have hpos:0<d.length:=by omega
  have hs0:0<s.length:=by omega
  have hsz:0<(⟨s.toArray⟩:ByteArray).size:=by simpa [ByteArray.size] using hs0
  have hg0:(⟨s.toArray⟩:ByteArray)[0]=s[0]:=rfl
  have hgn:∀x:UInt8,(s.head? =some x)↔s[0]=x:=fun x=>by
   rw [List.head?_eq_getElem?,List.getElem?_eq_getElem hs0]; simp
  cases d0:((d.length:Int)==0)
  case true=>exact absurd (by simpa using d0) h0
  have hS:(⟨(signT neg).toArray⟩:ByteArray)++(⟨s.toArray⟩:ByteArray).extract 0 d.length=⟨(signT neg++d).toArray⟩:=by
   apply ByteArray.ext
   simp [ByteArray.data_extract,htk]
  have hcat:¬9223372036854775807<List.length (signT neg)+d.length:=by have:=signT_le neg; omega
  cases d1:decide (1<(d.length:Int))
  ·have f1:¬1<d.length:=by have:=of_decide_eq_false d1; omega
   have en:numD neg s=if inI neg d then (valI neg d,d.length) else (0,0):=by
    unfold numD
    rw [ed,if_neg (by simp [e0,f1])]
    rfl
   have hv0:W0.cell? ⟨2,0,none⟩=some ev:=by rw [b0.cell hg]; exact hv
   by_cases hr:inI neg d
   ·rw [if_pos hr] at en
    go_wp2_with (go_at_call 248; refine (atoi_in neg d e0 hall (by omega) _ (by first|exact hS|(apply ByteArray.ext; simp [ByteArray.data_extract,htk])) hr _).mono ?_)
    rintro e W1 ⟨rfl,b1⟩
    go_wp2
    go_ret2
    rw [en]
    exact ⟨rfl,b0.trans (b1.mono b0.size)⟩
   ·rw [if_neg hr] at en
    go_wp2_with (go_at_call 248; refine (atoi_out neg d e0 hall (by omega) _ (by first|exact hS|(apply ByteArray.ext; simp [ByteArray.data_extract,htk])) hr _ ev hv0 hev).mono ?_)
    rintro e W1 ⟨⟨x,N,rfl⟩,b1⟩
    go_wp2
    go_ret2
    rw [en]
    exact ⟨rfl,b0.trans (b1.mono b0.size)⟩
  ·have f1:1<d.length:=by have:=of_decide_eq_true d1; omega
   cases d2:((s[0].toNat:Int)==48)
   ·have f2:s.head?≠some 48:=by
     rw [ne_eq,hgn]; intro e; rw [e] at d2; simp at d2
    have en:numD neg s=if inI neg d then (valI neg d,d.length) else (0,0):=by
     unfold numD
     rw [ed,if_neg (by simp [e0,f2])]
     rfl
    have hv0:W0.cell? ⟨2,0,none⟩=some ev:=by rw [b0.cell hg]; exact hv
    by_cases hr:inI neg d
    ·rw [if_pos hr] at en
     go_wp2_with (go_at_call 248; refine (atoi_in neg d e0 hall (by omega) _ (by first|exact hS|(apply ByteArray.ext; simp [ByteArray.data_extract,htk])) hr _).mono ?_)
     rintro e W1 ⟨rfl,b1⟩
     go_wp2
     go_ret2
     rw [en]
     exact ⟨rfl,b0.trans (b1.mono b0.size)⟩
    ·rw [if_neg hr] at en
     go_wp2_with (go_at_call 248; refine (atoi_out neg d e0 hall (by omega) _ (by first|exact hS|(apply ByteArray.ext; simp [ByteArray.data_extract,htk])) hr _ ev hv0 hev).mono ?_)
     rintro e W1 ⟨⟨x,N,rfl⟩,b1⟩
     go_wp2
     go_ret2
     rw [en]
     exact ⟨rfl,b0.trans (b1.mono b0.size)⟩
   ·have f2:s.head? =some 48:=by
     rw [hgn]
     have:(s[0].toNat:Int)=48:=by simpa using d2
     exact UInt8.toNat_inj.1 (by show s[0].toNat=48; omega)
    have en:numD neg s=(0,0):=by unfold numD; rw [ed,if_pos (.inr ⟨f1,f2⟩)]
    go_wp2
    go_ret2
    rw [en]
    exact ⟨rfl,b0⟩
def ErrT (h:Heap):Prop:=∃ev:Value,(ev= .nilIface∨∃te pe,ev= .iface te pe)∧Tab h 2 [ev]
theorem ErrT.sub {h h' :Heap} (he:ErrT h) (hs:Ab.Sub h h'):ErrT h' :=by
 obtain ⟨ev,h1,h2⟩:=he
 exact ⟨ev,h1,h2.sub hs⟩
theorem number_ok (neg:Bool) (s:Txt) (hs:s.length≤10000) (h:Heap) (he:ErrT h):FnOK Tryz.prog 202 [.s (signT neg), .s s] h fun r h' =>r= .tup [.v (.int .i64 (numD neg s).1), .v (.int .i64 ((numD neg s).2:Nat))]∧h' =h:=by
 obtain ⟨ev,hev,id,hi⟩:=he
 refine .lib ⟨_,Tryz.func202,by kernel_rfl,rfl⟩ fun c vs hs' g h1 h2=> ?_
 obtain ⟨u,v,rfl⟩:∃u v,vs= #[u,v]:=by
  match vs,h1 with
  |⟨[u,v]⟩,_=>exact ⟨u,v,rfl⟩
 have e1:u= .string ⟨(signT neg).toArray⟩:=((h2 0 (by simp)).s_inv).1
 have e2:v= .string ⟨s.toArray⟩:=((h2 1 (by simp)).s_inv).1
 subst e1; subst e2
 obtain ⟨_,t,fr,hh⟩:=g.ro id _ _ (hs' _ _ hi)
 have hc:c.w.cell? ⟨2,0,none⟩=some ev:=by simp [World.cell?,hh]
 refine (number_walk neg s hs c.w ev hc hev (lt_of_get hh)).mono ?_
 rintro e w' ⟨rfl,hb⟩
 refine ⟨⟨_,rfl,fun c' _=> ?_⟩,hb⟩
 refine .tup _ _ rfl fun i hi=> ?_
 rcases i with _|_|i
 ·exact .v _
 ·exact .v _
 ·simp at hi; omega
end Go.Proofs.YtmlhcdeamjkpjaaGreatDoor

set_option linter.unusedSimpArgs false
set_option linter.unusedVariables false
namespace Go.Bf
open Go Go.Ab
def marks:Txt:= [123,125,40,41,46,44,59,61,60,62,33]
set_option maxRecDepth 100000 in
theorem idx_marks_fin:∀n:Fin 256,decide (0≤Lib.indexByte marks (UInt8.ofNat n.val))=markB (UInt8.ofNat n.val):=by decide
theorem idx_marks (c:UInt8):decide (0≤Lib.indexByte marks c)=markB c:=by
 have:=idx_marks_fin ⟨c.toNat,c.toNat_lt⟩
 simpa using this
end Go.Bf
namespace Go.Proofs.YtmlhcdeamjkpjaaGreatDoor
open Go Go.Ab Go.Bf
theorem index_ok (l:Txt) (c:UInt8) (h:Heap):FnOK Tryz.prog 204 [.s l, .v (.int .u8 c.toNat)] h fun r h' =>r= .v (.int .i64 (Lib.indexByte l c))∧h' =h:=by
 refine .lib ⟨_,Tryz.func204,by kernel_rfl,rfl⟩ fun cx vs hs' g h1 h2=> ?_
 obtain ⟨u,v,rfl⟩:∃u v,vs= #[u,v]:=by
  match vs,h1 with
  |⟨[u,v]⟩,_=>exact ⟨u,v,rfl⟩
 have e1:u= .string ⟨l.toArray⟩:=((h2 0 (by simp)).s_inv).1
 have e2:v= .int .u8 c.toNat:=(h2 1 (by simp)).v_inv
 subst e1; subst e2
 refine (Tryz.strings_IndexByte ⟨l.toArray⟩ c.toNat cx.w).mono ?_
 rintro e w' ⟨rfl,rfl⟩
 refine ⟨⟨_,rfl,fun c' _=> ?_⟩, .refl _ _⟩
 have:((c.toNat:Int).toNat).toUInt8=c:=by simp
 rw [this]
 exact .v _
theorem begins_ok (s:Txt) (h0:s≠ []) (hs:s.length≤4096) (h:Heap) (he:ErrT h):FnOK Tryz.prog 150 [.s s] h fun r h' =>r= .tup [tokA (beginsD s).1, .v (.int .i64 ((beginsD s).2:Nat))]∧h' =h:=by
 refine FnOK.body hU hm Tryz.func150 rfl (by kernel_rfl) 106 rfl [.cell 2 168, .tmp 3] rfl (Nat.le_of_ble_eq_true rfl) (fun hwf=> ?_)
 obtain ⟨c,r,rfl⟩:=List.exists_cons_of_ne_nil h0
 have hsl:r.length≤4095:=by simpa using hs
 simp -implicitDefEqProofs only [go_sem]
 intro i2 hi2
 simp -implicitDefEqProofs only [go_sem]
 intro i4 hi4
 have n24:=ne_upd hi4
 have g2:∀(f:Heap) (x:Option Blk),upd f i4 x i2=f i2:=fun f x=>upd_other f x n24.symm
 have g4:∀(f:Heap) (x:Option Blk),upd f i2 x i4=f i4:=fun f x=>upd_other f x n24
 have hsub:Ab.Sub h (upd (upd h i2 (some (.obj [.v (.int .i64 0), .v (.int .i64 0), .v (.int .i64 0), .s []] 168))) i4 (some (.obj [.v (.int .i64 0), .v (.int .i64 0), .v (.int .i64 0), .s []] 168))):=(Sub.upd_new hi2).trans (.upd_new hi4)
 have he2:=he.sub hsub
 have hi4h:h i4=none:=by rw [upd_other _ _ n24] at hi4; exact hi4
 simp -implicitDefEqProofs only [go_sem]
 refine .at 0 (by simp) ?_
 cases la:decide (97≤(c.toNat:Int))
 ·have hl:ltr c=false:=by simp only [ltr,la,Bool.false_and]
  simp -implicitDefEqProofs only [go_sem,byteA,List.getElem_cons_zero,la]
  have hlt:(c::r).headD 0=c:=rfl
  refine (isDigit_ok c _).pthen ?_
  cases d1:dgt c
  case true=>
   simp -implicitDefEqProofs only [go_sem,d1,g2,g4,upd_same]
   refine (number_ok false (c::r) (by simp; omega) _ (he.sub (by repeat (first|exact .refl _|refine Sub.put ?_ (by assumption) _)))).pthen ?_
   simp -implicitDefEqProofs only [go_sem,d1,g2,g4,upd_same]
   exact .mk _ (.refl _) (by repeat (first|exact .refl _|refine Sub.put ?_ (by assumption) _)) ⟨by simp [beginsD,hl,d1,tokA,oneOr],rfl⟩
  have nb:∀(x:UInt8) (n:Int),n=x.toNat→((c.toNat:Int)==n)=true→c=x:=fun x n e h=>by
   have:(c.toNat:Int)=n:=by simpa using h
   exact UInt8.toNat_inj.1 (by omega)
  have nn:∀(x:UInt8) (n:Int),n=x.toNat→((c.toNat:Int)==n)=false→c≠x:=fun x n e h hc=>by
   subst hc; rw [e] at h; simp at h
  have k1:=numD_le true r
  have k2:=numD_le false r
  have k3:=wordD_le r
  cases d2:((c.toNat:Int)==45)
  case true=>
   have e2:=nb 45 45 rfl d2
   simp -implicitDefEqProofs only [go_sem,d1,d2,g2,g4,upd_same,cutL_tf,Option.isSome_none,Option.isSome_some,Int.reduceToNat,List.drop_succ_cons,List.drop_zero,List.length_cons]
   refine ⟨by omega,by omega,by omega, ?_⟩
   refine (number_ok true r (by omega) _ (he.sub (by repeat (first|exact .refl _|refine Sub.put ?_ (by assumption) _)))).pthen ?_
   cases d3:((numD true r).1==0)
   ·have e3:(numD true r).1≠0:=by simpa using d3
    have w1:IntKind.i64.wrap (((numD true r).2:Int)+1)=(((numD true r).2+1:Nat):Int):=by rw [wr64 _ (by omega)]; omega
    simp -implicitDefEqProofs only [go_sem,d1,d2,d3,g2,g4,upd_same,w1]
    exact .mk _ (.refl _) (by repeat (first|exact .refl _|refine Sub.put ?_ (by assumption) _)) ⟨by subst e2; simp [beginsD,hl,d1,e3,tokA,oneOr],rfl⟩
   ·have e3:(numD true r).1=0:=by simpa using d3
    simp -implicitDefEqProofs only [go_sem,d1,d2,d3,g2,g4,upd_same]
    exact .mk _ (.refl _) (by repeat (first|exact .refl _|refine Sub.put ?_ (by assumption) _)) ⟨by subst e2; simp [beginsD,hl,d1,e3,tokA,oneOr],rfl⟩
  have e2:=nn 45 45 rfl d2
  cases d4:((c.toNat:Int)==64)
  case true=>
   have e4:=nb 64 64 rfl d4
   simp -implicitDefEqProofs only [go_sem,d1,d2,d4,g2,g4,upd_same,cutL_tf,Option.isSome_none,Option.isSome_some,Int.reduceToNat,List.drop_succ_cons,List.drop_zero,List.length_cons]
   refine ⟨by omega,by omega,by omega, ?_⟩
   refine (number_ok false r (by omega) _ (he.sub (by repeat (first|exact .refl _|refine Sub.put ?_ (by assumption) _)))).pthen ?_
   cases d3:(((numD false r).2:Int)==0)
   case true=>
    have e3:(numD false r).2=0:=by simpa using d3
    simp -implicitDefEqProofs only [go_sem,d1,d2,d4,d3,g2,g4,upd_same]
    exact .mk _ (.refl _) (by repeat (first|exact .refl _|refine Sub.put ?_ (by assumption) _)) ⟨by subst e4; simp [beginsD,hl,d1,e3,tokA,oneOr],rfl⟩
   have e3:(numD false r).2≠0:=by simpa using d3
   cases d5:decide (1099511627776<(numD false r).1)
   ·have e5:¬1099511627776<(numD false r).1:=of_decide_eq_false d5
    have w1:IntKind.i64.wrap (((numD false r).2:Int)+1)=(((numD false r).2+1:Nat):Int):=by rw [wr64 _ (by omega)]; omega
    simp -implicitDefEqProofs only [go_sem,d1,d2,d4,d3,d5,g2,g4,upd_same,w1]
    exact .mk _ (.refl _) (by repeat (first|exact .refl _|refine Sub.put ?_ (by assumption) _)) ⟨by subst e4; simp [beginsD,hl,d1,e3,e5,tokA,oneOr],rfl⟩
   ·have e5:1099511627776<(numD false r).1:=of_decide_eq_true d5
    simp -implicitDefEqProofs only [go_sem,d1,d2,d4,d3,d5,g2,g4,upd_same]
    exact .mk _ (.refl _) (by repeat (first|exact .refl _|refine Sub.put ?_ (by assumption) _)) ⟨by subst e4; simp [beginsD,hl,d1,e3,e5,tokA,oneOr],rfl⟩
  have e4:=nn 64 64 rfl d4
  cases d6:((c.toNat:Int)==35)
  case true=>
   have e6:=nb 35 35 rfl d6
   simp -implicitDefEqProofs only [go_sem,d1,d2,d4,d6,g2,g4,upd_same,cutL_tf,Option.isSome_none,Option.isSome_some,Int.reduceToNat,List.drop_succ_cons,List.drop_zero,List.length_cons]
   refine ⟨by omega,by omega,by omega, ?_⟩
   refine (name_ok' r _).pthen ?_
   cases d3:(wordD r== [])
   ·have e3:wordD r≠ []:=by simpa using d3
    have w1:IntKind.i64.wrap (((wordD r).length:Int)+1)=(((wordD r).length+1:Nat):Int):=by rw [wr64 _ (by omega)]; omega
    simp -implicitDefEqProofs only [go_sem,d1,d2,d4,d6,d3,g2,g4,upd_same,w1]
    exact .mk _ (.refl _) (by repeat (first|exact .refl _|refine Sub.put ?_ (by assumption) _)) ⟨by subst e6; simp [beginsD,hl,d1,e3,tokA,oneOr],rfl⟩
   ·have e3:wordD r= []:=by simpa using d3
    simp -implicitDefEqProofs only [go_sem,d1,d2,d4,d6,d3,g2,g4,upd_same]
    exact .mk _ (.refl _) (by repeat (first|exact .refl _|refine Sub.put ?_ (by assumption) _)) ⟨by subst e6; simp [beginsD,hl,d1,e3,tokA,oneOr],rfl⟩
  have e6:=nn 35 35 rfl d6
  cases d7:((c.toNat:Int)==34)
  case true=>
   have e7:=nb 34 34 rfl d7
   simp -implicitDefEqProofs only [go_sem,d1,d2,d4,d6,d7,g2,g4,upd_same]
   refine (text_ok (c::r) (by simp; omega) _).pthen ?_
   simp -implicitDefEqProofs only [go_sem,d1,d2,d4,d6,d7,g2,g4,upd_same]
   exact .mk _ (.refl _) (by repeat (first|exact .refl _|refine Sub.put ?_ (by assumption) _)) ⟨by subst e7; simp [beginsD,hl,d1,tokA,oneOr],rfl⟩
  have e7:=nn 34 34 rfl d7
  simp -implicitDefEqProofs only [go_sem,d1,d2,d4,d6,d7,g2,g4,upd_same]
  refine (index_ok marks c _).pthen ?_
  cases d8:markB c
  ·simp -implicitDefEqProofs only [go_sem,d1,d2,d4,d6,d7,g2,g4,upd_same,idx_marks,d8]
   exact .mk _ (.refl _) (by repeat (first|exact .refl _|refine Sub.put ?_ (by assumption) _)) ⟨by simp [beginsD,hl,d1,e2,e4,e6,e7,d8,tokA,oneOr],rfl⟩
  ·simp -implicitDefEqProofs only [go_sem,d1,d2,d4,d6,d7,g2,g4,upd_same,idx_marks,d8]
   refine .calls noHeap [0,1,2,3,4,5,6] (fun _ _ h=>by cases h) (by kernel_rfl) rfl ?_
   simp -implicitDefEqProofs only [go_sem,d1,d2,d4,d6,d7,d8,g2,g4,upd_same,cutL_ft,Option.isSome_none,Option.isSome_some,Int.reduceToNat,List.take_succ_cons,List.take_zero,List.length_cons]
   refine ⟨by omega,by omega,by omega,(fun _ _ h=>(by cases h)),(fun _ _ h=>(by cases h)), ?_⟩
   exact .mk _ (.refl _) (by repeat (first|exact .refl _|refine Sub.put ?_ (by assumption) _)) ⟨by simp [beginsD,hl,d1,e2,e4,e6,e7,d8,tokA,oneOr],rfl⟩
 ·cases lb:decide ((c.toNat:Int)≤122)
  ·have hl:ltr c=false:=by simp only [ltr,lb,Bool.and_false]
   simp -implicitDefEqProofs only [go_sem,byteA,List.getElem_cons_zero,la,lb]
   have hlt:(c::r).headD 0=c:=rfl
   refine (isDigit_ok c _).pthen ?_
   cases d1:dgt c
   case true=>
    simp -implicitDefEqProofs only [go_sem,d1,g2,g4,upd_same]
    refine (number_ok false (c::r) (by simp; omega) _ (he.sub (by repeat (first|exact .refl _|refine Sub.put ?_ (by assumption) _)))).pthen ?_
    simp -implicitDefEqProofs only [go_sem,d1,g2,g4,upd_same]
    exact .mk _ (.refl _) (by repeat (first|exact .refl _|refine Sub.put ?_ (by assumption) _)) ⟨by simp [beginsD,hl,d1,tokA,oneOr],rfl⟩
   have nb:∀(x:UInt8) (n:Int),n=x.toNat→((c.toNat:Int)==n)=true→c=x:=fun x n e h=>by
    have:(c.toNat:Int)=n:=by simpa using h
    exact UInt8.toNat_inj.1 (by omega)
   have nn:∀(x:UInt8) (n:Int),n=x.toNat→((c.toNat:Int)==n)=false→c≠x:=fun x n e h hc=>by
    subst hc; rw [e] at h; simp at h
   have k1:=numD_le true r
   have k2:=numD_le false r
   have k3:=wordD_le r
   cases d2:((c.toNat:Int)==45)
   case true=>
    have e2:=nb 45 45 rfl d2
    simp -implicitDefEqProofs only [go_sem,d1,d2,g2,g4,upd_same,cutL_tf,Option.isSome_none,Option.isSome_some,Int.reduceToNat,List.drop_succ_cons,List.drop_zero,List.length_cons]
    refine ⟨by omega,by omega,by omega, ?_⟩
    refine (number_ok true r (by omega) _ (he.sub (by repeat (first|exact .refl _|refine Sub.put ?_ (by assumption) _)))).pthen ?_
    cases d3:((numD true r).1==0)
    ·have e3:(numD true r).1≠0:=by simpa using d3
     have w1:IntKind.i64.wrap (((numD true r).2:Int)+1)=(((numD true r).2+1:Nat):Int):=by rw [wr64 _ (by omega)]; omega
     simp -implicitDefEqProofs only [go_sem,d1,d2,d3,g2,g4,upd_same,w1]
     exact .mk _ (.refl _) (by repeat (first|exact .refl _|refine Sub.put ?_ (by assumption) _)) ⟨by subst e2; simp [beginsD,hl,d1,e3,tokA,oneOr],rfl⟩
    ·have e3:(numD true r).1=0:=by simpa using d3
     simp -implicitDefEqProofs only [go_sem,d1,d2,d3,g2,g4,upd_same]
     exact .mk _ (.refl _) (by repeat (first|exact .refl _|refine Sub.put ?_ (by assumption) _)) ⟨by subst e2; simp [beginsD,hl,d1,e3,tokA,oneOr],rfl⟩
   have e2:=nn 45 45 rfl d2
   cases d4:((c.toNat:Int)==64)
   case true=>
    have e4:=nb 64 64 rfl d4
    simp -implicitDefEqProofs only [go_sem,d1,d2,d4,g2,g4,upd_same,cutL_tf,Option.isSome_none,Option.isSome_some,Int.reduceToNat,List.drop_succ_cons,List.drop_zero,List.length_cons]
    refine ⟨by omega,by omega,by omega, ?_⟩
    refine (number_ok false r (by omega) _ (he.sub (by repeat (first|exact .refl _|refine Sub.put ?_ (by assumption) _)))).pthen ?_
    cases d3:(((numD false r).2:Int)==0)
    case true=>
     have e3:(numD false r).2=0:=by simpa using d3
     simp -implicitDefEqProofs only [go_sem,d1,d2,d4,d3,g2,g4,upd_same]
     exact .mk _ (.refl _) (by repeat (first|exact .refl _|refine Sub.put ?_ (by assumption) _)) ⟨by subst e4; simp [beginsD,hl,d1,e3,tokA,oneOr],rfl⟩
    have e3:(numD false r).2≠0:=by simpa using d3
    cases d5:decide (1099511627776<(numD false r).1)
    ·have e5:¬1099511627776<(numD false r).1:=of_decide_eq_false d5
     have w1:IntKind.i64.wrap (((numD false r).2:Int)+1)=(((numD false r).2+1:Nat):Int):=by rw [wr64 _ (by omega)]; omega
     simp -implicitDefEqProofs only [go_sem,d1,d2,d4,d3,d5,g2,g4,upd_same,w1]
     exact .mk _ (.refl _) (by repeat (first|exact .refl _|refine Sub.put ?_ (by assumption) _)) ⟨by subst e4; simp [beginsD,hl,d1,e3,e5,tokA,oneOr],rfl⟩
    ·have e5:1099511627776<(numD false r).1:=of_decide_eq_true d5
     simp -implicitDefEqProofs only [go_sem,d1,d2,d4,d3,d5,g2,g4,upd_same]
     exact .mk _ (.refl _) (by repeat (first|exact .refl _|refine Sub.put ?_ (by assumption) _)) ⟨by subst e4; simp [beginsD,hl,d1,e3,e5,tokA,oneOr],rfl⟩
   have e4:=nn 64 64 rfl d4
   cases d6:((c.toNat:Int)==35)
   case true=>
    have e6:=nb 35 35 rfl d6
    simp -implicitDefEqProofs only [go_sem,d1,d2,d4,d6,g2,g4,upd_same,cutL_tf,Option.isSome_none,Option.isSome_some,Int.reduceToNat,List.drop_succ_cons,List.drop_zero,List.length_cons]
    refine ⟨by omega,by omega,by omega, ?_⟩
    refine (name_ok' r _).pthen ?_
    cases d3:(wordD r== [])
    ·have e3:wordD r≠ []:=by simpa using d3
     have w1:IntKind.i64.wrap (((wordD r).length:Int)+1)=(((wordD r).length+1:Nat):Int):=by rw [wr64 _ (by omega)]; omega
     simp -implicitDefEqProofs only [go_sem,d1,d2,d4,d6,d3,g2,g4,upd_same,w1]
     exact .mk _ (.refl _) (by repeat (first|exact .refl _|refine Sub.put ?_ (by assumption) _)) ⟨by subst e6; simp [beginsD,hl,d1,e3,tokA,oneOr],rfl⟩
    ·have e3:wordD r= []:=by simpa using d3
     simp -implicitDefEqProofs only [go_sem,d1,d2,d4,d6,d3,g2,g4,upd_same]
     exact .mk _ (.refl _) (by repeat (first|exact .refl _|refine Sub.put ?_ (by assumption) _)) ⟨by subst e6; simp [beginsD,hl,d1,e3,tokA,oneOr],rfl⟩
   have e6:=nn 35 35 rfl d6
   cases d7:((c.toNat:Int)==34)
   case true=>
    have e7:=nb 34 34 rfl d7
    simp -implicitDefEqProofs only [go_sem,d1,d2,d4,d6,d7,g2,g4,upd_same]
    refine (text_ok (c::r) (by simp; omega) _).pthen ?_
    simp -implicitDefEqProofs only [go_sem,d1,d2,d4,d6,d7,g2,g4,upd_same]
    exact .mk _ (.refl _) (by repeat (first|exact .refl _|refine Sub.put ?_ (by assumption) _)) ⟨by subst e7; simp [beginsD,hl,d1,tokA,oneOr],rfl⟩
   have e7:=nn 34 34 rfl d7
   simp -implicitDefEqProofs only [go_sem,d1,d2,d4,d6,d7,g2,g4,upd_same]
   refine (index_ok marks c _).pthen ?_
   cases d8:markB c
   ·simp -implicitDefEqProofs only [go_sem,d1,d2,d4,d6,d7,g2,g4,upd_same,idx_marks,d8]
    exact .mk _ (.refl _) (by repeat (first|exact .refl _|refine Sub.put ?_ (by assumption) _)) ⟨by simp [beginsD,hl,d1,e2,e4,e6,e7,d8,tokA,oneOr],rfl⟩
   ·simp -implicitDefEqProofs only [go_sem,d1,d2,d4,d6,d7,g2,g4,upd_same,idx_marks,d8]
    refine .calls noHeap [0,1,2,3,4,5,6] (fun _ _ h=>by cases h) (by kernel_rfl) rfl ?_
    simp -implicitDefEqProofs only [go_sem,d1,d2,d4,d6,d7,d8,g2,g4,upd_same,cutL_ft,Option.isSome_none,Option.isSome_some,Int.reduceToNat,List.take_succ_cons,List.take_zero,List.length_cons]
    refine ⟨by omega,by omega,by omega,(fun _ _ h=>(by cases h)),(fun _ _ h=>(by cases h)), ?_⟩
    exact .mk _ (.refl _) (by repeat (first|exact .refl _|refine Sub.put ?_ (by assumption) _)) ⟨by simp [beginsD,hl,d1,e2,e4,e6,e7,d8,tokA,oneOr],rfl⟩
  ·have hl:ltr c=true:=by simp only [ltr,la,lb]; rfl
   simp -implicitDefEqProofs only [go_sem,byteA,List.getElem_cons_zero,la,lb]
   refine (name_ok' _ _).pthen ?_
   simp -implicitDefEqProofs only [go_sem,g2,g4,upd_same]
   exact .mk _ (.refl _) (by repeat (first|exact .refl _|refine Sub.put ?_ (by assumption) _)) ⟨by simp [beginsD,hl,tokA,oneOr],rfl⟩
end Go.Proofs.YtmlhcdeamjkpjaaGreatDoor

set_option linter.unusedSimpArgs false
set_option linter.unusedVariables false
namespace Go.Proofs.YtmlhcdeamjkpjaaGreatDoor
open Go Go.Ab Go.Bf
theorem u97z:(U 168).sz=4:=by simp only [go_sem]
theorem u97b:(U 168).bytes=40:=by simp only [go_sem]
theorem tokA_sized (l:List TokD):Sized 4 (l.map tokA):=fun z hz=>by
 obtain ⟨c,_,rfl⟩:=List.mem_map.1 hz; rfl
def lexR:Lexed→AV
 | .bad e a=> .tup [.sl [] .no, .v (.int .i64 e), .v (.int .i64 a)]
 | .ok l=> .tup [.sl (l.map tokA) .no, .v (.int .i64 0), .v (.int .i64 0)]
def AtBlanks (s:Txt) (h:Heap) (m:Nat) (ρ:Env) (h' :Heap):Prop:=
 ∃(i f:Nat) (y:AV) (out:List TokD) (id:Nat),Acc U 168 h h' y (out.map tokA)∧out.length≤i∧i≤s.length∧m=s.length - i∧s.length<f+i∧s.length≤4096∧h id=none∧(∃c0 c1 c2 c3,h' id=some (.obj [c0,c1,c2,c3] 168))∧lexF f (s.drop i) i out=lexD s∧lk ρ 0=some (.s s)∧lk ρ 5=some y∧lk ρ 6=some (.ptr id 0)∧lk ρ 7=some (.v (.int .i64 i))
theorem all_tok_ok (s:Txt) (h:Heap) (he:ErrT h):FnOK Tryz.prog 104 [.s s] h fun r h' =>r=lexR (lexD s)∧h' =h:=by
 refine FnOK.of_wp hU Tryz.func104 rfl (by kernel_rfl) 52 rfl [.tmp 2, .tmp 3, .tmp 4] rfl (Nat.le_of_ble_eq_true rfl) ?_
 refine .one hU hm ?_
 simp -implicitDefEqProofs only [go_sem]
 refine WP.scope2 hU hm 0 (AtBlanks s h) rfl ?_ ?_
 ·rintro m ρ h' ⟨i,f,y,out,id,hy,hoi,hi,rfl,hf,hs,hid,⟨c0,c1,c2,c3,hob⟩,hl,r0,r5,r6,r7⟩
  refine .vc hU hm ?_
  cases d1:((i:Int)==(s.length:Int))
  case true=>
   have e1:i=s.length:=by have:(i:Int)=s.length:=(by simpa using d1); omega
   subst e1
   obtain ⟨f,rfl⟩:∃g,f=g+1:=⟨f - 1,by omega⟩
   rw [List.drop_length] at hl
   simp only [lexF] at hl
   simp -implicitDefEqProofs only [go_sem,r0,r5,r6,r7,d1]
   refine hy.app (zs:= [tokA ⟨7,s.length,0,[]⟩]) (by rw [u97z]; decide) (by rw [u97b]; decide) (fun k hk=>hk) (by rw [u97z]; exact tokA_sized out) (by rw [u97z]; exact tokA_sized [⟨7,s.length,0,[]⟩]) (by rw [u97b]; simp; omega) fun y' h2 hy' hk2=> ?_
   simp -implicitDefEqProofs only [go_sem,r0,r5,r6,r7]
   obtain ⟨q,rfl⟩:=hy'.row
   refine .mk _ (weak_tup3 _ _ _ _) hy'.1 ⟨?_,rfl⟩
   rw [←hl,lexR,List.map_append]; rfl
  have e1:i≠s.length:=by intro e; rw [e] at d1; simp at d1
  have hlt:i<s.length:=by omega
  obtain ⟨f,rfl⟩:∃g,f=g+1:=⟨f - 1,by omega⟩
  have hdr:s.drop i=s[i]::s.drop (i+1):=List.drop_eq_getElem_cons hlt
  have w1:IntKind.i64.wrap ((i:Int)+1)=((i+1:Nat):Int):=by rw [wr64 _ (by omega)]; omega
  have hl2:=hl
  rw [hdr] at hl2
  simp only [lexF] at hl2
  rw [←hdr] at hl2
  have blank:blankB s[i]=true→∃m',m' <s.length - i∧True:=fun _=>⟨s.length - (i+1),by omega,trivial⟩
  cases d2:((s[i].toNat:Int)==32)
  case true=>
   have hb:blankB s[i]=true:=by simp only [blankB,d2,Bool.true_or]
   rw [if_pos hb] at hl2
   simp -implicitDefEqProofs only [go_sem,r0,r5,r6,r7,d1]
   refine .at i hlt ?_
   simp -implicitDefEqProofs only [go_sem,r0,r5,r6,r7,d1,byteA,d2,w1]
   refine ⟨s.length - (i+1),by omega,i+1,f,y,out,id,hy,by omega,by omega,rfl,by omega,hs,hid,⟨c0,c1,c2,c3,hob⟩,hl2, ?_, ?_, ?_, ?_⟩<;>simp -implicitDefEqProofs only [go_sem,r0,r5,r6,r7,w1]
  cases d3:((s[i].toNat:Int)==10)
  case true=>
   have hb:blankB s[i]=true:=by simp only [blankB,d3,Bool.or_true]
   rw [if_pos hb] at hl2
   simp -implicitDefEqProofs only [go_sem,r0,r5,r6,r7,d1]
   refine .at i hlt ?_
   simp -implicitDefEqProofs only [go_sem,r0,r5,r6,r7,d1,byteA,d2]
   refine .at i hlt ?_
   simp -implicitDefEqProofs only [go_sem,r0,r5,r6,r7,d1,byteA,d2,d3,w1]
   refine ⟨s.length - (i+1),by omega,i+1,f,y,out,id,hy,by omega,by omega,rfl,by omega,hs,hid,⟨c0,c1,c2,c3,hob⟩,hl2, ?_, ?_, ?_, ?_⟩<;>simp -implicitDefEqProofs only [go_sem,r0,r5,r6,r7,w1]
  have hb:¬blankB s[i]=true:=by simp only [blankB,d2,d3]; decide
  rw [if_neg hb] at hl2
  have hne:s.drop i≠ []:=fun e=>by have:=congrArg List.length e; simp at this; omega
  have hle:=beginsD_le (s.drop i) hne
  have hdl:(s.drop i).length=s.length - i:=by simp
  have hbo:=fun hh eh=>begins_ok (s.drop i) hne (by omega) hh eh
  obtain ⟨t,n,etn⟩:∃t n,beginsD (s.drop i)=(t,n):=⟨_,_,rfl⟩
  rw [etn] at hbo hl2 hle
  simp only [tokA] at hbo hl2 hle
  simp -implicitDefEqProofs only [go_sem,r0,r5,r6,r7,d1]
  refine .at i hlt ?_
  simp -implicitDefEqProofs only [go_sem,r0,r5,r6,r7,d1,byteA,d2]
  refine .at i hlt ?_
  simp -implicitDefEqProofs only [go_sem,r0,r5,r6,r7,d1,byteA,d2,d3,cutL_tf,Option.isSome_none,Option.isSome_some,Int.toNat_natCast]
  refine ⟨by omega,by omega,by omega, ?_⟩
  refine (hbo _ (he.sub hy.1)).pthen ?_
  cases d4:((n:Int)==0)
  case true=>
   have e4:n=0:=by have:(n:Int)=0:=(by simpa using d4); omega
   rw [if_pos e4] at hl2
   simp -implicitDefEqProofs only [go_sem,r0,r5,r6,r7,hob,d4]
   refine .mk _ (weak_tup3 _ _ _ _) (hy.1.put hid _) ⟨?_,rfl⟩
   rw [←hl2]; rfl
  have e4:n≠0:=by intro e; rw [e] at d4; simp at d4
  rw [if_neg e4] at hl2
  have w2:IntKind.i64.wrap ((i:Int)+(n:Int))=((i+n:Nat):Int):=by rw [wr64 _ (by omega)]; omega
  simp -implicitDefEqProofs only [go_sem,r0,r5,r6,r7,hob,d4]
  refine (hy.put hid hob _).app (zs:= [tokA {t with pos:=i}]) (by rw [u97z]; decide) (by rw [u97b]; decide) (fun k hk=>hk) (by rw [u97z]; exact tokA_sized out) (by rw [u97z]; exact tokA_sized [{t with pos:=i}]) (by rw [u97b]; simp; omega) fun y' h2 hy' hk2=> ?_
  simp -implicitDefEqProofs only [go_sem,r0,r5,r6,r7,w2]
  refine ⟨s.length - (i+n),by omega,i+n,f,y',out++ [{t with pos:=i}],id,by simpa using hy',by simp; omega,by omega,rfl,by omega,hs,hid,⟨_,_,_,_,hk2 _ _ _ (upd_same ..)⟩, ?_, ?_, ?_, ?_, ?_⟩
  ·rw [List.drop_drop] at hl2; exact hl2
  all_goals simp -implicitDefEqProofs only [go_sem,r0,r5,r6,r7,w2]
 ·intro nx
  cases d0:decide (4096<(s.length:Int))
  case true=>
   have e0:s.length>4096:=by have:=of_decide_eq_true d0; omega
   refine .one hU hm ?_
   simp -implicitDefEqProofs only [go_sem,d0]
   exact .mk (.tup [.sl [] .no, .v (.int .i64 6), .v (.int .i64 4096)]) (weak_strip (.tup [.sl [] .full, .v (.int .i64 6), .v (.int .i64 4096)])) (.refl _) ⟨by rw [lexD,if_pos e0]; rfl,rfl⟩
  have e0:¬s.length>4096:=by have:=of_decide_eq_false d0; omega
  refine .one hU hm ?_
  simp -implicitDefEqProofs only [go_sem,d0]
  refine .one hU hm ?_
  simp -implicitDefEqProofs only [go_sem]
  refine .one hU hm ?_
  simp -implicitDefEqProofs only [go_sem]
  intro id hid
  simp -implicitDefEqProofs only [go_sem]
  refine .one hU hm ?_
  simp -implicitDefEqProofs only [go_sem]
  refine .one hU hm ?_
  simp -implicitDefEqProofs only [go_sem]
  refine nx (s.length - 0) _ _ ⟨0,s.length+1,_,[],id, .full (.upd_new hid),by simp,by omega,rfl,by omega,by omega,hid,⟨_,_,_,_,upd_same ..⟩,by rw [lexD,if_neg e0]; rfl, ?_, ?_, ?_, ?_⟩<;>simp -implicitDefEqProofs only [go_sem]
end Go.Proofs.YtmlhcdeamjkpjaaGreatDoor

set_option linter.unusedSimpArgs false
set_option linter.unusedVariables false
namespace Go.Proofs.YtmlhcdeamjkpjaaGreatDoor
open Go Go.Ab Go.Bf
def PO (st:PS):Blk:= .obj [.sl (st.ts.map tokA) .no, .v (.int .i64 st.pos), .v (.int .i64 st.rules), .v (.int .i64 st.bad), .v (.int .i64 st.place)] 165
def PC (f:FuncId) (args:List AV) (st:PS) (R:AV) (st' :PS):Prop:=∀(h:Heap) (id:Nat),h id=some (PO st)→FnOK Tryz.prog f (.ptr id 0::args) h fun r h' =>r=R∧h' =upd h id (some (PO st'))
theorem PC.go {f:FuncId} {args:List AV} {st st' :PS} {R:AV} (hc:PC f args st R st') {h:Heap} {id:Nat} {Q:AV→Heap→Prop} (hid:h id=some (PO st)) (k:Q R (upd h id (some (PO st')))):FnOK Tryz.prog f (.ptr id 0::args) h Q:=
 (hc h id hid).mono fun r h' ⟨e1,e2⟩=>by subst e1; subst e2; exact k
theorem upd_self {h:Heap} {id:Nat} {b:Option Blk} (e:h id=b):upd h id b=h:=by
 funext j
 by_cases hj:j=id
 ·subst hj; rw [upd_same,e]
 ·rw [upd_other _ _ hj]
theorem wrong_ok (st:PS) (e p:Int):PC 108 [.v (.int .i64 e), .v (.int .i64 p)] st (.tup []) (wrongD st e p):=fun h id hid=>by
 refine FnOK.body hU hm Tryz.func108 rfl (by kernel_rfl) 19 rfl [] rfl (Nat.le_of_ble_eq_true rfl) (fun hwf=> ?_)
 have g:=hid
 unfold PO at g
 cases d1:(st.bad==0)
 ·have e1:st.bad≠0:=by simpa using d1
  simp -implicitDefEqProofs only [go_sem,g,d1]
  exact .mk _ (.refl _) (.refl _) ⟨rfl,by rw [wrongD,if_neg e1,upd_self hid]⟩
 ·have e1:st.bad=0:=by simpa using d1
  simp -implicitDefEqProofs only [go_sem,g,d1]
  exact .mk _ (.refl _) (.refl _) ⟨rfl,by rw [wrongD,if_pos e1]; rfl⟩
theorem here_ok (st:PS) (hw:WfP st):PC 106 [] st (tokA (hereD st)) st:=fun h id hid=>by
 refine FnOK.body hU hm Tryz.func106 rfl (by kernel_rfl) 13 rfl [.cell 2 168] rfl (Nat.le_of_ble_eq_true rfl) (fun hwf=> ?_)
 have g:=hid
 unfold PO at g
 simp -implicitDefEqProofs only [go_sem]
 intro i2 hi2
 have n2:id≠i2:=fun e=>by rw [e,hi2] at hid; cases hid
 simp -implicitDefEqProofs only [go_sem,g,upd_ne,n2]
 refine ⟨.of (by kernel_rfl), ?_⟩
 refine .at st.pos (by simpa using hw.1) (by rw [List.getElem_map]; rfl) ?_
 simp -implicitDefEqProofs only [go_sem,g,upd_ne,n2,List.getElem_map,tokA]
 refine .mk _ (.refl _) (.upd_new hi2) ⟨by rw [hereD_eq hw.1]; rfl,(upd_self hid).symm⟩
theorem stuck_ok (st:PS) (hw:WfP st):PC 107 [] st (.tup []) (stuckD st):=fun h id hid=>by
 refine FnOK.body hU hm Tryz.func107 rfl (by kernel_rfl) 7 rfl [] rfl (Nat.le_of_ble_eq_true rfl) (fun hwf=> ?_)
 simp -implicitDefEqProofs only [go_sem]
 refine (here_ok st hw).go hid ?_
 rw [upd_self hid]
 simp -implicitDefEqProofs only [go_sem,tokA]
 refine (wrong_ok st 5 _).go hid ?_
 simp -implicitDefEqProofs only [go_sem]
 exact .mk _ (.refl _) (.refl _) ⟨rfl,rfl⟩
theorem limit_ok (st:PS) (b:Bool) (hw:WfP st):PC 208 [.v (.bool b)] st (.tup []) (limitD st b):=fun h id hid=>by
 refine FnOK.body hU hm Tryz.func208 rfl (by kernel_rfl) 10 rfl [] rfl (Nat.le_of_ble_eq_true rfl) (fun hwf=> ?_)
 cases b
 ·simp -implicitDefEqProofs only [go_sem]
  exact .mk _ (.refl _) (.refl _) ⟨rfl,(upd_self hid).symm⟩
 simp -implicitDefEqProofs only [go_sem]
 refine (here_ok st hw).go hid ?_
 rw [upd_self hid]
 simp -implicitDefEqProofs only [go_sem,tokA]
 refine (wrong_ok st 6 _).go hid ?_
 simp -implicitDefEqProofs only [go_sem]
 exact .mk _ (.refl _) (.refl _) ⟨rfl,rfl⟩
theorem is_ok (st:PS) (s:Txt) (hw:WfP st):PC 209 [.s s] st (.v (.bool (isD st s))) st:=fun h id hid=>by
 refine FnOK.body hU hm Tryz.func209 rfl (by kernel_rfl) 29 rfl [.tmp 4] rfl (Nat.le_of_ble_eq_true rfl) (fun hwf=> ?_)
 have g:=hid
 unfold PO at g
 simp -implicitDefEqProofs only [go_sem]
 refine (here_ok st hw).go hid ?_
 rw [upd_self hid]
 simp -implicitDefEqProofs only [go_sem,tokA]
 intro i2 hi2
 have n2:id≠i2:=fun e=>by rw [e,hi2] at hid; cases hid
 cases d1:(st.bad==0)<;>cases d2:((hereD st).s==s)<;>cases d3:((hereD st).kind==1)<;>cases d4:((hereD st).kind==6)
 all_goals
  simp -implicitDefEqProofs only [go_sem,g,upd_ne,n2,d1,d2,d3,d4]
  exact .mk _ (.refl _) (.upd_new hi2) ⟨by simp only [isD,d1,d2,d3,d4]; rfl,rfl⟩
theorem take_ok (st:PS) (s:Txt) (hw:WfP st):PC 206 [.s s] st (.v (.bool (takeD st s).1)) (takeD st s).2:=fun h id hid=>by
 refine FnOK.body hU hm Tryz.func206 rfl (by kernel_rfl) 18 rfl [.tmp 4] rfl (Nat.le_of_ble_eq_true rfl) (fun hwf=> ?_)
 have g:=hid
 unfold PO at g
 simp -implicitDefEqProofs only [go_sem]
 refine (is_ok st s hw).go hid ?_
 rw [upd_self hid]
 cases d1:isD st s
 ·have e:takeD st s=(false,st):=by simp [takeD,d1]
  simp -implicitDefEqProofs only [go_sem,d1]
  exact .mk _ (.refl _) (.refl _) ⟨by rw [e]; rfl,by rw [e,upd_self hid]⟩
 ·have e:takeD st s=(true,nextD st):=by simp [takeD,d1]
  have w1:IntKind.i64.wrap ((st.pos:Int)+1)=((st.pos+1:Nat):Int):=by have:=hw.1; have:=hw.2.2; rw [wr64 _ (by omega)]; omega
  simp -implicitDefEqProofs only [go_sem,g,d1,w1]
  exact .mk _ (.refl _) (.refl _) ⟨by rw [e]; rfl,by rw [e]; rfl⟩
theorem must_ok (st:PS) (s:Txt) (hw:WfP st):PC 154 [.s s] st (.tup []) (mustD st s):=fun h id hid=>by
 refine FnOK.body hU hm Tryz.func154 rfl (by kernel_rfl) 10 rfl [] rfl (Nat.le_of_ble_eq_true rfl) (fun hwf=> ?_)
 simp -implicitDefEqProofs only [go_sem]
 refine (take_ok st s hw).go hid ?_
 cases d1:isD st s
 ·have e:takeD st s=(false,st):=by simp [takeD,d1]
  rw [e,upd_self hid]
  simp -implicitDefEqProofs only [go_sem]
  refine (stuck_ok st hw).go hid ?_
  simp -implicitDefEqProofs only [go_sem]
  exact .mk _ (.refl _) (.refl _) ⟨rfl,by simp [mustD,d1]⟩
 ·have e:takeD st s=(true,nextD st):=by simp [takeD,d1]
  rw [e]
  simp -implicitDefEqProofs only [go_sem]
  exact .mk _ (.refl _) (.refl _) ⟨rfl,by simp [mustD,d1]⟩
theorem pname_ok (st:PS) (hw:WfP st):PC 152 [] st (.s (nameP st).1) (nameP st).2:=fun h id hid=>by
 refine FnOK.body hU hm Tryz.func152 rfl (by kernel_rfl) 25 rfl [.tmp 2] rfl (Nat.le_of_ble_eq_true rfl) (fun hwf=> ?_)
 have g:=hid
 unfold PO at g
 have w1:IntKind.i64.wrap ((st.pos:Int)+1)=((st.pos+1:Nat):Int):=by have:=hw.1; have:=hw.2.2; rw [wr64 _ (by omega)]; omega
 simp -implicitDefEqProofs only [go_sem]
 refine (here_ok st hw).go hid ?_
 rw [upd_self hid]
 simp -implicitDefEqProofs only [go_sem,tokA]
 intro i2 hi2
 have n2:id≠i2:=fun e=>by rw [e,hi2] at hid; cases hid
 cases d1:((hereD st).kind !=1)
 case true=>
  have e1:(hereD st).kind≠1:=by simpa using d1
  have en:nameP st=([],stuckD st):=by simp [nameP,e1]
  simp -implicitDefEqProofs only [go_sem,g,upd_ne,n2,d1]
  have hid2:upd h i2 (some (.obj [.v (.int .i64 (hereD st).kind), .v (.int .i64 (hereD st).pos), .v (.int .i64 (hereD st).n), .s (hereD st).s] 168)) id=some (PO st):=by rw [upd_other _ _ n2]; exact hid
  refine (stuck_ok st hw).go hid2 ?_
  have hb:(stuckD st).bad≠0:=by
   unfold stuckD wrongD; split
   ·show (5:Int)≠0; decide
   ·assumption
  have d2:((stuckD st).bad !=0)=true:=by simpa using hb
  simp -implicitDefEqProofs only [go_sem,PO,d2]
  exact .mk _ (.refl _) (Sub.both (.upd_new hi2) _ _) ⟨by rw [en]; rfl,by rw [en]; try rfl⟩
 have e1:(hereD st).kind=1:=by simpa using d1
 cases d2:(st.bad !=0)
 case true=>
  have e2:st.bad≠0:=by simpa using d2
  have en:nameP st=([],st):=by simp [nameP,e1,e2]
  simp -implicitDefEqProofs only [go_sem,g,upd_ne,n2,d1,d2]
  exact .mk _ (.refl _) (.upd_new hi2) ⟨by rw [en]; rfl,by rw [en]; exact (upd_self hid).symm⟩
 have e2:st.bad=0:=by simpa using d2
 have en:nameP st=((hereD st).s,nextD st):=by simp [nameP,e1,e2]
 simp -implicitDefEqProofs only [go_sem,g,upd_ne,n2,n2.symm,d1,d2,w1]
 exact .mk _ (.refl _) (Sub.both (.upd_new hi2) _ _) ⟨by rw [en]; rfl,by rw [en]; try rfl⟩
theorem PC.run {f:FuncId} {args:List AV} {st st' :PS} {R:AV} (hc:PC f args st R st') {G:Heap} {id:Nat} {Q:AV→Heap→Prop} (k:Q R (upd G id (some (PO st')))):FnOK Tryz.prog f (.ptr id 0::args) (upd G id (some (PO st))) Q:=
 hc.go (upd_same ..) (by rw [upd_upd]; exact k)
theorem PC.of {f:FuncId} {args:List AV} {st st' :PS} {R:AV} (hk:∀(G:Heap) (id:Nat),FnOK Tryz.prog f (.ptr id 0::args) (upd G id (some (PO st))) fun r h' =>r=R∧h' =upd G id (some (PO st'))):PC f args st R st' :=fun h id hid=>by
 have:=hk h id
 rw [upd_self hid] at this
 exact this
theorem upd_comm {α:Type} (f:Nat→α) {i j:Nat} (x y:α) (h:i≠j):upd (upd f i x) j y=upd (upd f j y) i x:=by
 funext k
 by_cases hi:k=i
 ·subst hi; rw [upd_other _ _ h,upd_same,upd_same]
 ·by_cases hj:k=j
  ·subst hj; rw [upd_same,upd_other _ _ hi,upd_same]
  ·rw [upd_other _ _ hj,upd_other _ _ hi,upd_other _ _ hi,upd_other _ _ hj]
theorem idxT_lt {s:Txt}:∀ {ws:List Txt} {i:Nat},idxT s ws=some i→i<ws.length
 |w::r,i,h=>by
  simp only [idxT] at h
  split at h
  ·cases h; simp
  ·cases hr:idxT s r with
   |none=>rw [hr] at h; cases h
   |some j=>rw [hr] at h; cases h; have:=idxT_lt hr; simp; omega
theorem idxT_at {s:Txt}:∀ {ws:List Txt} (i:Nat) (hi:i<ws.length),(∀j (hj:j<ws.length),j<i→ws[j]≠s)→ws[i]=s→idxT s ws=some i
 |w::r,0,_,_,h=>by simp only [List.getElem_cons_zero] at h; simp [idxT,h]
 |w::r,i+1,hi,hb,h=>by
  have h0:=hb 0 (by simp) (by omega)
  simp only [List.getElem_cons_zero] at h0
  simp only [idxT,if_neg h0]
  rw [idxT_at i (by simpa using hi) (fun j hj hlt=>by have:=hb (j+1) (by simpa using hj) (by omega); simpa using this) (by simpa using h)]
  rfl
theorem idxT_none {s:Txt}:∀ {ws:List Txt},(∀j (hj:j<ws.length),ws[j]≠s)→idxT s ws=none
 | [],_=>rfl
 |w::r,hb=>by
  have h0:=hb 0 (by simp)
  simp only [List.getElem_cons_zero] at h0
  simp only [idxT,if_neg h0]
  rw [idxT_none (fun j hj=>by have:=hb (j+1) (by simpa using hj); simpa using this)]
  rfl
def idxI (o:Option Nat):Int:=match o with
 |some i=>i
 |none=> -1
theorem indexT_ok (ws:List Txt) (q:Perm) (s:Txt) (hl:ws.length≤1000) (h:Heap):FnOK Tryz.prog 205 [.sl (ws.map AV.s) q, .s s] h fun r h' =>r= .v (.int .i64 (idxI (idxT s ws)))∧h' =h:=by
 refine FnOK.body hU hm Tryz.func205 rfl (by kernel_rfl) 19 rfl [.tmp 4] rfl (Nat.le_of_ble_eq_true rfl) (fun hwf=> ?_)
 simp -implicitDefEqProofs only [go_sem,List.length_map]
 refine .intro (fun m ρ h' =>h' =h∧∃i:Nat,i≤ws.length∧m=ws.length - i∧(∀j (hj:j<ws.length),j<i→ws[j]≠s)∧lk ρ 0=some (.sl (ws.map AV.s) q)∧lk ρ 1=some (.s s)∧lk ρ 7=some (.v (.int .i64 ws.length))∧lk ρ 8=some (.v (.int .i64 i))) ws.length ?_ ?_
 ·refine ⟨rfl,0,by omega,rfl,fun j _ hj=>(by omega), ?_, ?_, ?_, ?_⟩<;>simp -implicitDefEqProofs only [go_sem]
 ·rintro m ρ h' ⟨rfl,i,hi,rfl,hc,r0,r1,r7,r8⟩
  simp -implicitDefEqProofs only [go_sem,r0,r1,r7,r8]
  refine .intro (fun e=> ?_) (fun e=> ?_)
  ·have hlt:i<ws.length:=Int.ofNat_lt.1 (of_decide_eq_true e)
   have w1:IntKind.i64.wrap ((i:Int)+1)=((i+1:Nat):Int):=by rw [wr64 _ (by omega)]; omega
   simp -implicitDefEqProofs only [go_sem,r0,r1,r7,r8]
   refine .at i (by simpa using hlt) (by rw [List.getElem_map]; rfl) ?_
   cases d1:(s==ws[i])
   ·have e1:ws[i]≠s:=by intro e; rw [e] at d1; simp at d1
    simp -implicitDefEqProofs only [go_sem,r0,r1,r7,r8,List.getElem_map,d1,w1]
    refine ⟨_, ?_,rfl,i+1,by omega,rfl,fun j hj hji=> ?_, ?_, ?_, ?_, ?_⟩
    ·omega
    ·by_cases e:j=i
     ·subst e; exact e1
     ·exact hc j hj (by omega)
    all_goals simp -implicitDefEqProofs only [go_sem,r0,r1,r7,r8,w1]
   ·have e1:ws[i]=s:=by have:s=ws[i]:=(by simpa using d1); exact this.symm
    simp -implicitDefEqProofs only [go_sem,r0,r1,r7,r8,List.getElem_map,d1]
    exact .same (.refl _) ⟨by rw [idxT_at i hlt hc e1]; rfl,rfl⟩
  ·have hge:i=ws.length:=by have:=of_decide_eq_false e; omega
   subst hge
   simp -implicitDefEqProofs only [go_sem,r0,r1,r7,r8]
   exact .same (.refl _) ⟨by rw [idxT_none fun j hj=>hc j hj hj]; rfl,rfl⟩
theorem among_ok (st:PS) (ws:List Txt) (q:Perm) (hl:ws.length≤1000) (hw:WfP st):PC 151 [.sl (ws.map AV.s) q] st (.v (.int .i64 (amongD st ws).1)) (amongD st ws).2:= .of fun G id=>by
 refine FnOK.body hU hm Tryz.func151 rfl (by kernel_rfl) 28 rfl [.tmp 4] rfl (Nat.le_of_ble_eq_true rfl) (fun hwf=> ?_)
 simp -implicitDefEqProofs only [go_sem]
 refine (here_ok st hw).run ?_
 simp -implicitDefEqProofs only [go_sem,tokA]
 intro i2 hi2
 have n2:=ne_upd hi2
 have hG2:G i2=none:=by rw [upd_other _ _ n2] at hi2; exact hi2
 have c2:∀(f:Heap) (x y:Option Blk),upd (upd f id x) i2 y=upd (upd f i2 y) id x:=fun f x y=>upd_comm f x y n2.symm
 cases d1:((hereD st).kind==1)
 ·have e1:(hereD st).kind≠1:=by simpa using d1
  have en:amongD st ws=(0,stuckD st):=by unfold amongD; split<;>simp [e1]
  simp -implicitDefEqProofs only [go_sem,c2,upd_ne,n2,d1]
  refine (stuck_ok st hw).run ?_
  simp -implicitDefEqProofs only [go_sem]
  exact .mk _ (.refl _) (Sub.both (.upd_new hG2) _ _) ⟨by rw [en]; rfl,by rw [en]⟩
 have e1:(hereD st).kind=1:=by simpa using d1
 simp -implicitDefEqProofs only [go_sem,c2,upd_ne,n2,d1]
 refine (indexT_ok ws q _ hl _).pthen ?_
 cases ei:idxT (hereD st).s ws with
 |none=>
  have en:amongD st ws=(0,stuckD st):=by simp [amongD,ei]
  have dm:decide ((0:Int)≤ -1)=false:=by decide
  simp -implicitDefEqProofs only [go_sem,idxI,dm]
  refine (stuck_ok st hw).run ?_
  simp -implicitDefEqProofs only [go_sem]
  exact .mk _ (.refl _) (Sub.both (.upd_new hG2) _ _) ⟨by rw [en]; rfl,by rw [en]⟩
 |some i=>
  have hil:=idxT_lt ei
  have d2:decide (0≤(i:Int))=true:=by simp
  have w1:IntKind.i64.wrap ((i:Int)+1)=((i:Int)+1):=by rw [wr64 _ (by omega)]
  simp -implicitDefEqProofs only [go_sem,idxI,d2,upd_ne,n2]
  refine (take_ok st _ hw).run ?_
  cases d3:(st.bad==0)
  ·have e3:st.bad≠0:=by simpa using d3
   have et:takeD st (hereD st).s=(false,st):=by simp [takeD,isD,d3]
   have en:amongD st ws=(0,stuckD st):=by simp [amongD,ei,e3]
   rw [et]
   simp -implicitDefEqProofs only [go_sem]
   refine (stuck_ok st hw).run ?_
   simp -implicitDefEqProofs only [go_sem]
   exact .mk _ (.refl _) (Sub.both (.upd_new hG2) _ _) ⟨by rw [en]; rfl,by rw [en]⟩
  ·have e3:st.bad=0:=by simpa using d3
   have et:takeD st (hereD st).s=(true,nextD st):=by simp [takeD,isD,e3,e1]
   have en:amongD st ws=((i:Int)+1,nextD st):=by simp [amongD,ei,e3,e1]
   rw [et]
   simp -implicitDefEqProofs only [go_sem,w1]
   exact .mk _ (.refl _) (Sub.both (.upd_new hG2) _ _) ⟨by rw [en]; rfl,by rw [en]⟩
end Go.Proofs.YtmlhcdeamjkpjaaGreatDoor

set_option linter.unusedSimpArgs false
set_option linter.unusedVariables false
namespace Go.Proofs.YtmlhcdeamjkpjaaGreatDoor
open Go Go.Ab Go.Bf
theorem attr_p (st:PS) (hw:WfP st):PC 296 [] st (attrA (attrP st).1) (attrP st).2:= .of fun G id=>by
 have h1:=ah_among catWs hw
 have h2:=ah_must [46] h1.1
 have h3:=ah_name h2.1
 refine FnOK.body hU hm Tryz.func296 rfl (by kernel_rfl) 17 rfl [.cell 2 184] rfl (Nat.le_of_ble_eq_true rfl) (fun hwf=> ?_)
 simp -implicitDefEqProofs only [go_sem]
 intro i2 hi2
 have n2:=ne_upd hi2
 have hG2:G i2=none:=by rw [upd_other _ _ n2] at hi2; exact hi2
 have c2:∀(f:Heap) (x y:Option Blk),upd (upd f id x) i2 y=upd (upd f i2 y) id x:=fun f x y=>upd_comm f x y n2.symm
 simp -implicitDefEqProofs only [go_sem,c2]
 intro i3 hi3
 have n3:=ne_upd hi3
 have hi3' :=hi3
 rw [upd_other _ _ n3] at hi3'
 have n32:=ne_upd hi3'
 have hG3:G i3=none:=by rw [upd_other _ _ n32] at hi3'; exact hi3'
 have c3:∀(f:Heap) (x y:Option Blk),upd (upd f id x) i3 y=upd (upd f i3 y) id x:=fun f x y=>upd_comm f x y n3.symm
 have c23:∀(f:Heap) (x y:Option Blk),upd (upd f i3 x) i2 y=upd (upd f i2 y) i3 x:=fun f x y=>upd_comm f x y n32
 have m32:¬i3=i2:=n32
 have m23:¬i2=i3:=n32.symm
 simp -implicitDefEqProofs only [go_sem,c2,c3,c23]
 refine (among_ok st catWs .full (by decide) hw).run ?_
 simp -implicitDefEqProofs only [go_sem,c2,c3,c23,upd_ne,n2,n3,m32,m23]
 refine (must_ok _ [46] h1.1).run ?_
 simp -implicitDefEqProofs only [go_sem,c2,c3,c23,upd_ne,n2,n3,m32,m23]
 refine (pname_ok _ h2.1).run ?_
 simp -implicitDefEqProofs only [go_sem,c2,c3,c23,upd_ne,n2,n3,m32,m23]
 refine (take_ok _ [33] h3.1).run ?_
 simp -implicitDefEqProofs only [go_sem,c2,c3,c23,upd_ne,n2,n3,m32,m23]
 exact .mk _ (.refl _) (Sub.both (by repeat (first|exact .refl _|refine Sub.put ?_ (by assumption) _)) _ _) ⟨rfl,rfl⟩
set_option maxRecDepth 20000 in
theorem value_p (st:PS) (hw:WfP st):PC 297 [] st (valA (valueP st).1) (valueP st).2:= .of fun G id=>by
 refine FnOK.body hU hm Tryz.func297 rfl (by kernel_rfl) 56 rfl [.cell 2 42] rfl (Nat.le_of_ble_eq_true rfl) (fun hwf=> ?_)
 have w1:IntKind.i64.wrap ((st.pos:Int)+1)=((st.pos+1:Nat):Int):=by have:=hw.1; have:=hw.2.2; rw [wr64 _ (by omega)]; omega
 simp -implicitDefEqProofs only [go_sem]
 intro i2 hi2
 have n2:=ne_upd hi2
 have hG2:G i2=none:=by rw [upd_other _ _ n2] at hi2; exact hi2
 have c2:∀(f:Heap) (x y:Option Blk),upd (upd f id x) i2 y=upd (upd f i2 y) id x:=fun f x y=>upd_comm f x y n2.symm
 simp -implicitDefEqProofs only [go_sem,c2]
 refine (here_ok st hw).run ?_
 simp -implicitDefEqProofs only [go_sem,tokA]
 intro i3 hi3
 have n3:=ne_upd hi3
 have hi3' :=hi3
 rw [upd_other _ _ n3] at hi3'
 have n32:=ne_upd hi3'
 have hG3:G i3=none:=by rw [upd_other _ _ n32] at hi3'; exact hi3'
 have c3:∀(f:Heap) (x y:Option Blk),upd (upd f id x) i3 y=upd (upd f i3 y) id x:=fun f x y=>upd_comm f x y n3.symm
 have c23:∀(f:Heap) (x y:Option Blk),upd (upd f i3 x) i2 y=upd (upd f i2 y) i3 x:=fun f x y=>upd_comm f x y n32
 have m32:¬i3=i2:=n32
 have m23:¬i2=i3:=n32.symm
 simp -implicitDefEqProofs only [go_sem,c2,c3,c23,upd_ne,n2,n3,m32,m23]
 intro i4 hi4
 have n4:=ne_upd hi4
 have hi4' :=hi4
 rw [upd_other _ _ n4] at hi4'
 have n43:=ne_upd hi4'
 have hi4'' :=hi4'
 rw [upd_other _ _ n43] at hi4''
 have n42:=ne_upd hi4''
 have hG4:G i4=none:=by rw [upd_other _ _ n42] at hi4''; exact hi4''
 have c4:∀(f:Heap) (x y:Option Blk),upd (upd f id x) i4 y=upd (upd f i4 y) id x:=fun f x y=>upd_comm f x y n4.symm
 have c24:∀(f:Heap) (x y:Option Blk),upd (upd f i4 x) i2 y=upd (upd f i2 y) i4 x:=fun f x y=>upd_comm f x y n42
 have c34:∀(f:Heap) (x y:Option Blk),upd (upd f i4 x) i3 y=upd (upd f i3 y) i4 x:=fun f x y=>upd_comm f x y n43
 have m42:¬i4=i2:=n42
 have m24:¬i2=i4:=n42.symm
 have m43:¬i4=i3:=n43
 have m34:¬i3=i4:=n43.symm
 cases k2:((hereD st).kind==2)
 case true=>
  have e2:(hereD st).kind=2:=by simpa using k2
  have ev:valueV st=(⟨2,(hereD st).n,(hereD st).s⟩,st):=by simp [valueV,e2]
  cases kb:(st.bad !=0)
  ·have eb:st.bad=0:=by simpa using kb
   have en:valueP st=(⟨2,(hereD st).n,(hereD st).s⟩,nextD st):=by simp [valueP,ev,eb]
   simp -implicitDefEqProofs only [go_sem,c2,c3,c4,c23,c24,c34,upd_ne,n2,n3,n4,m32,m23,m42,m24,m43,m34,k2,PO,kb,w1]
   exact .mk (h' :=upd G id (some (PO (valueP st).2))) _ (.refl _) (by rw [en]; exact Sub.both (by repeat (first|exact .refl _|refine Sub.put ?_ (by assumption) _)) _ _) ⟨by rw [en]; rfl,rfl⟩
  ·have eb:st.bad≠0:=by simpa using kb
   have en:valueP st=(⟨0,0,[]⟩,st):=by simp [valueP,ev,eb]
   simp -implicitDefEqProofs only [go_sem,c2,c3,c4,c23,c24,c34,upd_ne,n2,n3,n4,m32,m23,m42,m24,m43,m34,k2,PO,kb,w1]
   exact .mk (h' :=upd G id (some (PO (valueP st).2))) _ (.refl _) (by rw [en]; exact Sub.both (by repeat (first|exact .refl _|refine Sub.put ?_ (by assumption) _)) _ _) ⟨by rw [en]; rfl,rfl⟩
 have e2:(hereD st).kind≠2:=by simpa using k2
 cases k3:((hereD st).kind==3)
 case true=>
  have e3:(hereD st).kind=3:=by simpa using k3
  have ev:valueV st=(⟨4,(hereD st).n,(hereD st).s⟩,st):=by simp [valueV,e3]
  cases kb:(st.bad !=0)
  ·have eb:st.bad=0:=by simpa using kb
   have en:valueP st=(⟨4,(hereD st).n,(hereD st).s⟩,nextD st):=by simp [valueP,ev,eb]
   simp -implicitDefEqProofs only [go_sem,c2,c3,c4,c23,c24,c34,upd_ne,n2,n3,n4,m32,m23,m42,m24,m43,m34,k2,k3,PO,kb,w1]
   exact .mk (h' :=upd G id (some (PO (valueP st).2))) _ (.refl _) (by rw [en]; exact Sub.both (by repeat (first|exact .refl _|refine Sub.put ?_ (by assumption) _)) _ _) ⟨by rw [en]; rfl,rfl⟩
  ·have eb:st.bad≠0:=by simpa using kb
   have en:valueP st=(⟨0,0,[]⟩,st):=by simp [valueP,ev,eb]
   simp -implicitDefEqProofs only [go_sem,c2,c3,c4,c23,c24,c34,upd_ne,n2,n3,n4,m32,m23,m42,m24,m43,m34,k2,k3,PO,kb,w1]
   exact .mk (h' :=upd G id (some (PO (valueP st).2))) _ (.refl _) (by rw [en]; exact Sub.both (by repeat (first|exact .refl _|refine Sub.put ?_ (by assumption) _)) _ _) ⟨by rw [en]; rfl,rfl⟩
 have e3:(hereD st).kind≠3:=by simpa using k3
 cases k4:((hereD st).kind==4)
 case true=>
  have e4:(hereD st).kind=4:=by simpa using k4
  have ev:valueV st=(⟨5,(hereD st).n,(hereD st).s⟩,st):=by simp [valueV,e4]
  cases kb:(st.bad !=0)
  ·have eb:st.bad=0:=by simpa using kb
   have en:valueP st=(⟨5,(hereD st).n,(hereD st).s⟩,nextD st):=by simp [valueP,ev,eb]
   simp -implicitDefEqProofs only [go_sem,c2,c3,c4,c23,c24,c34,upd_ne,n2,n3,n4,m32,m23,m42,m24,m43,m34,k2,k3,k4,PO,kb,w1]
   exact .mk (h' :=upd G id (some (PO (valueP st).2))) _ (.refl _) (by rw [en]; exact Sub.both (by repeat (first|exact .refl _|refine Sub.put ?_ (by assumption) _)) _ _) ⟨by rw [en]; rfl,rfl⟩
  ·have eb:st.bad≠0:=by simpa using kb
   have en:valueP st=(⟨0,0,[]⟩,st):=by simp [valueP,ev,eb]
   simp -implicitDefEqProofs only [go_sem,c2,c3,c4,c23,c24,c34,upd_ne,n2,n3,n4,m32,m23,m42,m24,m43,m34,k2,k3,k4,PO,kb,w1]
   exact .mk (h' :=upd G id (some (PO (valueP st).2))) _ (.refl _) (by rw [en]; exact Sub.both (by repeat (first|exact .refl _|refine Sub.put ?_ (by assumption) _)) _ _) ⟨by rw [en]; rfl,rfl⟩
 have e4:(hereD st).kind≠4:=by simpa using k4
 cases k5:((hereD st).kind==5)
 case true=>
  have e5:(hereD st).kind=5:=by simpa using k5
  have ev:valueV st=(⟨3,(hereD st).n,(hereD st).s⟩,st):=by simp [valueV,e5]
  cases kb:(st.bad !=0)
  ·have eb:st.bad=0:=by simpa using kb
   have en:valueP st=(⟨3,(hereD st).n,(hereD st).s⟩,nextD st):=by simp [valueP,ev,eb]
   simp -implicitDefEqProofs only [go_sem,c2,c3,c4,c23,c24,c34,upd_ne,n2,n3,n4,m32,m23,m42,m24,m43,m34,k2,k3,k4,k5,PO,kb,w1]
   exact .mk (h' :=upd G id (some (PO (valueP st).2))) _ (.refl _) (by rw [en]; exact Sub.both (by repeat (first|exact .refl _|refine Sub.put ?_ (by assumption) _)) _ _) ⟨by rw [en]; rfl,rfl⟩
  ·have eb:st.bad≠0:=by simpa using kb
   have en:valueP st=(⟨0,0,[]⟩,st):=by simp [valueP,ev,eb]
   simp -implicitDefEqProofs only [go_sem,c2,c3,c4,c23,c24,c34,upd_ne,n2,n3,n4,m32,m23,m42,m24,m43,m34,k2,k3,k4,k5,PO,kb,w1]
   exact .mk (h' :=upd G id (some (PO (valueP st).2))) _ (.refl _) (by rw [en]; exact Sub.both (by repeat (first|exact .refl _|refine Sub.put ?_ (by assumption) _)) _ _) ⟨by rw [en]; rfl,rfl⟩
 have e5:(hereD st).kind≠5:=by simpa using k5
 simp -implicitDefEqProofs only [go_sem,c2,c3,c4,c23,c24,c34,upd_ne,n2,n3,n4,m32,m23,m42,m24,m43,m34,k2,k3,k4,k5]
 refine (is_ok st trueT hw).run ?_
 cases kt:isD st trueT
 case true=>
  have ev:valueV st=(⟨1,1,[]⟩,st):=by simp [valueV,e2,e3,e4,e5,kt]
  cases kb:(st.bad !=0)
  ·have eb:st.bad=0:=by simpa using kb
   have en:valueP st=(⟨1,1,[]⟩,nextD st):=by simp [valueP,ev,eb]
   simp -implicitDefEqProofs only [go_sem,c2,c3,c4,c23,c24,c34,upd_ne,n2,n3,n4,m32,m23,m42,m24,m43,m34,k2,k3,k4,k5,kt,PO,kb,w1]
   exact .mk (h' :=upd G id (some (PO (valueP st).2))) _ (.refl _) (by rw [en]; exact Sub.both (by repeat (first|exact .refl _|refine Sub.put ?_ (by assumption) _)) _ _) ⟨by rw [en]; rfl,rfl⟩
  ·have eb:st.bad≠0:=by simpa using kb
   have en:valueP st=(⟨0,0,[]⟩,st):=by simp [valueP,ev,eb]
   simp -implicitDefEqProofs only [go_sem,c2,c3,c4,c23,c24,c34,upd_ne,n2,n3,n4,m32,m23,m42,m24,m43,m34,k2,k3,k4,k5,kt,PO,kb,w1]
   exact .mk (h' :=upd G id (some (PO (valueP st).2))) _ (.refl _) (by rw [en]; exact Sub.both (by repeat (first|exact .refl _|refine Sub.put ?_ (by assumption) _)) _ _) ⟨by rw [en]; rfl,rfl⟩
 simp -implicitDefEqProofs only [go_sem,c2,c3,c4,c23,c24,c34,upd_ne,n2,n3,n4,m32,m23,m42,m24,m43,m34,k2,k3,k4,k5,kt]
 refine (is_ok st falseT hw).run ?_
 cases kf:isD st falseT
 case true=>
  have ev:valueV st=(⟨1,0,[]⟩,st):=by simp [valueV,e2,e3,e4,e5,kt,kf]
  cases kb:(st.bad !=0)
  ·have eb:st.bad=0:=by simpa using kb
   have en:valueP st=(⟨1,0,[]⟩,nextD st):=by simp [valueP,ev,eb]
   simp -implicitDefEqProofs only [go_sem,c2,c3,c4,c23,c24,c34,upd_ne,n2,n3,n4,m32,m23,m42,m24,m43,m34,k2,k3,k4,k5,kt,kf,PO,kb,w1]
   exact .mk (h' :=upd G id (some (PO (valueP st).2))) _ (.refl _) (by rw [en]; exact Sub.both (by repeat (first|exact .refl _|refine Sub.put ?_ (by assumption) _)) _ _) ⟨by rw [en]; rfl,rfl⟩
  ·have eb:st.bad≠0:=by simpa using kb
   have en:valueP st=(⟨0,0,[]⟩,st):=by simp [valueP,ev,eb]
   simp -implicitDefEqProofs only [go_sem,c2,c3,c4,c23,c24,c34,upd_ne,n2,n3,n4,m32,m23,m42,m24,m43,m34,k2,k3,k4,k5,kt,kf,PO,kb,w1]
   exact .mk (h' :=upd G id (some (PO (valueP st).2))) _ (.refl _) (by rw [en]; exact Sub.both (by repeat (first|exact .refl _|refine Sub.put ?_ (by assumption) _)) _ _) ⟨by rw [en]; rfl,rfl⟩
 have ev:valueV st=(⟨0,(hereD st).n,(hereD st).s⟩,stuckD st):=by simp [valueV,e2,e3,e4,e5,kt,kf]
 have en:valueP st=(⟨0,0,[]⟩,stuckD st):=by simp [valueP,ev,stuck_bad]
 have kb:((stuckD st).bad !=0)=true:=by simpa using stuck_bad st
 simp -implicitDefEqProofs only [go_sem,c2,c3,c4,c23,c24,c34,upd_ne,n2,n3,n4,m32,m23,m42,m24,m43,m34,k2,k3,k4,k5,kt,kf]
 refine (stuck_ok st hw).run ?_
 simp -implicitDefEqProofs only [go_sem,c2,c3,c4,c23,c24,c34,upd_ne,n2,n3,n4,m32,m23,m42,m24,m43,m34,k2,k3,k4,k5,kt,kf,PO,kb]
 exact .mk (h' :=upd G id (some (PO (valueP st).2))) _ (.refl _) (by rw [en]; exact Sub.both (by repeat (first|exact .refl _|refine Sub.put ?_ (by assumption) _)) _ _) ⟨by rw [en]; rfl,rfl⟩
end Go.Proofs.YtmlhcdeamjkpjaaGreatDoor

set_option linter.unusedSimpArgs false
set_option linter.unusedVariables false
namespace Go.Proofs.YtmlhcdeamjkpjaaGreatDoor
open Go Go.Ab Go.Bf
def opsT:List Txt:= [[61],[60],[62]]
theorem opP_at {st:PS} (i:Nat) (hi:i<opsT.length) (hb:∀j (hj:j<opsT.length),j<i→isD st opsT[j]=false) (h:isD st opsT[i]=true):opP st=((i:Int)+1,nextD st):=by
 have h3:i<3:=hi
 rcases (by omega:i=0∨i=1∨i=2) with rfl|rfl|rfl
 ·simp only [opP,show isD st [61]=true from h,if_true]; rfl
 ·simp only [opP,show isD st [61]=false from hb 0 (by decide) (by decide),show isD st [60]=true from h,if_true]; rfl
 ·simp only [opP,show isD st [61]=false from hb 0 (by decide) (by decide),show isD st [60]=false from hb 1 (by decide) (by decide),show isD st [62]=true from h,if_true]; rfl
theorem opP_none {st:PS} (hb:∀j (hj:j<opsT.length),isD st opsT[j]=false):opP st=(0,stuckD st):=by
 simp only [opP,show isD st [61]=false from hb 0 (by decide),show isD st [60]=false from hb 1 (by decide),show isD st [62]=false from hb 2 (by decide)]; rfl
set_option maxRecDepth 20000 in
theorem match_p (st:PS) (hw:WfP st):PC 275 [] st (matchA (matchP st).1) (matchP st).2:= .of fun G id=>by
 have h1:=ah_attr hw
 obtain ⟨a,st1,e1⟩:∃a st1,attrP st=(a,st1):=⟨_,_,rfl⟩
 have hat:=attr_p st hw
 rw [e1] at h1 hat
 simp only at h1 hat
 refine FnOK.body hU hm Tryz.func275 rfl (by kernel_rfl) 32 rfl [.cell 2 246] rfl (Nat.le_of_ble_eq_true rfl) (fun hwf=> ?_)
 simp -implicitDefEqProofs only [go_sem]
 intro i2 hi2
 have n2:=ne_upd hi2
 have hG2:G i2=none:=by rw [upd_other _ _ n2] at hi2; exact hi2
 have c2:∀(f:Heap) (x y:Option Blk),upd (upd f id x) i2 y=upd (upd f i2 y) id x:=fun f x y=>upd_comm f x y n2.symm
 simp -implicitDefEqProofs only [go_sem,c2]
 refine hat.run ?_
 simp -implicitDefEqProofs only [go_sem,attrA]
 intro i3 hi3
 have n3:=ne_upd hi3
 have hi3' :=hi3
 rw [upd_other _ _ n3] at hi3'
 have n32:=ne_upd hi3'
 have hG3:G i3=none:=by rw [upd_other _ _ n32] at hi3'; exact hi3'
 have c3:∀(f:Heap) (x y:Option Blk),upd (upd f id x) i3 y=upd (upd f i3 y) id x:=fun f x y=>upd_comm f x y n3.symm
 have c23:∀(f:Heap) (x y:Option Blk),upd (upd f i3 x) i2 y=upd (upd f i2 y) i3 x:=fun f x y=>upd_comm f x y n32
 have m32:¬i3=i2:=n32
 have m23:¬i2=i3:=n32.symm
 simp -implicitDefEqProofs only [go_sem,c2,c3,c23,upd_ne,n2,n3,m32,m23,attrA]
 refine .intro (fun m ρ H=>H=upd (upd (upd G i2 (some (.obj [.v (.int .i64 0), .s [], .v (.bool false), .v (.int .i64 0), .v (.int .i64 0), .v (.int .i64 0), .s []] 246))) i3 (some (.obj [.v (.int .i64 a.cat), .s a.name, .v (.bool a.must), .v (.int .i64 0), .v (.int .i64 0), .v (.int .i64 0), .s []] 246))) id (some (PO st1))∧
  ∃i:Nat,i≤3∧m=3 - i∧(∀j (hj:j<opsT.length),j<i→isD st1 opsT[j]=false)∧lk ρ 0=some (.ptr id 0)∧lk ρ 2=some (.ptr i2 0)∧lk ρ 3=some (.ptr i3 0)∧lk ρ 9=some (.sl (opsT.map AV.s) .full)∧lk ρ 10=some (.v (.int .i64 3))∧lk ρ 11=some (.v (.int .i64 i))) 3 ?_ ?_
 ·refine ⟨rfl,0,by omega,rfl,fun j _ hj=>(by omega), ?_, ?_, ?_, ?_, ?_, ?_⟩<;>simp -implicitDefEqProofs only [go_sem]<;>rfl
 ·rintro m ρ H ⟨rfl,i,hi,rfl,hb,r0,r2,r3,r9,r10,r11⟩
  simp -implicitDefEqProofs only [go_sem,r0,r2,r3,r9,r10,r11]
  refine .intro (fun e=> ?_) (fun e=> ?_)
  ·have hlt:i<3:=by have:=of_decide_eq_true e; omega
   have hlo:i<opsT.length:=hlt
   have w1:IntKind.i64.wrap ((i:Int)+1)=((i+1:Nat):Int):=by rw [wr64 _ (by omega)]; omega
   have w2:IntKind.i64.wrap (1+(i:Int))=((i:Int)+1):=by rw [wr64 _ (by omega)]; omega
   simp -implicitDefEqProofs only [go_sem,r0,r2,r3,r9,r10,r11]
   refine .at i (by simpa using hlo) (by rw [List.getElem_map]; rfl) ?_
   simp -implicitDefEqProofs only [go_sem,r0,r2,r3,r9,r10,r11,List.getElem_map]
   refine (take_ok st1 opsT[i] h1.1).run ?_
   cases d1:isD st1 opsT[i]
   ·have et:takeD st1 opsT[i]=(false,st1):=by simp [takeD,d1]
    rw [et]
    simp -implicitDefEqProofs only [go_sem,r0,r2,r3,r9,r10,r11,w1]
    refine ⟨_, ?_,rfl,i+1,by omega,rfl,fun j hj hji=> ?_, ?_, ?_, ?_, ?_, ?_, ?_⟩
    ·omega
    ·by_cases e:j=i
     ·subst e; exact d1
     ·exact hb j hj (by omega)
    all_goals simp -implicitDefEqProofs only [go_sem,r0,r2,r3,r9,r10,r11,w1]
   ·have et:takeD st1 opsT[i]=(true,nextD st1):=by simp [takeD,d1]
    have eo:=opP_at i hlo hb d1
    have h2:Ah st1 (nextD st1):=ah_next h1.1 (isD_kind d1)
    have en:matchP st=(⟨a,(i:Int)+1,(valueP (nextD st1)).1⟩,(valueP (nextD st1)).2):=by simp [matchP,e1,eo]
    have d2:(((i:Int)+1)==0)=false:=by simp; omega
    rw [et]
    simp -implicitDefEqProofs only [go_sem,c2,c3,c23,upd_ne,n2,n3,m32,m23,attrA,r0,r2,r3,r9,r10,r11,w2,d2]
    refine (value_p (nextD st1) h2.1).run ?_
    simp -implicitDefEqProofs only [go_sem,c2,c3,c23,upd_ne,n2,n3,m32,m23,attrA,valA,r0,r2,r3]
    exact .mk (h' :=upd G id (some (PO (matchP st).2))) _ (.refl _) (by rw [en]; exact Sub.both (by repeat (first|exact .refl _|refine Sub.put ?_ (by assumption) _)) _ _) ⟨by rw [en]; rfl,rfl⟩
  ·have hge:i=3:=by have:=of_decide_eq_false e; omega
   subst hge
   have eo:=opP_none fun j hj=>hb j hj hj
   have h2:Ah st1 (stuckD st1):=ah_stuck h1.1
   have en:matchP st=(⟨a,0,(valueP (stuckD st1)).1⟩,(valueP (stuckD st1)).2):=by simp [matchP,e1,eo]
   simp -implicitDefEqProofs only [go_sem,r0,r2,r3,r9,r10,r11,c2,c3,c23,upd_ne,n2,n3,m32,m23,attrA]
   refine (stuck_ok st1 h1.1).run ?_
   simp -implicitDefEqProofs only [go_sem,c2,c3,c23,upd_ne,n2,n3,m32,m23,attrA,r0,r2,r3,r9,r10,r11]
   refine (value_p (stuckD st1) h2.1).run ?_
   simp -implicitDefEqProofs only [go_sem,c2,c3,c23,upd_ne,n2,n3,m32,m23,attrA,valA,r0,r2,r3]
   exact .mk (h' :=upd G id (some (PO (matchP st).2))) _ (.refl _) (by rw [en]; exact Sub.both (by repeat (first|exact .refl _|refine Sub.put ?_ (by assumption) _)) _ _) ⟨by rw [en]; rfl,rfl⟩
end Go.Proofs.YtmlhcdeamjkpjaaGreatDoor

set_option linter.unusedSimpArgs false
set_option linter.unusedVariables false
namespace Go.Proofs.YtmlhcdeamjkpjaaGreatDoor
open Go Go.Ab Go.Bf
theorem uz_m:(U 246).sz=7:=by simp only [go_sem]
theorem ub_m:(U 246).bytes=72:=by simp only [go_sem]
theorem sized_m (l:List MatchD):Sized 7 (l.map matchA):=fun z hz=>by
 obtain ⟨c,_,rfl⟩:=List.mem_map.1 hz; rfl
theorem uz_a:(U 247).sz=1:=by simp only [go_sem]
theorem ub_a:(U 247).bytes=24:=by simp only [go_sem]
theorem sized_a (l:List (List MatchD)):Sized 1 (l.map allA):=fun z hz=>by
 obtain ⟨c,_,rfl⟩:=List.mem_map.1 hz; rfl
theorem uz_y:(U 243).sz=1:=by simp only [go_sem]
theorem ub_y:(U 243).bytes=24:=by simp only [go_sem]
theorem sized_y (l:List (List (List MatchD))):Sized 1 (l.map anyA):=fun z hz=>by
 obtain ⟨c,_,rfl⟩:=List.mem_map.1 hz; rfl
theorem all_p (st:PS) (hw:WfP st):PC 252 [] st (allA (allP st).1) (allP st).2:= .of fun G id=>by
 have h1:=ah_match hw
 have hm1:=match_p st hw
 obtain ⟨x0,st1,e1⟩:∃x0 st1,matchP st=(x0,st1):=⟨_,_,rfl⟩
 have ep:manyF matchP [44] 8 st.ts.length st1 [x0]=allP st:=by simp only [allP,e1]
 rw [e1] at h1 hm1
 simp only [matchA] at h1 hm1
 refine FnOK.body hU hm Tryz.func252 rfl (by kernel_rfl) 20 rfl [.tmp 2] rfl (Nat.le_of_ble_eq_true rfl) (fun hwf=> ?_)
 simp -implicitDefEqProofs only [go_sem]
 refine hm1.run ?_
 simp -implicitDefEqProofs only [go_sem]
 have hB:upd G id none id=none:=upd_same ..
 refine .intro (fun m ρ H=>∃(f:Nat) (st' :PS) (l:List _) (y:AV),H id=some (PO st')∧Acc U 246 (upd G id none) H y (l.map matchA)∧Ah st1 st'∧manyF matchP [44] 8 f st' l=allP st∧st1.ts.length≤f+st'.pos∧l.length≤st'.pos+1∧m=st1.ts.length - st'.pos∧lk ρ 0=some (.ptr id 0)∧lk ρ 3=some y) (st1.ts.length - st1.pos) ?_ ?_
 ·refine ⟨st.ts.length,st1,[x0], .sl ([x0].map matchA) .full,upd_same .., .full (base_start G id _), .refl h1.1,ep,by rw [h1.2.1]; omega,by simp,rfl, ?_, ?_⟩<;>simp -implicitDefEqProofs only [go_sem]<;>rfl
 ·rintro m ρ H ⟨f,st',l,y,hH,hy,ha,hfin,hf,hll,rfl,r0,r3⟩
  have hlen:=ha.1.2.2
  have hpos:=ha.1.1
  have htl:=ha.2.1
  simp -implicitDefEqProofs only [go_sem,r0,r3]
  refine (take_ok st' [44] ha.1).go hH ?_
  cases d1:isD st' [44]
  ·have et:takeD st' [44]=(false,st'):=by simp [takeD,d1]
   have ef:manyF matchP [44] 8 f st' l=(l,st'):=by cases f<;>simp [manyF,d1]
   rw [et,upd_self hH]
   rw [ef] at hfin
   simp -implicitDefEqProofs only [go_sem,r0,r3]
   exact .mk (h' :=upd G id (some (PO (allP st).2))) (allA l) hy.weak (by rw [←hfin]; exact base_end hy.1 hH) ⟨by rw [←hfin],rfl⟩
  ·have et:takeD st' [44]=(true,nextD st'):=by simp [takeD,d1]
   obtain ⟨g,rfl⟩:∃g,f=g+1:=⟨f - 1,by rw [htl] at hpos; omega⟩
   simp only [manyF,d1,if_true] at hfin
   have h2:=ah_next ha.1 (isD_kind d1)
   have hone:=match_p (nextD st') h2.1
   have h3:=(fun _ h=>ah_match h:∀st,WfP st→Ah st (matchP st).2) _ h2.1
   obtain ⟨x,st2,e2⟩:∃x st2,matchP (nextD st')=(x,st2):=⟨_,_,rfl⟩
   rw [e2] at hfin hone h3
   simp only [matchA] at hfin hone h3
   have hdec:decide ((8:Int)<((l.length+1:Nat):Int))=decide (8<l.length+1):=by
    by_cases h:8<l.length+1
    ·simp only [h,decide_true]; exact decide_eq_true (by omega)
    ·simp only [h,decide_false]; exact decide_eq_false (by omega)
   have h4:=ah_limit (decide (8<l.length+1)) h3.1
   have hnp:(nextD st').pos=st'.pos+1:=rfl
   have hp3:=h3.2.2
   have hp4:=h4.2.2
   rw [et]
   simp -implicitDefEqProofs only [go_sem,r0,r3]
   refine hone.run ?_
   simp -implicitDefEqProofs only [go_sem,r0,r3]
   refine (hy.put hB hH _).app (zs:= [matchA x]) (by rw [uz_m]; decide) (by rw [ub_m]; decide) (fun k hk=>hk) (by rw [uz_m]; exact sized_m l) (by rw [uz_m]; exact sized_m [x]) (by rw [ub_m]; simp; omega) fun y' H2 hy' hk2=> ?_
   have hH2:H2 id=some (PO st2):=hk2 _ _ _ (upd_same ..)
   simp -implicitDefEqProofs only [go_sem,r0,r3,hy'.len,List.length_append,List.length_map,List.length_cons,List.length_nil,Nat.zero_add,hdec]
   refine (limit_ok st2 _ h3.1).go hH2 ?_
   simp -implicitDefEqProofs only [go_sem,r0,r3]
   refine ⟨_, ?_,g,limitD st2 (decide (8<l.length+1)),l++ [x],y',upd_same ..,by rw [List.map_append]; exact hy'.put hB hH2 _,(((ha.trans h2).trans h3).trans h4),hfin,by omega,by simp; omega,rfl, ?_, ?_⟩
   ·have:st1.ts.length=st'.ts.length:=by rw [htl]
    omega
   all_goals simp -implicitDefEqProofs only [go_sem,r0,r3]
theorem any_p (st:PS) (hw:WfP st):PC 207 [] st (anyA (anyP st).1) (anyP st).2:= .of fun G id=>by
 have h0:=ah_must [40] hw
 have h1:=ah_all h0.1
 have hm1:=all_p _ h0.1
 obtain ⟨x0,st1,e1⟩:∃x0 st1,allP (mustD st [40])=(x0,st1):=⟨_,_,rfl⟩
 obtain ⟨M,eM⟩:∃M,manyF allP orT 8 st.ts.length st1 [x0]=M:=⟨_,rfl⟩
 have epp:(M.1,mustD M.2 [41])=anyP st:=by simp only [anyP,e1,eM]
 rw [e1] at h1 hm1
 simp only [allA] at h1 hm1
 refine FnOK.body hU hm Tryz.func207 rfl (by kernel_rfl) 24 rfl [.tmp 2] rfl (Nat.le_of_ble_eq_true rfl) (fun hwf=> ?_)
 simp -implicitDefEqProofs only [go_sem]
 refine (must_ok st [40] hw).run ?_
 simp -implicitDefEqProofs only [go_sem]
 refine hm1.run ?_
 simp -implicitDefEqProofs only [go_sem]
 have hB:upd G id none id=none:=upd_same ..
 refine .intro (fun m ρ H=>∃(f:Nat) (st' :PS) (l:List _) (y:AV),H id=some (PO st')∧Acc U 247 (upd G id none) H y (l.map allA)∧Ah st1 st'∧manyF allP orT 8 f st' l=M∧st1.ts.length≤f+st'.pos∧l.length≤st'.pos+1∧m=st1.ts.length - st'.pos∧lk ρ 0=some (.ptr id 0)∧lk ρ 3=some y) (st1.ts.length - st1.pos) ?_ ?_
 ·refine ⟨st.ts.length,st1,[x0], .sl ([x0].map allA) .full,upd_same .., .full (base_start G id _), .refl h1.1,eM,by rw [h1.2.1,h0.2.1]; omega,by simp,rfl, ?_, ?_⟩<;>simp -implicitDefEqProofs only [go_sem]<;>rfl
 ·rintro m ρ H ⟨f,st',l,y,hH,hy,ha,hfin,hf,hll,rfl,r0,r3⟩
  have hlen:=ha.1.2.2
  have hpos:=ha.1.1
  have htl:=ha.2.1
  simp -implicitDefEqProofs only [go_sem,r0,r3]
  refine (take_ok st' orT ha.1).go hH ?_
  cases d1:isD st' orT
  ·have et:takeD st' orT=(false,st'):=by simp [takeD,d1]
   have ef:manyF allP orT 8 f st' l=(l,st'):=by cases f<;>simp [manyF,d1]
   rw [et,upd_self hH]
   rw [ef] at hfin
   simp -implicitDefEqProofs only [go_sem,r0,r3]
   refine (must_ok st' [41] ha.1).go hH ?_
   simp -implicitDefEqProofs only [go_sem,r0,r3]
   exact .mk (h' :=upd G id (some (PO (anyP st).2))) (anyA l) hy.weak (by rw [←epp,←hfin]; exact base_end (hy.1.put hB _) (upd_same ..)) ⟨by rw [←epp,←hfin],rfl⟩
  ·have et:takeD st' orT=(true,nextD st'):=by simp [takeD,d1]
   obtain ⟨g,rfl⟩:∃g,f=g+1:=⟨f - 1,by rw [htl] at hpos; omega⟩
   simp only [manyF,d1,if_true] at hfin
   have h2:=ah_next ha.1 (isD_kind d1)
   have hone:=all_p (nextD st') h2.1
   have h3:=(fun _ h=>ah_all h:∀st,WfP st→Ah st (allP st).2) _ h2.1
   obtain ⟨x,st2,e2⟩:∃x st2,allP (nextD st')=(x,st2):=⟨_,_,rfl⟩
   rw [e2] at hfin hone h3
   simp only [allA] at hfin hone h3
   have hdec:decide ((8:Int)<((l.length+1:Nat):Int))=decide (8<l.length+1):=by
    by_cases h:8<l.length+1
    ·simp only [h,decide_true]; exact decide_eq_true (by omega)
    ·simp only [h,decide_false]; exact decide_eq_false (by omega)
   have h4:=ah_limit (decide (8<l.length+1)) h3.1
   have hnp:(nextD st').pos=st'.pos+1:=rfl
   have hp3:=h3.2.2
   have hp4:=h4.2.2
   rw [et]
   simp -implicitDefEqProofs only [go_sem,r0,r3]
   refine hone.run ?_
   simp -implicitDefEqProofs only [go_sem,r0,r3]
   refine (hy.put hB hH _).app (zs:= [allA x]) (by rw [uz_a]; decide) (by rw [ub_a]; decide) (fun k hk=>hk) (by rw [uz_a]; exact sized_a l) (by rw [uz_a]; exact sized_a [x]) (by rw [ub_a]; simp; omega) fun y' H2 hy' hk2=> ?_
   have hH2:H2 id=some (PO st2):=hk2 _ _ _ (upd_same ..)
   simp -implicitDefEqProofs only [go_sem,r0,r3,hy'.len,List.length_append,List.length_map,List.length_cons,List.length_nil,Nat.zero_add,hdec]
   refine (limit_ok st2 _ h3.1).go hH2 ?_
   simp -implicitDefEqProofs only [go_sem,r0,r3]
   refine ⟨_, ?_,g,limitD st2 (decide (8<l.length+1)),l++ [x],y',upd_same ..,by rw [List.map_append]; exact hy'.put hB hH2 _,(((ha.trans h2).trans h3).trans h4),hfin,by omega,by simp; omega,rfl, ?_, ?_⟩
   ·have:st1.ts.length=st'.ts.length:=by rw [htl]
    omega
   all_goals simp -implicitDefEqProofs only [go_sem,r0,r3]
theorem tgt_p (st:PS) (hw:WfP st):PC 153 [] st (tgtA (tgtP st).1) (tgtP st).2:= .of fun G id=>by
 refine FnOK.body hU hm Tryz.func153 rfl (by kernel_rfl) 23 rfl [.tmp 2] rfl (Nat.le_of_ble_eq_true rfl) (fun hwf=> ?_)
 simp -implicitDefEqProofs only [go_sem]
 refine (take_ok st whenT hw).run ?_
 cases d0:isD st whenT
 ·have et:takeD st whenT=(false,st):=by simp [takeD,d0]
  have ep:tgtP st=([],st):=by simp [tgtP,d0]
  rw [et]
  simp -implicitDefEqProofs only [go_sem]
  exact .mk (h' :=upd G id (some (PO (tgtP st).2))) (tgtA []) (.sl _ _) (by rw [ep]; exact .refl _) ⟨by rw [ep],rfl⟩
 have et:takeD st whenT=(true,nextD st):=by simp [takeD,d0]
 have h0:=ah_next hw (isD_kind d0)
 have h1:=ah_any h0.1
 have hm1:=any_p _ h0.1
 obtain ⟨x0,st1,e1⟩:∃x0 st1,anyP (nextD st)=(x0,st1):=⟨_,_,rfl⟩
 obtain ⟨M,eM⟩:∃M,manyF anyP andT 8 st.ts.length st1 [x0]=M:=⟨_,rfl⟩
 have ep:M=tgtP st:=by simp only [tgtP,d0,if_true,e1,eM]
 rw [e1] at h1 hm1
 simp only [anyA] at h1 hm1
 rw [et]
 simp -implicitDefEqProofs only [go_sem]
 refine hm1.run ?_
 simp -implicitDefEqProofs only [go_sem]
 have hB:upd G id none id=none:=upd_same ..
 refine .intro (fun m ρ H=>∃(f:Nat) (st' :PS) (l:List _) (y:AV),H id=some (PO st')∧Acc U 243 (upd G id none) H y (l.map anyA)∧Ah st1 st'∧manyF anyP andT 8 f st' l=M∧st1.ts.length≤f+st'.pos∧l.length≤st'.pos+1∧m=st1.ts.length - st'.pos∧lk ρ 0=some (.ptr id 0)∧lk ρ 3=some y) (st1.ts.length - st1.pos) ?_ ?_
 ·refine ⟨st.ts.length,st1,[x0], .sl ([x0].map anyA) .full,upd_same .., .full (base_start G id _), .refl h1.1,eM,by rw [h1.2.1,h0.2.1]; omega,by simp,rfl, ?_, ?_⟩<;>simp -implicitDefEqProofs only [go_sem]<;>rfl
 ·rintro m ρ H ⟨f,st',l,y,hH,hy,ha,hfin,hf,hll,rfl,r0,r3⟩
  have hlen:=ha.1.2.2
  have hpos:=ha.1.1
  have htl:=ha.2.1
  simp -implicitDefEqProofs only [go_sem,r0,r3]
  refine (take_ok st' andT ha.1).go hH ?_
  cases d1:isD st' andT
  ·have et:takeD st' andT=(false,st'):=by simp [takeD,d1]
   have ef:manyF anyP andT 8 f st' l=(l,st'):=by cases f<;>simp [manyF,d1]
   rw [et,upd_self hH]
   rw [ef] at hfin
   simp -implicitDefEqProofs only [go_sem,r0,r3]
   exact .mk (h' :=upd G id (some (PO (tgtP st).2))) (tgtA l) hy.weak (by rw [←ep,←hfin]; exact base_end hy.1 hH) ⟨by rw [←ep,←hfin],rfl⟩
  ·have et:takeD st' andT=(true,nextD st'):=by simp [takeD,d1]
   obtain ⟨g,rfl⟩:∃g,f=g+1:=⟨f - 1,by rw [htl] at hpos; omega⟩
   simp only [manyF,d1,if_true] at hfin
   have h2:=ah_next ha.1 (isD_kind d1)
   have hone:=any_p (nextD st') h2.1
   have h3:=(fun _ h=>ah_any h:∀st,WfP st→Ah st (anyP st).2) _ h2.1
   obtain ⟨x,st2,e2⟩:∃x st2,anyP (nextD st')=(x,st2):=⟨_,_,rfl⟩
   rw [e2] at hfin hone h3
   simp only [anyA] at hfin hone h3
   have hdec:decide ((8:Int)<((l.length+1:Nat):Int))=decide (8<l.length+1):=by
    by_cases h:8<l.length+1
    ·simp only [h,decide_true]; exact decide_eq_true (by omega)
    ·simp only [h,decide_false]; exact decide_eq_false (by omega)
   have h4:=ah_limit (decide (8<l.length+1)) h3.1
   have hnp:(nextD st').pos=st'.pos+1:=rfl
   have hp3:=h3.2.2
   have hp4:=h4.2.2
   rw [et]
   simp -implicitDefEqProofs only [go_sem,r0,r3]
   refine hone.run ?_
   simp -implicitDefEqProofs only [go_sem,r0,r3]
   refine (hy.put hB hH _).app (zs:= [anyA x]) (by rw [uz_y]; decide) (by rw [ub_y]; decide) (fun k hk=>hk) (by rw [uz_y]; exact sized_y l) (by rw [uz_y]; exact sized_y [x]) (by rw [ub_y]; simp; omega) fun y' H2 hy' hk2=> ?_
   have hH2:H2 id=some (PO st2):=hk2 _ _ _ (upd_same ..)
   simp -implicitDefEqProofs only [go_sem,r0,r3,hy'.len,List.length_append,List.length_map,List.length_cons,List.length_nil,Nat.zero_add,hdec]
   refine (limit_ok st2 _ h3.1).go hH2 ?_
   simp -implicitDefEqProofs only [go_sem,r0,r3]
   refine ⟨_, ?_,g,limitD st2 (decide (8<l.length+1)),l++ [x],y',upd_same ..,by rw [List.map_append]; exact hy'.put hB hH2 _,(((ha.trans h2).trans h3).trans h4),hfin,by omega,by simp; omega,rfl, ?_, ?_⟩
   ·have:st1.ts.length=st'.ts.length:=by rw [htl]
    omega
   all_goals simp -implicitDefEqProofs only [go_sem,r0,r3]
end Go.Proofs.YtmlhcdeamjkpjaaGreatDoor

set_option linter.unusedSimpArgs false
set_option linter.unusedVariables false
namespace Go.Proofs.YtmlhcdeamjkpjaaGreatDoor
open Go Go.Ab Go.Bf
theorem operands_ok (op:Int) (h:Heap):FnOK Tryz.prog 319 [.v (.int .i64 op)] h fun r h' =>r= .sl ((opers op).map boolA) .no∧h' =h:=by
 refine FnOK.body hU hm Tryz.func319 rfl (by kernel_rfl) 15 rfl [.tmp 2] rfl (Nat.le_of_ble_eq_true rfl) (fun hwf=> ?_)
 cases k3:(op==3)<;>cases k4:(op==4)<;>cases k5:(op==5)<;>cases k11:(op==11)
 all_goals
  simp -implicitDefEqProofs only [go_sem,k3,k4,k5,k11]
  simp only [beq_iff_eq,beq_eq_false_iff_ne] at k3 k4 k5 k11
  refine .mk _ (.sl _ _) (.refl _) ⟨?_,rfl⟩
  simp [opers,k3,k4,k5,k11,boolA]
theorem uz_o:(U 90).sz=3:=by simp only [go_sem]
theorem ub_o:(U 90).bytes=32:=by simp only [go_sem]
theorem sized_o (l:List OblD):Sized 3 (l.map oblA):=fun z hz=>by
 obtain ⟨c,_,rfl⟩:=List.mem_map.1 hz; rfl
set_option maxRecDepth 20000 in
theorem duties_p (st:PS) (hw:WfP st):PC 157 [] st (oblsA (oblsP st).1) (oblsP st).2:= .of fun G id=>by
 obtain ⟨M,eM⟩:∃M,oblsP st=M:=⟨_,rfl⟩
 have eM2:manyF oblP onceT 8 st.ts.length st []=M:=eM
 refine FnOK.body hU hm Tryz.func157 rfl (by kernel_rfl) 28 rfl [.tmp 2] rfl (Nat.le_of_ble_eq_true rfl) (fun hwf=> ?_)
 simp -implicitDefEqProofs only [go_sem]
 have hB:upd G id none id=none:=upd_same ..
 refine .intro (fun m ρ H=>∃(f:Nat) (st' :PS) (l:List OblD) (y:AV),H id=some (PO st')∧Acc U 90 (upd G id none) H y (l.map oblA)∧Ah st st'∧manyF oblP onceT 8 f st' l=M∧st.ts.length≤f+st'.pos∧l.length≤st'.pos+1∧m=st.ts.length - st'.pos∧lk ρ 0=some (.ptr id 0)∧lk ρ 3=some y) (st.ts.length - st.pos) ?_ ?_
 ·refine ⟨st.ts.length,st,[], .sl ([].map oblA) .full,upd_same .., .full (base_start G id _), .refl hw,eM2,by omega,by simp,rfl, ?_, ?_⟩<;>simp -implicitDefEqProofs only [go_sem]<;>rfl
 ·rintro m ρ H ⟨f,st',l,y,hH,hy,ha,hfin,hf,hll,rfl,r0,r3⟩
  have hlen:=ha.1.2.2
  have hpos:=ha.1.1
  have htl:=ha.2.1
  simp -implicitDefEqProofs only [go_sem,r0,r3]
  refine (take_ok st' onceT ha.1).go hH ?_
  cases d1:isD st' onceT
  ·have et:takeD st' onceT=(false,st'):=by simp [takeD,d1]
   have ef:manyF oblP onceT 8 f st' l=(l,st'):=by cases f<;>simp [manyF,d1]
   rw [et,upd_self hH]
   rw [ef] at hfin
   simp -implicitDefEqProofs only [go_sem,r0,r3]
   exact .mk (h' :=upd G id (some (PO (oblsP st).2))) (oblsA l) hy.weak (by rw [eM,←hfin]; exact base_end hy.1 hH) ⟨by rw [eM,←hfin],rfl⟩
  ·have et:takeD st' onceT=(true,nextD st'):=by simp [takeD,d1]
   obtain ⟨g,rfl⟩:∃g,f=g+1:=⟨f - 1,by rw [htl] at hpos; omega⟩
   simp only [manyF,d1,if_true] at hfin
   have h2:=ah_next ha.1 (isD_kind d1)
   have ho1:=ah_among onWs h2.1
   have ho2:=ah_among dutyWs ho1.1
   have ho3:=ah_name ho2.1
   have h3:Ah (nextD st') (oblP (nextD st')).2:=ah_obl h2.1
   have hdec:decide ((8:Int)<((l.length+1:Nat):Int))=decide (8<l.length+1):=by
    by_cases h:8<l.length+1
    ·simp only [h,decide_true]; exact decide_eq_true (by omega)
    ·simp only [h,decide_false]; exact decide_eq_false (by omega)
   have h4:=ah_limit (decide (8<l.length+1)) h3.1
   have hnp:(nextD st').pos=st'.pos+1:=rfl
   have hp3:=h3.2.2
   have hp4:=h4.2.2
   have eX:(oblP (nextD st'))=(⟨(amongD (nextD st') onWs).1,(amongD (amongD (nextD st') onWs).2 dutyWs).1,(nameP (amongD (amongD (nextD st') onWs).2 dutyWs).2).1⟩,(nameP (amongD (amongD (nextD st') onWs).2 dutyWs).2).2):=rfl
   obtain ⟨x,st2,e2⟩:∃x st2,oblP (nextD st')=(x,st2):=⟨_,_,rfl⟩
   rw [et]
   simp -implicitDefEqProofs only [go_sem,r0,r3]
   intro i4 hi4
   have n4:=ne_upd hi4
   have hH4:H i4=none:=by rw [upd_other _ _ n4] at hi4; exact hi4
   have c4:∀(f:Heap) (x y:Option Blk),upd (upd f id x) i4 y=upd (upd f i4 y) id x:=fun f x y=>upd_comm f x y n4.symm
   simp -implicitDefEqProofs only [go_sem,r0,r3,c4]
   refine (among_ok _ onWs .full (by decide) h2.1).run ?_
   simp -implicitDefEqProofs only [go_sem,r0,r3,c4,upd_ne,n4]
   refine (among_ok _ dutyWs .full (by decide) ho1.1).run ?_
   simp -implicitDefEqProofs only [go_sem,r0,r3,c4,upd_ne,n4]
   refine (pname_ok _ ho2.1).run ?_
   simp -implicitDefEqProofs only [go_sem,r0,r3,c4,upd_ne,n4]
   rw [e2] at hfin h3 h4 hp3 hp4
   simp only at hfin h3 h4 hp3 hp4
   have ex1:x=(oblP (nextD st')).1:=by rw [e2]
   have ex2:st2=(nameP (amongD (amongD (nextD st') onWs).2 dutyWs).2).2:=by
    have:st2=(oblP (nextD st')).2:=by rw [e2]
    exact this
   rw [←ex2]
   refine ((hy.sub (Sub.upd_new (k:=_) hH4)).put hB (by rw [upd_other _ _ n4.symm]; exact hH) _).app (zs:= [oblA x]) (by rw [uz_o]; decide) (by rw [ub_o]; decide) (fun k hk=>by rw [ex1] at hk; exact hk) (by rw [uz_o]; exact sized_o l) (by rw [uz_o]; exact sized_o [x]) (by rw [ub_o]; simp; omega) fun y' H2 hy' hk2=> ?_
   have hH2:H2 id=some (PO st2):=hk2 _ _ _ (upd_same ..)
   simp -implicitDefEqProofs only [go_sem,r0,r3,hy'.len,List.length_append,List.length_map,List.length_cons,List.length_nil,Nat.zero_add,hdec]
   refine (limit_ok st2 _ h3.1).go hH2 ?_
   simp -implicitDefEqProofs only [go_sem,r0,r3]
   refine ⟨_, ?_,g,limitD st2 (decide (8<l.length+1)),l++ [x],y',upd_same ..,by rw [List.map_append]; exact hy'.put hB hH2 _,(((ha.trans h2).trans h3).trans h4),hfin,by omega,by simp; omega,rfl, ?_, ?_⟩
   ·have:st.ts.length=st'.ts.length:=by rw [htl]
    omega
   all_goals simp -implicitDefEqProofs only [go_sem,r0,r3]
end Go.Proofs.YtmlhcdeamjkpjaaGreatDoor

set_option linter.unusedSimpArgs false
set_option linter.unusedVariables false
namespace Go.Proofs.YtmlhcdeamjkpjaaGreatDoor
open Go Go.Ab Go.Bf
theorem acc_less {U:TypeId→TI} {e:TypeId} {B B' H:Heap} {y:AV} {xs:List AV} (hs:Sub B B') (ha:Acc U e B' H y xs):Acc U e B H y xs:=by
 obtain ⟨h1,rfl|⟨k,i1,rfl,i2⟩⟩:=ha
 ·exact ⟨hs.trans h1, .inl rfl⟩
 ·refine ⟨hs.trans h1, .inr ⟨k, ?_,rfl,i2⟩⟩
  cases hk:B k with
  |none=>rfl
  |some b=>rw [hs _ _ hk] at i1; cases i1
theorem acc_grow {U:TypeId→TI} {e:TypeId} {B H:Heap} {y:AV} {xs:List AV} (ha:Acc U e B H y xs) {i:Nat} (hi:H i=none) (b:Option Blk):Acc U e (upd B i b) (upd H i b) y xs:=by
 obtain ⟨h1,rfl|⟨k,i1,rfl,i2⟩⟩:=ha
 ·exact ⟨h1.both _ _, .inl rfl⟩
 ·have hne:k≠i:=fun hh=>by subst hh; rw [hi] at i2; cases i2
  exact ⟨h1.both _ _, .inr ⟨k,by rw [upd_other _ _ hne]; exact i1,rfl,by rw [upd_other _ _ hne]; exact i2⟩⟩
theorem acc_step {U:TypeId→TI} {e:TypeId} {G K:Heap} {id:Nat} {st:PS} {y:AV} {xs:List AV} (ha:Acc U e (upd G id none) (upd K id (some (PO st))) y xs) (st' :PS):Acc U e (upd G id none) (upd K id (some (PO st'))) y xs:=by
 have:=ha.put (id:=id) (upd_same ..) (cs:=_) (t:=_) (upd_same ..) (some (PO st'))
 rw [upd_upd] at this
 exact this
def XC (f:FuncId) (args:List AV) (st:PS) (l:List NodeD) (mk:AV→AV) (st' :PS) (l' :List NodeD):Prop:=
 ∀(G K:Heap) (id:Nat) (y:AV),Acc U 186 (upd G id none) (upd K id (some (PO st))) y (l.map nodeA)→FnOK Tryz.prog f (.ptr id 0::y::args) (upd K id (some (PO st))) fun r h' =>∃y',r=mk y'∧h' id=some (PO st')∧Acc U 186 (upd G id none) h' y' (l'.map nodeA)
theorem XC.run {f:FuncId} {args:List AV} {st st' :PS} {l l' :List NodeD} {mk:AV→AV} (hc:XC f args st l mk st' l') {G K:Heap} {id:Nat} {y:AV} {Q:AV→Heap→Prop} (ha:Acc U 186 (upd G id none) (upd K id (some (PO st))) y (l.map nodeA))
  (k:∀y' K',Acc U 186 (upd G id none) (upd K' id (some (PO st'))) y' (l'.map nodeA)→Q (mk y') (upd K' id (some (PO st')))):FnOK Tryz.prog f (.ptr id 0::y::args) (upd K id (some (PO st))) Q:=
 (hc G K id y ha).mono fun r h' ⟨y',e1,e2,e3⟩=>by
  subst e1
  have:=k y' h' (by rw [upd_self e2]; exact e3)
  rwa [upd_self e2] at this
def EH (ex:ExF) (f:Nat):Prop:=∀st l,WfP st→st.ts.length≤f+st.pos→l.length≤2*st.pos+1→XC 276 [] st l (fun y=> .tup [y, .v (.bool (ex st l).1.2)]) (ex st l).2 (ex st l).1.1
theorem among_rng (st:PS) (ws:List Txt):0≤(amongD st ws).1∧(amongD st ws).1≤ws.length:=by
 unfold amongD
 cases ei:idxT (hereD st).s ws with
 |none=>simp
 |some i=>
  have:=idxT_lt ei
  simp only
  split<;>simp<;>omega
theorem operand_x {ex:ExF} (ho:ExOK ex) {f:Nat} (he:EH ex f) (st:PS) (l:List NodeD) (b:Bool) (hw:WfP st) (hf:st.ts.length≤f+st.pos) (hl:l.length≤2*st.pos+1):XC 253 [.v (.bool b)] st l (fun y=>y) (operG ex st l b).2 (operG ex st l b).1:=fun G K id y ha=>by
 refine FnOK.body hU hm Tryz.func253 rfl (by kernel_rfl) 25 rfl [.tmp 6] rfl (Nat.le_of_ble_eq_true rfl) (fun hwf=> ?_)
 simp -implicitDefEqProofs only [go_sem]
 refine (here_ok st hw).run ?_
 simp -implicitDefEqProofs only [go_sem,tokA]
 refine (he st l hw hf hl).run ha fun y' K' ha' => ?_
 cases db:((ex st l).1.2==b)
 ·have e1:(ex st l).1.2≠b:=by simpa using db
  have en:operG ex st l b=((ex st l).1.1,wrongD (ex st l).2 5 (hereD st).pos):=by simp [operG,e1]
  simp -implicitDefEqProofs only [go_sem,db,Bool.not_false]
  refine (wrong_ok _ 5 _).run ?_
  simp -implicitDefEqProofs only [go_sem]
  exact .mk (h' :=upd K' id (some (PO (wrongD (ex st l).2 5 (hereD st).pos)))) y' (.refl _) (.refl _) ⟨y',rfl,by rw [en]; exact upd_same ..,by rw [en]; exact acc_step ha' _⟩
 ·have e1:(ex st l).1.2=b:=by simpa using db
  have en:operG ex st l b=((ex st l).1.1,(ex st l).2):=by simp [operG,e1]
  simp -implicitDefEqProofs only [go_sem,db,Bool.not_true]
  exact .mk (h' :=upd K' id (some (PO (ex st l).2))) y' (.refl _) (.refl _) ⟨y',rfl,by rw [en]; exact upd_same ..,by rw [en]; exact ha'⟩
set_option maxRecDepth 20000 in
theorem function_x {ex:ExF} (ho:ExOK ex) {f:Nat} (he:EH ex f) (st:PS) (l:List NodeD) (hw:WfP st) (hf:st.ts.length≤f+st.pos) (hl:l.length+1≤2*st.pos):XC 298 [] st l (fun y=> .tup [y,nodeA (funcG ex st l).1.2]) (funcG ex st l).2 (funcG ex st l).1.1:=fun G K id y ha=>by
 have h1:=ah_among fnWs hw
 have hrg:=among_rng st fnWs
 have hfl:fnWs.length=11:=rfl
 have w2:IntKind.i64.wrap (2+(amongD st fnWs).1)=2+(amongD st fnWs).1:=by rw [wr64 _ (by omega)]
 refine FnOK.body hU hm Tryz.func298 rfl (by kernel_rfl) 36 rfl [.tmp 4, .cell 5 186] rfl (Nat.le_of_ble_eq_true rfl) (fun hwf=> ?_)
 simp -implicitDefEqProofs only [go_sem]
 intro i5 hi5
 have n5:=ne_upd hi5
 have hK5:K i5=none:=by rw [upd_other _ _ n5] at hi5; exact hi5
 have c5:∀(f:Heap) (x y:Option Blk),upd (upd f id x) i5 y=upd (upd f i5 y) id x:=fun f x y=>upd_comm f x y n5.symm
 simp -implicitDefEqProofs only [go_sem,c5]
 refine (among_ok _ fnWs .full (by decide) hw).run ?_
 simp -implicitDefEqProofs only [go_sem,w2,c5]
 intro i6 hi6
 have n6:=ne_upd hi6
 have c6:∀(f:Heap) (x y:Option Blk),upd (upd f id x) i6 y=upd (upd f i6 y) id x:=fun f x y=>upd_comm f x y n6.symm
 have hi6' :=hi6
 rw [upd_other _ _ n6] at hi6'
 have n65:=ne_upd hi6'
 have hK6:K i6=none:=by rw [upd_other _ _ n65] at hi6'; exact hi6'
 simp -implicitDefEqProofs only [go_sem,w2,c5,c6,upd_ne,n5,n6]
 refine (operands_ok _ _).pthen ?_
 simp -implicitDefEqProofs only [go_sem,w2,c5,c6,upd_ne,n5,n6]
 have h5f:=ha
 obtain ⟨bs,ebs⟩:∃bs,opers (2+(amongD st fnWs).1)=bs:=⟨_,rfl⟩
 obtain ⟨M,eM⟩:∃M,opersG ex bs (amongD st fnWs).2 l=M:=⟨_,rfl⟩
 have hb2:bs.length≤2:=by rw [←ebs]; exact opers_le _
 have hMr:funcG ex st l=((M.1,⟨2+(amongD st fnWs).1,⟨0,0,[]⟩,⟨0,[],false⟩⟩),mustD M.2 [41]):=by simp only [funcG,ebs,eM]
 obtain ⟨st1,es1⟩:∃st1,(amongD st fnWs).2=st1:=⟨_,rfl⟩
 have hac0:=acc_grow (acc_grow (acc_step ha st1) (by rw [upd_other _ _ n5]; exact hK5) (some (.obj [.v (.int .i64 0), .v (.int .i64 0), .v (.int .i64 0), .s [], .v (.int .i64 0), .s [], .v (.bool false)] 186))) (by rw [upd_other _ _ n65,upd_other _ _ n6]; exact hK6) (some (.obj [.v (.int .i64 (2+(amongD st fnWs).1)), .v (.int .i64 0), .v (.int .i64 0), .s [], .v (.int .i64 0), .s [], .v (.bool false)] 186))
 simp only [c5,c6] at hac0
 obtain ⟨G',eG⟩:∃G',G' =upd (upd G i5 (some (.obj [.v (.int .i64 0), .v (.int .i64 0), .v (.int .i64 0), .s [], .v (.int .i64 0), .s [], .v (.bool false)] 186))) i6 (some (.obj [.v (.int .i64 (2+(amongD st fnWs).1)), .v (.int .i64 0), .v (.int .i64 0), .s [], .v (.int .i64 0), .s [], .v (.bool false)] 186)):=⟨_,rfl⟩
 have g5:upd G' id none i5=some (.obj [.v (.int .i64 0), .v (.int .i64 0), .v (.int .i64 0), .s [], .v (.int .i64 0), .s [], .v (.bool false)] 186):=by rw [eG,upd_other _ _ n5,upd_other _ _ (Ne.symm n65),upd_same]
 have g6:upd G' id none i6=some (.obj [.v (.int .i64 (2+(amongD st fnWs).1)), .v (.int .i64 0), .v (.int .i64 0), .s [], .v (.int .i64 0), .s [], .v (.bool false)] 186):=by rw [eG,upd_other _ _ n6,upd_same]
 rw [←eG] at hac0
 have gi5:upd G id none i5=none:=by
  cases hk:upd G id none i5 with
  |none=>rfl
  |some b=>rw [ha.1 _ _ hk] at hi5; cases hi5
 have hsG:Sub (upd G id none) (upd G' id none):=fun k b hk=>by
  have hs1:=ha.1 k b hk
  have hk5:k≠i5:=fun e=>by rw [e,hi5] at hs1; cases hs1
  have hk6:k≠i6:=fun e=>by
   rw [e,upd_other _ _ n6,hK6] at hs1; cases hs1
  by_cases hkid:k=id
  ·subst hkid; rw [upd_same] at hk; cases hk
  ·rw [upd_other _ _ hkid] at hk⊢
   rw [eG,upd_other _ _ hk6,upd_other _ _ hk5]; exact hk
 simp only [es1,ebs] at h1 eM⊢
 refine .intro (fun m ρ H=>∃(i:Nat) (st' :PS) (l' :List NodeD) (y' :AV) (K' :Heap),H=upd K' id (some (PO st'))∧Acc U 186 (upd G' id none) (upd K' id (some (PO st'))) y' (l'.map nodeA)∧Ah st1 st'∧i≤bs.length∧opersG ex (bs.drop i) st' l' =M∧l'.length+1≤2*st'.pos+i∧m=bs.length - i∧lk ρ 0=some (.ptr id 0)∧lk ρ 1=some y'∧lk ρ 5=some (.ptr i5 0)∧lk ρ 6=some (.ptr i6 0)∧lk ρ 16=some (.sl (bs.map boolA) .no)∧lk ρ 17=some (.v (.int .i64 bs.length))∧lk ρ 18=some (.v (.int .i64 i))) bs.length ?_ ?_
 ·refine ⟨0,st1,l,y,_,rfl,hac0, .refl h1.1,by omega,by simpa using eM,by have:=h1.2.2; omega,rfl, ?_, ?_, ?_, ?_, ?_, ?_, ?_⟩<;>simp -implicitDefEqProofs only [go_sem]<;>(try rfl)<;>simp
 ·rintro m ρ H ⟨i,st',l',y',K',rfl,hac,hah,hi,hfin,hll,rfl,r0,r1,r5,r6,r16,r17,r18⟩
  simp -implicitDefEqProofs only [go_sem,r0,r1,r5,r6,r16,r17,r18]
  have k6:upd K' id (some (PO st')) i6=some (.obj [.v (.int .i64 (2+(amongD st fnWs).1)), .v (.int .i64 0), .v (.int .i64 0), .s [], .v (.int .i64 0), .s [], .v (.bool false)] 186):=hac.1 _ _ g6
  have k5:upd K' id (some (PO st')) i5=some (.obj [.v (.int .i64 0), .v (.int .i64 0), .v (.int .i64 0), .s [], .v (.int .i64 0), .s [], .v (.bool false)] 186):=hac.1 _ _ g5
  rw [upd_other _ _ n6] at k6
  rw [upd_other _ _ n5] at k5
  refine .intro (fun e=> ?_) (fun e=> ?_)
  ·have hlt:i<bs.length:=Int.ofNat_lt.1 (of_decide_eq_true e)
   simp -implicitDefEqProofs only [go_sem,r0,r1,r5,r6,r16,r17,r18]
   refine .at i (by simpa using hlt) (by rw [List.getElem_map]; rfl) ?_
   cases db:(st'.bad !=0)
   ·have e1:st'.bad=0:=by simpa using db
    rw [List.drop_eq_getElem_cons hlt] at hfin
    simp only [opersG,e1,if_true] at hfin
    simp -implicitDefEqProofs only [go_sem,r0,r1,r5,r6,r16,r17,r18,List.getElem_map,boolA,PO,db]
    have hpl:=hah.2.2
    refine (operand_x ho he st' l' bs[i] hah.1 (by rw [hah.2.1,h1.2.1]; have:=h1.2.2; omega) (by omega)).run hac fun y2 K2 hac2=> ?_
    obtain ⟨q1,q2⟩:=operG_ok ho st' l' bs[i] hah.1
    have w1:IntKind.i64.wrap ((i:Int)+1)=((i+1:Nat):Int):=by rw [wr64 _ (by omega)]; omega
    simp -implicitDefEqProofs only [go_sem,r0,r1,r5,r6,r16,r17,r18,w1]
    refine ⟨_, ?_,i+1,(operG ex st' l' bs[i]).2,(operG ex st' l' bs[i]).1,y2,K2,rfl,hac2,hah.trans q1,hlt,hfin,by omega,rfl, ?_⟩
    ·omega
    refine ⟨?_, ?_, ?_, ?_, ?_, ?_, ?_⟩
    all_goals simp -implicitDefEqProofs only [go_sem,r0,r1,r5,r6,r16,r17,r18,w1]
   ·have e1:st'.bad≠0:=by simpa using db
    have hfin2:(l',st')=M:=by
     rw [←hfin,List.drop_eq_getElem_cons hlt]
     simp [opersG,e1]
    clear hfin
    have hfin:=hfin2
    simp -implicitDefEqProofs only [go_sem,r0,r1,r5,r6,r16,r17,r18,List.getElem_map,boolA,PO,db]
    refine (must_ok _ [41] hah.1).run ?_
    simp -implicitDefEqProofs only [go_sem,r0,r1,r5,r6,r16,r17,r18,upd_ne,n5,n6,k5,k6]
    refine ⟨.of (by kernel_rfl), ?_⟩
    exact .mk (.tup [y',nodeA ⟨2+(amongD st fnWs).1,⟨0,0,[]⟩,⟨0,[],false⟩⟩]) (.refl _) (.refl _) ⟨y',by rw [hMr],by rw [hMr,←hfin]; exact (upd_other _ _ (Ne.symm n5)).trans (upd_same ..),by rw [hMr,←hfin]; exact (acc_less hsG (acc_step hac (mustD st' [41]))).put gi5 ((upd_other _ _ n5).trans k5) _⟩
  ·have hge:i=bs.length:=by have:=of_decide_eq_false e; omega
   subst hge
   rw [List.drop_length] at hfin
   simp only [opersG] at hfin
   simp -implicitDefEqProofs only [go_sem,r0,r1,r5,r6,r16,r17,r18]
   refine (must_ok _ [41] hah.1).run ?_
   simp -implicitDefEqProofs only [go_sem,r0,r1,r5,r6,r16,r17,r18,upd_ne,n5,n6,k5,k6]
   refine ⟨.of (by kernel_rfl), ?_⟩
   exact .mk (.tup [y',nodeA ⟨2+(amongD st fnWs).1,⟨0,0,[]⟩,⟨0,[],false⟩⟩]) (.refl _) (.refl _) ⟨y',by rw [hMr],by rw [hMr,←hfin]; exact (upd_other _ _ (Ne.symm n5)).trans (upd_same ..),by rw [hMr,←hfin]; exact (acc_less hsG (acc_step hac (mustD st' [41]))).put gi5 ((upd_other _ _ n5).trans k5) _⟩
end Go.Proofs.YtmlhcdeamjkpjaaGreatDoor

set_option linter.unusedSimpArgs false
set_option linter.unusedVariables false
namespace Go.Proofs.YtmlhcdeamjkpjaaGreatDoor
open Go Go.Ab Go.Bf
theorem uz_n:(U 186).sz=7:=by simp only [go_sem]
theorem ub_n:(U 186).bytes=72:=by simp only [go_sem]
theorem sized_n (l:List NodeD):Sized 7 (l.map nodeA):=fun z hz=>by
 obtain ⟨c,_,rfl⟩:=List.mem_map.1 hz; rfl
set_option maxRecDepth 20000 in
theorem expr_s (f:Nat) (ih:EH (exprF f) f):EH (exprF (f+1)) (f+1):=fun st l hw hf hl G K id y ha=>by
 refine FnOK.body hU hm Tryz.func276 rfl (by kernel_rfl) 52 rfl [.tmp 4, .tmp 5] rfl (Nat.le_of_ble_eq_true rfl) (fun hwf=> ?_)
 simp -implicitDefEqProofs only [go_sem]
 intro i6 hi6
 have n6:=ne_upd hi6
 have hK6:K i6=none:=by rw [upd_other _ _ n6] at hi6; exact hi6
 have c6:∀(f:Heap) (x y:Option Blk),upd (upd f id x) i6 y=upd (upd f i6 y) id x:=fun f x y=>upd_comm f x y n6.symm
 have gi6:upd G id none i6=none:=by
  cases hk:upd G id none i6 with
  |none=>rfl
  |some b=>rw [ha.1 _ _ hk] at hi6; cases hi6
 have hac:=acc_grow ha hi6 (some (.obj [.v (.int .i64 0), .v (.int .i64 0), .v (.int .i64 0), .s [], .v (.int .i64 0), .s [], .v (.bool false)] 186))
 simp -implicitDefEqProofs only [go_sem,c6]
 refine (here_ok st hw).run ?_
 simp -implicitDefEqProofs only [go_sem,c6,tokA]
 intro i7 hi7
 have n7:=ne_upd hi7
 have hi7' :=hi7
 rw [upd_other _ _ n7] at hi7'
 have n76:=ne_upd hi7'
 have m76:¬i7=i6:=n76
 have m67:¬i6=i7:=fun e=>n76 e.symm
 have hK7:K i7=none:=by rw [upd_other _ _ n76] at hi7'; exact hi7'
 have c7:∀(f:Heap) (x y:Option Blk),upd (upd f id x) i7 y=upd (upd f i7 y) id x:=fun f x y=>upd_comm f x y n7.symm
 have e6:upd (upd G id none) i6 (some (.obj [.v (.int .i64 0), .v (.int .i64 0), .v (.int .i64 0), .s [], .v (.int .i64 0), .s [], .v (.bool false)] 186))=upd (upd G i6 (some (.obj [.v (.int .i64 0), .v (.int .i64 0), .v (.int .i64 0), .s [], .v (.int .i64 0), .s [], .v (.bool false)] 186))) id none:=c6 G none _
 have hac7:∀k,Acc U 186 (upd (upd G i6 (some (.obj [.v (.int .i64 0), .v (.int .i64 0), .v (.int .i64 0), .s [], .v (.int .i64 0), .s [], .v (.bool false)] 186))) id none) (upd (upd (upd K i6 (some (.obj [.v (.int .i64 0), .v (.int .i64 0), .v (.int .i64 0), .s [], .v (.int .i64 0), .s [], .v (.bool false)] 186))) i7 k) id (some (PO st))) y (l.map nodeA):=fun k=>by
  have:=hac.sub (Sub.upd_new (k:=k) (by rw [c6]; exact hi7))
  rw [e6,c6 K,c7] at this
  exact this
 have hsG:Sub (upd G id none) (upd (upd G i6 (some (.obj [.v (.int .i64 0), .v (.int .i64 0), .v (.int .i64 0), .s [], .v (.int .i64 0), .s [], .v (.bool false)] 186))) id none):=by
  rw [←e6]; exact Sub.upd_new gi6
 have g6:upd (upd G i6 (some (.obj [.v (.int .i64 0), .v (.int .i64 0), .v (.int .i64 0), .s [], .v (.int .i64 0), .s [], .v (.bool false)] 186))) id none i6=some (.obj [.v (.int .i64 0), .v (.int .i64 0), .v (.int .i64 0), .s [], .v (.int .i64 0), .s [], .v (.bool false)] 186):=by rw [←e6,upd_same]
 simp -implicitDefEqProofs only [go_sem,c6,c7,upd_ne,n6,n7,m76,m67]
 refine (take_ok st [40] hw).run ?_
 have hacX:∀tk NB st',Acc U 186 (upd G id none) (upd (upd (upd (upd K i6 (some (.obj [.v (.int .i64 0), .v (.int .i64 0), .v (.int .i64 0), .s [], .v (.int .i64 0), .s [], .v (.bool false)] 186))) i7 tk) i6 NB) id (some (PO st'))) y (l.map nodeA):=fun tk NB st' =>by
  have:=(acc_step (acc_less hsG (hac7 tk)) st').put gi6 ((upd_other _ _ n6).trans ((upd_other _ _ m67).trans (upd_same ..))) NB
  rw [c6] at this
  exact this
 obtain ⟨⟨⟨lh,n⟩,sth⟩,eh⟩:∃x,headG (exprF f) st l=x:=⟨_,rfl⟩
 obtain ⟨hha,hhl⟩:=headG_ok (exprF_ok f) st l hw
 rw [eh] at hha hhl
 simp only at hha hhl
 have hwp:=hha.1.2.2
 have hwq:=hha.1.1
 have hpl:=hha.2.2
 have hdec:decide ((32:Int)<((lh.length+1:Nat):Int))=decide (32<lh.length+1):=by
  by_cases h:32<lh.length+1
  ·simp only [h,decide_true]; exact decide_eq_true (by omega)
  ·simp only [h,decide_false]; exact decide_eq_false (by omega)
 cases d0:isD st [40]
 ·have et:takeD st [40]=(false,st):=by simp [takeD,d0]
  rw [et]
  cases d1:((hereD st).kind==1)
  ·have en:headG (exprF f) st l=((l,⟨1,(valueP st).1,⟨0,[],false⟩⟩),(valueP st).2):=by
    have:(hereD st).kind≠1:=by simpa using d1
    simp [headG,d0,this]
   simp -implicitDefEqProofs only [go_sem,c6,c7,upd_ne,n6,n7,m76,m67,d1]
   refine (value_p st hw).run ?_
   rw [en] at eh
   injection eh with eh1 eh2
   injection eh1 with eh3 eh4
   subst eh2
   subst eh3
   subst eh4
   simp -implicitDefEqProofs only [go_sem,c6,c7,upd_ne,n6,n7,m76,m67,valA]
   refine (hacX _ _ _).app (zs:= [nodeA (⟨1,(valueP st).1,⟨0,[],false⟩⟩:NodeD)]) (by rw [uz_n]; decide) (by rw [ub_n]; decide) (fun k hk=>hk) (by rw [uz_n]; exact sized_n _) (by rw [uz_n]; exact sized_n [(⟨1,(valueP st).1,⟨0,[],false⟩⟩:NodeD)]) (by rw [ub_n]; simp; omega) fun y3 H3 hy3 hk3=> ?_
   have hH3:H3 id=some (PO (valueP st).2):=hk3 _ _ _ (upd_same ..)
   have hb3:H3 i6=some (.obj [.v (.int .i64 (⟨1,(valueP st).1,⟨0,[],false⟩⟩:NodeD).op), .v (.int .i64 (⟨1,(valueP st).1,⟨0,[],false⟩⟩:NodeD).val.kind), .v (.int .i64 (⟨1,(valueP st).1,⟨0,[],false⟩⟩:NodeD).val.n), .s (⟨1,(valueP st).1,⟨0,[],false⟩⟩:NodeD).val.s, .v (.int .i64 (⟨1,(valueP st).1,⟨0,[],false⟩⟩:NodeD).attr.cat), .s (⟨1,(valueP st).1,⟨0,[],false⟩⟩:NodeD).attr.name, .v (.bool (⟨1,(valueP st).1,⟨0,[],false⟩⟩:NodeD).attr.must)] 186):=hk3 _ _ _ ((upd_other _ _ n6).trans (upd_same ..))
   simp -implicitDefEqProofs only [go_sem,hy3.len,List.length_append,List.length_map,List.length_cons,List.length_nil,Nat.zero_add,hdec]
   refine (limit_ok (valueP st).2 _ hha.1).go hH3 ?_
   simp -implicitDefEqProofs only [go_sem,upd_ne,n6,hb3]
   refine ⟨.of (by kernel_rfl), ?_⟩
   have efin:exprF (f+1) st l=((l++ [(⟨1,(valueP st).1,⟨0,[],false⟩⟩:NodeD)],(⟨1,(valueP st).1,⟨0,[],false⟩⟩:NodeD).op==2),limitD (valueP st).2 (decide (32<l.length+1))):=by simp only [exprF,en]
   exact .mk (.tup [y3, .v (.bool ((⟨1,(valueP st).1,⟨0,[],false⟩⟩:NodeD).op==2))]) (.refl _) (.refl _) ⟨y3,by rw [efin],by rw [efin]; exact upd_same ..,by rw [efin,List.map_append]; exact hy3.put (upd_same ..) hH3 _⟩
  ·have k1:(hereD st).kind=1:=by simpa using d1
   cases d2:((hereD st).s== [116,114,117,101])
   ·have k2:(hereD st).s≠trueT:=by unfold trueT; simpa using d2
    cases d3:((hereD st).s== [102,97,108,115,101])
    ·have k3:(hereD st).s≠falseT:=by unfold falseT; simpa using d3
     have en:headG (exprF f) st l=((l,⟨2,⟨0,0,[]⟩,(attrP st).1⟩),(attrP st).2):=by simp [headG,d0,k1,k2,k3]
     simp -implicitDefEqProofs only [go_sem,c6,c7,upd_ne,n6,n7,m76,m67,d1,d2,d3,Bool.not_false]
     refine (attr_p st hw).run ?_
     rw [en] at eh
     injection eh with eh1 eh2
     injection eh1 with eh3 eh4
     subst eh2
     subst eh3
     subst eh4
     simp -implicitDefEqProofs only [go_sem,c6,c7,upd_ne,n6,n7,m76,m67,attrA]
     refine (hacX _ _ _).app (zs:= [nodeA (⟨2,⟨0,0,[]⟩,(attrP st).1⟩:NodeD)]) (by rw [uz_n]; decide) (by rw [ub_n]; decide) (fun k hk=>hk) (by rw [uz_n]; exact sized_n _) (by rw [uz_n]; exact sized_n [(⟨2,⟨0,0,[]⟩,(attrP st).1⟩:NodeD)]) (by rw [ub_n]; simp; omega) fun y3 H3 hy3 hk3=> ?_
     have hH3:H3 id=some (PO (attrP st).2):=hk3 _ _ _ (upd_same ..)
     have hb3:H3 i6=some (.obj [.v (.int .i64 (⟨2,⟨0,0,[]⟩,(attrP st).1⟩:NodeD).op), .v (.int .i64 (⟨2,⟨0,0,[]⟩,(attrP st).1⟩:NodeD).val.kind), .v (.int .i64 (⟨2,⟨0,0,[]⟩,(attrP st).1⟩:NodeD).val.n), .s (⟨2,⟨0,0,[]⟩,(attrP st).1⟩:NodeD).val.s, .v (.int .i64 (⟨2,⟨0,0,[]⟩,(attrP st).1⟩:NodeD).attr.cat), .s (⟨2,⟨0,0,[]⟩,(attrP st).1⟩:NodeD).attr.name, .v (.bool (⟨2,⟨0,0,[]⟩,(attrP st).1⟩:NodeD).attr.must)] 186):=hk3 _ _ _ ((upd_other _ _ n6).trans (upd_same ..))
     simp -implicitDefEqProofs only [go_sem,hy3.len,List.length_append,List.length_map,List.length_cons,List.length_nil,Nat.zero_add,hdec]
     refine (limit_ok (attrP st).2 _ hha.1).go hH3 ?_
     simp -implicitDefEqProofs only [go_sem,upd_ne,n6,hb3]
     refine ⟨.of (by kernel_rfl), ?_⟩
     have efin:exprF (f+1) st l=((l++ [(⟨2,⟨0,0,[]⟩,(attrP st).1⟩:NodeD)],(⟨2,⟨0,0,[]⟩,(attrP st).1⟩:NodeD).op==2),limitD (attrP st).2 (decide (32<l.length+1))):=by simp only [exprF,en]
     exact .mk (.tup [y3, .v (.bool ((⟨2,⟨0,0,[]⟩,(attrP st).1⟩:NodeD).op==2))]) (.refl _) (.refl _) ⟨y3,by rw [efin],by rw [efin]; exact upd_same ..,by rw [efin,List.map_append]; exact hy3.put (upd_same ..) hH3 _⟩
    ·have k3:(hereD st).s=falseT:=by unfold falseT; simpa using d3
     have en:headG (exprF f) st l=((l,⟨1,(valueP st).1,⟨0,[],false⟩⟩),(valueP st).2):=by simp [headG,d0,k1,k2,k3]
     simp -implicitDefEqProofs only [go_sem,c6,c7,upd_ne,n6,n7,m76,m67,d1,d2,d3,Bool.not_false,Bool.not_true]
     refine (value_p st hw).run ?_
     rw [en] at eh
     injection eh with eh1 eh2
     injection eh1 with eh3 eh4
     subst eh2
     subst eh3
     subst eh4
     simp -implicitDefEqProofs only [go_sem,c6,c7,upd_ne,n6,n7,m76,m67,valA]
     refine (hacX _ _ _).app (zs:= [nodeA (⟨1,(valueP st).1,⟨0,[],false⟩⟩:NodeD)]) (by rw [uz_n]; decide) (by rw [ub_n]; decide) (fun k hk=>hk) (by rw [uz_n]; exact sized_n _) (by rw [uz_n]; exact sized_n [(⟨1,(valueP st).1,⟨0,[],false⟩⟩:NodeD)]) (by rw [ub_n]; simp; omega) fun y3 H3 hy3 hk3=> ?_
     have hH3:H3 id=some (PO (valueP st).2):=hk3 _ _ _ (upd_same ..)
     have hb3:H3 i6=some (.obj [.v (.int .i64 (⟨1,(valueP st).1,⟨0,[],false⟩⟩:NodeD).op), .v (.int .i64 (⟨1,(valueP st).1,⟨0,[],false⟩⟩:NodeD).val.kind), .v (.int .i64 (⟨1,(valueP st).1,⟨0,[],false⟩⟩:NodeD).val.n), .s (⟨1,(valueP st).1,⟨0,[],false⟩⟩:NodeD).val.s, .v (.int .i64 (⟨1,(valueP st).1,⟨0,[],false⟩⟩:NodeD).attr.cat), .s (⟨1,(valueP st).1,⟨0,[],false⟩⟩:NodeD).attr.name, .v (.bool (⟨1,(valueP st).1,⟨0,[],false⟩⟩:NodeD).attr.must)] 186):=hk3 _ _ _ ((upd_other _ _ n6).trans (upd_same ..))
     simp -implicitDefEqProofs only [go_sem,hy3.len,List.length_append,List.length_map,List.length_cons,List.length_nil,Nat.zero_add,hdec]
     refine (limit_ok (valueP st).2 _ hha.1).go hH3 ?_
     simp -implicitDefEqProofs only [go_sem,upd_ne,n6,hb3]
     refine ⟨.of (by kernel_rfl), ?_⟩
     have efin:exprF (f+1) st l=((l++ [(⟨1,(valueP st).1,⟨0,[],false⟩⟩:NodeD)],(⟨1,(valueP st).1,⟨0,[],false⟩⟩:NodeD).op==2),limitD (valueP st).2 (decide (32<l.length+1))):=by simp only [exprF,en]
     exact .mk (.tup [y3, .v (.bool ((⟨1,(valueP st).1,⟨0,[],false⟩⟩:NodeD).op==2))]) (.refl _) (.refl _) ⟨y3,by rw [efin],by rw [efin]; exact upd_same ..,by rw [efin,List.map_append]; exact hy3.put (upd_same ..) hH3 _⟩
   ·have k2:(hereD st).s=trueT:=by unfold trueT; simpa using d2
    have en:headG (exprF f) st l=((l,⟨1,(valueP st).1,⟨0,[],false⟩⟩),(valueP st).2):=by simp [headG,d0,k1,k2]
    simp -implicitDefEqProofs only [go_sem,c6,c7,upd_ne,n6,n7,m76,m67,d1,d2,Bool.not_true]
    refine (value_p st hw).run ?_
    rw [en] at eh
    injection eh with eh1 eh2
    injection eh1 with eh3 eh4
    subst eh2
    subst eh3
    subst eh4
    simp -implicitDefEqProofs only [go_sem,c6,c7,upd_ne,n6,n7,m76,m67,valA]
    refine (hacX _ _ _).app (zs:= [nodeA (⟨1,(valueP st).1,⟨0,[],false⟩⟩:NodeD)]) (by rw [uz_n]; decide) (by rw [ub_n]; decide) (fun k hk=>hk) (by rw [uz_n]; exact sized_n _) (by rw [uz_n]; exact sized_n [(⟨1,(valueP st).1,⟨0,[],false⟩⟩:NodeD)]) (by rw [ub_n]; simp; omega) fun y3 H3 hy3 hk3=> ?_
    have hH3:H3 id=some (PO (valueP st).2):=hk3 _ _ _ (upd_same ..)
    have hb3:H3 i6=some (.obj [.v (.int .i64 (⟨1,(valueP st).1,⟨0,[],false⟩⟩:NodeD).op), .v (.int .i64 (⟨1,(valueP st).1,⟨0,[],false⟩⟩:NodeD).val.kind), .v (.int .i64 (⟨1,(valueP st).1,⟨0,[],false⟩⟩:NodeD).val.n), .s (⟨1,(valueP st).1,⟨0,[],false⟩⟩:NodeD).val.s, .v (.int .i64 (⟨1,(valueP st).1,⟨0,[],false⟩⟩:NodeD).attr.cat), .s (⟨1,(valueP st).1,⟨0,[],false⟩⟩:NodeD).attr.name, .v (.bool (⟨1,(valueP st).1,⟨0,[],false⟩⟩:NodeD).attr.must)] 186):=hk3 _ _ _ ((upd_other _ _ n6).trans (upd_same ..))
    simp -implicitDefEqProofs only [go_sem,hy3.len,List.length_append,List.length_map,List.length_cons,List.length_nil,Nat.zero_add,hdec]
    refine (limit_ok (valueP st).2 _ hha.1).go hH3 ?_
    simp -implicitDefEqProofs only [go_sem,upd_ne,n6,hb3]
    refine ⟨.of (by kernel_rfl), ?_⟩
    have efin:exprF (f+1) st l=((l++ [(⟨1,(valueP st).1,⟨0,[],false⟩⟩:NodeD)],(⟨1,(valueP st).1,⟨0,[],false⟩⟩:NodeD).op==2),limitD (valueP st).2 (decide (32<l.length+1))):=by simp only [exprF,en]
    exact .mk (.tup [y3, .v (.bool ((⟨1,(valueP st).1,⟨0,[],false⟩⟩:NodeD).op==2))]) (.refl _) (.refl _) ⟨y3,by rw [efin],by rw [efin]; exact upd_same ..,by rw [efin,List.map_append]; exact hy3.put (upd_same ..) hH3 _⟩
 ·have et:takeD st [40]=(true,nextD st):=by simp [takeD,d0]
  have h1:=ah_next hw (isD_kind d0)
  have hnp:(nextD st).pos=st.pos+1:=rfl
  have hnt:(nextD st).ts=st.ts:=rfl
  rw [et]
  simp -implicitDefEqProofs only [go_sem,c6,c7]
  have ef:funcG (exprF f) (nextD st) l=((lh,n),sth):=by rw [←eh]; simp [headG,d0]
  have hfx:=function_x (exprF_ok f) ih (nextD st) l h1.1 (by rw [hnt]; omega) (by omega)
  simp only [ef] at hfx
  refine hfx.run (acc_step (hac7 _) _) fun y2 K2 hac2=> ?_
  have k6:=hac2.1 _ _ g6
  rw [upd_other _ _ n6] at k6
  simp -implicitDefEqProofs only [go_sem,c6,c7,upd_ne,n6,n7,k6,nodeA,valA,attrA]
  have hac3:=(acc_less hsG hac2).put gi6 ((upd_other _ _ n6).trans k6) (some (.obj [.v (.int .i64 n.op), .v (.int .i64 n.val.kind), .v (.int .i64 n.val.n), .s n.val.s, .v (.int .i64 n.attr.cat), .s n.attr.name, .v (.bool n.attr.must)] 186))
  rw [c6] at hac3
  refine (hac3).app (zs:= [nodeA n]) (by rw [uz_n]; decide) (by rw [ub_n]; decide) (fun k hk=>hk) (by rw [uz_n]; exact sized_n _) (by rw [uz_n]; exact sized_n [n]) (by rw [ub_n]; simp; omega) fun y3 H3 hy3 hk3=> ?_
  have hH3:H3 id=some (PO sth):=hk3 _ _ _ (upd_same ..)
  have hb3:H3 i6=some (.obj [.v (.int .i64 n.op), .v (.int .i64 n.val.kind), .v (.int .i64 n.val.n), .s n.val.s, .v (.int .i64 n.attr.cat), .s n.attr.name, .v (.bool n.attr.must)] 186):=hk3 _ _ _ ((upd_other _ _ n6).trans (upd_same ..))
  simp -implicitDefEqProofs only [go_sem,hy3.len,List.length_append,List.length_map,List.length_cons,List.length_nil,Nat.zero_add,hdec]
  refine (limit_ok sth _ hha.1).go hH3 ?_
  simp -implicitDefEqProofs only [go_sem,upd_ne,n6,hb3]
  refine ⟨.of (by kernel_rfl), ?_⟩
  have efin:exprF (f+1) st l=((lh++ [n],n.op==2),limitD sth (decide (32<lh.length+1))):=by simp only [exprF,eh]
  exact .mk (.tup [y3, .v (.bool (n.op==2))]) (.refl _) (.refl _) ⟨y3,by rw [efin],by rw [efin]; exact upd_same ..,by rw [efin,List.map_append]; exact hy3.put (upd_same ..) hH3 _⟩
theorem expr_x:∀f,EH (exprF f) f
 |0=>fun st l hw hf _=>absurd hw.1 (by omega)
 |f+1=>expr_s f (expr_x f)
end Go.Proofs.YtmlhcdeamjkpjaaGreatDoor

set_option linter.unusedSimpArgs false
set_option linter.unusedVariables false
namespace Go.Proofs.YtmlhcdeamjkpjaaGreatDoor
open Go Go.Ab Go.Bf
theorem fnok_loose {P:Program} {f:FuncId} {args:List AV} {h:Heap} {Q Q' :AV→Heap→Prop} (hf:FnOK P f args h Q) (hq:∀x h1,Q x h1→∃y h2,Weak x y∧Sub h2 h1∧Q' y h2):FnOK P f args h Q' :=
 fun c vs h1 h2 h3 h4=>(hf c vs h1 h2 h3 h4).mono fun u w' ⟨c',x,h',g1,g2,g3,g4,g5,g6⟩=>by
  obtain ⟨y,h'',k1,k2,k3⟩:=hq x h' g6
  exact ⟨c',y,h'',g1,g2,g3,g4.weak k1,k2.trans g5,k3⟩
def flat:AV→AV
 | .sl xs _=> .sl xs .no
 |x=>x
theorem weak_flat (xs:List AV):Weak (.agg xs) (.agg (xs.map flat)):= .agg _ _ (by simp) fun i h1 h2=>by
 rw [List.getElem_map]
 cases xs[i]<;>first|exact .refl _|exact .sl _ _
theorem operand_p (st:PS) (hw:WfP st):PC 253 [.sl [] .full, .v (.bool false)] st (condA (operG (exprF st.ts.length) st [] false).1) (operG (exprF st.ts.length) st [] false).2:= .of fun G id=>by
 have hx:=operand_x (exprF_ok st.ts.length) (expr_x st.ts.length) st [] false hw (by omega) (by simp)
 refine fnok_loose (hx G G id (.sl [] .full) (.full (base_start G id _))) fun r h1 ⟨y',e1,e2,e3⟩=>⟨_,upd G id (some (PO (operG (exprF st.ts.length) st [] false).2)), ?_,base_end e3.1 e2,rfl,rfl⟩
 subst e1
 exact e3.weak
set_option maxRecDepth 20000 in
theorem rule_p (deny:Bool) (st:PS) (hw:WfP st):PC 210 [.v (.bool deny)] st (ruleA (ruleP deny st).1) (ruleP deny st).2:= .of fun G id=>by
 have h1:=ah_name hw
 have h2:=ah_tgt h1.1
 have h3:=ah_cond h2.1
 have h4:=ah_obls h3.1
 have ht:=tgt_p _ h1.1
 simp only [tgtA] at ht
 refine FnOK.body hU hm Tryz.func210 rfl (by kernel_rfl) 23 rfl [.cell 4 181] rfl (Nat.le_of_ble_eq_true rfl) (fun hwf=> ?_)
 simp -implicitDefEqProofs only [go_sem]
 intro i4 hi4
 have n4:=ne_upd hi4
 have hG4:G i4=none:=by rw [upd_other _ _ n4] at hi4; exact hi4
 have c4:∀(f:Heap) (x y:Option Blk),upd (upd f id x) i4 y=upd (upd f i4 y) id x:=fun f x y=>upd_comm f x y n4.symm
 simp -implicitDefEqProofs only [go_sem,c4]
 refine (pname_ok st hw).run ?_
 simp -implicitDefEqProofs only [go_sem,c4]
 refine ht.run ?_
 simp -implicitDefEqProofs only [go_sem,c4]
 intro i5 hi5
 have n5:=ne_upd hi5
 have hi5' :=hi5
 rw [upd_other _ _ n5] at hi5'
 have n54:=ne_upd hi5'
 have m54:¬i5=i4:=n54
 have m45:¬i4=i5:=n54.symm
 have hG5:G i5=none:=by rw [upd_other _ _ n54] at hi5'; exact hi5'
 have c5:∀(f:Heap) (x y:Option Blk),upd (upd f id x) i5 y=upd (upd f i5 y) id x:=fun f x y=>upd_comm f x y n5.symm
 have c45:∀(f:Heap) (x y:Option Blk),upd (upd f i5 x) i4 y=upd (upd f i4 y) i5 x:=fun f x y=>upd_comm f x y n54
 simp -implicitDefEqProofs only [go_sem,c4,c5,c45,upd_ne,n4,n5,m54,m45]
 refine (take_ok _ ifT h2.1).run ?_
 cases d0:isD (tgtP (nameP st).2).2 ifT
 ·have et:takeD (tgtP (nameP st).2).2 ifT=(false,(tgtP (nameP st).2).2):=by simp [takeD,d0]
  have ec:condP (tgtP (nameP st).2).2=([],(tgtP (nameP st).2).2):=by simp [condP,d0]
  have er:ruleP deny st=(⟨(nameP st).1,deny,(tgtP (nameP st).2).1,[],(oblsP (tgtP (nameP st).2).2).1⟩,mustD (oblsP (tgtP (nameP st).2).2).2 [59]):=by simp only [ruleP,ec]
  rw [ec] at h4
  have ho:=duties_p _ h2.1
  simp only [oblsA] at ho
  rw [et]
  simp -implicitDefEqProofs only [go_sem,c4,c5,c45,upd_ne,n4,n5,m54,m45]
  refine ho.run ?_
  simp -implicitDefEqProofs only [go_sem,c4,c5,c45,upd_ne,n4,n5,m54,m45]
  refine (must_ok _ [59] h4.1).run ?_
  simp -implicitDefEqProofs only [go_sem,c4,c5,c45,upd_ne,n4,n5,m54,m45]
  exact .mk (h' :=upd G id (some (PO (mustD (oblsP (tgtP (nameP st).2).2).2 [59])))) (ruleA ⟨(nameP st).1,deny,(tgtP (nameP st).2).1,[],(oblsP (tgtP (nameP st).2).2).1⟩) (weak_flat _) (Sub.both (by repeat (first|exact .refl _|refine Sub.put ?_ (by assumption) _)) _ _) ⟨by rw [er],by rw [er]⟩
 ·have et:takeD (tgtP (nameP st).2).2 ifT=(true,nextD (tgtP (nameP st).2).2):=by simp [takeD,d0]
  obtain ⟨⟨cn,stc⟩,ec⟩:∃x,condP (tgtP (nameP st).2).2=x:=⟨_,rfl⟩
  have er:ruleP deny st=(⟨(nameP st).1,deny,(tgtP (nameP st).2).1,cn,(oblsP stc).1⟩,mustD (oblsP stc).2 [59]):=by simp only [ruleP,ec]
  have hcnd:=operand_p (nextD (tgtP (nameP st).2).2) (ah_next h2.1 (isD_kind d0)).1
  have ec2:operG (exprF (nextD (tgtP (nameP st).2).2).ts.length) (nextD (tgtP (nameP st).2).2) [] false=(cn,stc):=by rw [←ec]; simp only [condP,d0,if_true]; rfl
  rw [ec2] at hcnd
  simp only [condA] at hcnd
  rw [ec] at h3 h4
  have ho:=duties_p _ h3.1
  simp only [oblsA] at ho
  rw [et]
  simp -implicitDefEqProofs only [go_sem,c4,c5,c45,upd_ne,n4,n5,m54,m45]
  refine hcnd.run ?_
  simp -implicitDefEqProofs only [go_sem,c4,c5,c45,upd_ne,n4,n5,m54,m45]
  refine ho.run ?_
  simp -implicitDefEqProofs only [go_sem,c4,c5,c45,upd_ne,n4,n5,m54,m45]
  refine (must_ok _ [59] h4.1).run ?_
  simp -implicitDefEqProofs only [go_sem,c4,c5,c45,upd_ne,n4,n5,m54,m45]
  exact .mk (h' :=upd G id (some (PO (mustD (oblsP stc).2 [59])))) (ruleA ⟨(nameP st).1,deny,(tgtP (nameP st).2).1,cn,(oblsP stc).1⟩) (weak_flat _) (Sub.both (by repeat (first|exact .refl _|refine Sub.put ?_ (by assumption) _)) _ _) ⟨by rw [er],by rw [er]⟩
end Go.Proofs.YtmlhcdeamjkpjaaGreatDoor

set_option linter.unusedSimpArgs false
set_option linter.unusedVariables false
namespace Go.Proofs.YtmlhcdeamjkpjaaGreatDoor
open Go Go.Ab Go.Bf
theorem uz_r:(U 181).sz=5:=by simp only [go_sem]
theorem ub_r:(U 181).bytes=96:=by simp only [go_sem]
theorem sized_r (l:List RuleD):Sized 5 (l.map ruleA):=fun z hz=>by
 obtain ⟨c,_,rfl⟩:=List.mem_map.1 hz; rfl
set_option maxRecDepth 20000 in
theorem some_p (st:PS) (hw:WfP st) (hr:st.rules≤64):PC 156 [] st (.sl ((someF 17 st []).1.map ruleA) .no) (someF 17 st []).2:= .of fun G id=>by
 obtain ⟨M,eM⟩:∃M,someF 17 st []=M:=⟨_,rfl⟩
 rw [eM]
 refine FnOK.body hU hm Tryz.func156 rfl (by kernel_rfl) 51 rfl [.tmp 2] rfl (Nat.le_of_ble_eq_true rfl) (fun hwf=> ?_)
 simp -implicitDefEqProofs only [go_sem]
 have hB:upd G id none id=none:=upd_same ..
 refine .intro (fun m ρ H=>∃(f:Nat) (st' :PS) (l:List RuleD) (y:AV),H id=some (PO st')∧Acc U 181 (upd G id none) H y (l.map ruleA)∧Ah st st'∧st'.rules≤64∧someF f st' l=M∧f+l.length=17∧l.length≤16∧m=f∧lk ρ 0=some (.ptr id 0)∧lk ρ 3=some y) 17 ?_ ?_
 ·refine ⟨17,st,[], .sl ([].map ruleA) .full,upd_same .., .full (base_start G id _), .refl hw,hr,eM,by simp,by simp,rfl, ?_, ?_⟩<;>simp -implicitDefEqProofs only [go_sem]<;>rfl
 ·rintro m ρ H ⟨f,st',l,y,hH,hy,ha,hru,hfin,hf,hll,rfl,r0,r3⟩
  have hlen:=ha.1.2.2
  have hpos:=ha.1.1
  obtain ⟨g,rfl⟩:∃g,m=g+1:=⟨m - 1,by omega⟩
  simp -implicitDefEqProofs only [go_sem,r0,r3]
  refine (is_ok st' permitT ha.1).go hH ?_
  rw [upd_self hH]
  have fin:isD st' permitT=false→isD st' denyT=false→(l,st')=M:=fun d1 d2=>by
   rw [←hfin]; simp [someF,d1,d2]
  have rest:isD st' permitT=true∨isD st' denyT=true→True:=fun _=>trivial
  cases d1:isD st' permitT
  ·simp -implicitDefEqProofs only [go_sem,r0,r3]
   refine (is_ok st' denyT ha.1).go hH ?_
   rw [upd_self hH]
   cases d2:isD st' denyT
   ·simp -implicitDefEqProofs only [go_sem,r0,r3]
    have e:=fin d1 d2
    exact .mk (h' :=upd G id (some (PO M.2))) (.sl (M.1.map ruleA) .no) (by rw [←e]; exact hy.weak) (by rw [←e]; exact base_end hy.1 hH) ⟨rfl,rfl⟩
   ·have hd:isD st' permitT=true∨isD st' denyT=true:=by first|exact .inl d1|exact .inr d2
    have eb:=(isD_or hd).1
    have ek:=(isD_or hd).2
    have db:(st'.bad !=0)=false:=by simp [eb]
    have gP:=hH
    unfold PO at gP
    have lim:l.length=16∨st'.rules=64→(l,limitD st' true)=M:=fun h=>by
     rw [←hfin]; simp only [someF,if_pos hd,if_pos h]
    have hdl:limitD st' true=wrongD st' 6 (hereD st').pos:=rfl
    have hlb:((limitD st' true).bad !=0)=true:=by rw [hdl]; simp [wrongD,eb]
    cases dA:((l.length:Int)==16)
    ·cases dB:((st'.rules:Int)==64)
     ·have nA:l.length≠16:=fun e=>by rw [e] at dA; simp at dA
      have nB:st'.rules≠64:=fun e=>by rw [e] at dB; simp at dB
      have hno:¬(l.length=16∨st'.rules=64):=fun h=>h.elim nA nB
      simp only [someF,if_pos hd,if_neg hno] at hfin
      simp -implicitDefEqProofs only [go_sem,r0,r3,hy.len,List.length_map,dA,gP,dB]
      refine (limit_ok st' false ha.1).go hH ?_
      rw [show limitD st' false=st' from rfl,upd_self hH]
      have w1:IntKind.i64.wrap ((st'.rules:Int)+1)=((st'.rules+1:Nat):Int):=by rw [wr64 _ (by omega)]; omega
      have w2:IntKind.i64.wrap ((st'.pos:Int)+1)=((st'.pos+1:Nat):Int):=by rw [wr64 _ (by omega)]; omega
      simp -implicitDefEqProofs only [go_sem,r0,r3,gP,db,w1]
      have hwr:WfP {st' with rules:=st'.rules+1}:=ha.1
      refine (is_ok {st' with rules:=st'.rules+1} denyT hwr).go (upd_same ..) ?_
      rw [upd_upd]
      have g2:upd H id (some (PO {st' with rules:=st'.rules+1})) id=some (.obj [.sl (st'.ts.map tokA) .no, .v (.int .i64 st'.pos), .v (.int .i64 (st'.rules+1:Nat)), .v (.int .i64 st'.bad), .v (.int .i64 st'.place)] 165):=upd_same ..
      simp -implicitDefEqProofs only [go_sem,r0,r3,g2,w2]
      have h2:Ah st' {nextD st' with rules:=st'.rules+1}:=ah_rules ha.1 ek
      have h3:=ah_rule (isD st' denyT) h2.1
      have hrp:=rule_p (isD st' denyT) {nextD st' with rules:=st'.rules+1} h2.1
      have hr3:=(rch_pos (rch_rule (isD st' denyT) {nextD st' with rules:=st'.rules+1})).2.2
      obtain ⟨x,st2,e2⟩:∃x st2,ruleP (isD st' denyT) {nextD st' with rules:=st'.rules+1}=(x,st2):=⟨_,_,rfl⟩
      rw [e2] at hfin hrp h3 hr3
      simp only [ruleA] at hrp hfin h3 hr3
      refine hrp.go (upd_same ..) ?_
      rw [upd_upd]
      simp -implicitDefEqProofs only [go_sem,r0,r3]
      refine (hy.put hB hH _).app (zs:= [ruleA x]) (by rw [uz_r]; decide) (by rw [ub_r]; decide) (fun k hk=>hk) (by rw [uz_r]; exact sized_r l) (by rw [uz_r]; exact sized_r [x]) (by rw [ub_r]; simp; omega) fun y' H2 hy' hk2=> ?_
      have hH2:H2 id=some (PO st2):=hk2 _ _ _ (upd_same ..)
      simp -implicitDefEqProofs only [go_sem,r0,r3]
      refine ⟨_, ?_,g,st2,l++ [x],y',hH2,by rw [List.map_append]; exact hy',(ha.trans h2).trans h3,by omega,hfin,by simp; omega,by simp; omega,rfl, ?_, ?_⟩
      ·omega
      all_goals simp -implicitDefEqProofs only [go_sem,r0,r3]
     ·have nB:st'.rules=64:=by have:(st'.rules:Int)=64:=(by simpa using dB); omega
      have e:=lim (.inr nB)
      simp -implicitDefEqProofs only [go_sem,r0,r3,hy.len,List.length_map,dA,gP,dB]
      refine (limit_ok st' true ha.1).go hH ?_
      have g3:upd H id (some (PO (limitD st' true))) id=some (PO (limitD st' true)):=upd_same ..
      unfold PO at g3
      simp -implicitDefEqProofs only [go_sem,r0,r3,g3,hlb,PO]
      exact .mk (h' :=upd G id (some (PO M.2))) (.sl (M.1.map ruleA) .no) (by rw [←e]; exact hy.weak) (by rw [←e]; exact base_end (hy.put hB hH _).1 (upd_same ..)) ⟨rfl,rfl⟩
    ·have nA:l.length=16:=by have:(l.length:Int)=16:=(by simpa using dA); omega
     have e:=lim (.inl nA)
     simp -implicitDefEqProofs only [go_sem,r0,r3,hy.len,List.length_map,dA,gP]
     refine (limit_ok st' true ha.1).go hH ?_
     have g3:upd H id (some (PO (limitD st' true))) id=some (PO (limitD st' true)):=upd_same ..
     unfold PO at g3
     simp -implicitDefEqProofs only [go_sem,r0,r3,g3,hlb,PO]
     exact .mk (h' :=upd G id (some (PO M.2))) (.sl (M.1.map ruleA) .no) (by rw [←e]; exact hy.weak) (by rw [←e]; exact base_end (hy.put hB hH _).1 (upd_same ..)) ⟨rfl,rfl⟩
  ·have hd:isD st' permitT=true∨isD st' denyT=true:=by first|exact .inl d1|exact .inr d2
   have eb:=(isD_or hd).1
   have ek:=(isD_or hd).2
   have db:(st'.bad !=0)=false:=by simp [eb]
   have gP:=hH
   unfold PO at gP
   have lim:l.length=16∨st'.rules=64→(l,limitD st' true)=M:=fun h=>by
    rw [←hfin]; simp only [someF,if_pos hd,if_pos h]
   have hdl:limitD st' true=wrongD st' 6 (hereD st').pos:=rfl
   have hlb:((limitD st' true).bad !=0)=true:=by rw [hdl]; simp [wrongD,eb]
   cases dA:((l.length:Int)==16)
   ·cases dB:((st'.rules:Int)==64)
    ·have nA:l.length≠16:=fun e=>by rw [e] at dA; simp at dA
     have nB:st'.rules≠64:=fun e=>by rw [e] at dB; simp at dB
     have hno:¬(l.length=16∨st'.rules=64):=fun h=>h.elim nA nB
     simp only [someF,if_pos hd,if_neg hno] at hfin
     simp -implicitDefEqProofs only [go_sem,r0,r3,hy.len,List.length_map,dA,gP,dB]
     refine (limit_ok st' false ha.1).go hH ?_
     rw [show limitD st' false=st' from rfl,upd_self hH]
     have w1:IntKind.i64.wrap ((st'.rules:Int)+1)=((st'.rules+1:Nat):Int):=by rw [wr64 _ (by omega)]; omega
     have w2:IntKind.i64.wrap ((st'.pos:Int)+1)=((st'.pos+1:Nat):Int):=by rw [wr64 _ (by omega)]; omega
     simp -implicitDefEqProofs only [go_sem,r0,r3,gP,db,w1]
     have hwr:WfP {st' with rules:=st'.rules+1}:=ha.1
     refine (is_ok {st' with rules:=st'.rules+1} denyT hwr).go (upd_same ..) ?_
     rw [upd_upd]
     have g2:upd H id (some (PO {st' with rules:=st'.rules+1})) id=some (.obj [.sl (st'.ts.map tokA) .no, .v (.int .i64 st'.pos), .v (.int .i64 (st'.rules+1:Nat)), .v (.int .i64 st'.bad), .v (.int .i64 st'.place)] 165):=upd_same ..
     simp -implicitDefEqProofs only [go_sem,r0,r3,g2,w2]
     have h2:Ah st' {nextD st' with rules:=st'.rules+1}:=ah_rules ha.1 ek
     have h3:=ah_rule (isD st' denyT) h2.1
     have hrp:=rule_p (isD st' denyT) {nextD st' with rules:=st'.rules+1} h2.1
     have hr3:=(rch_pos (rch_rule (isD st' denyT) {nextD st' with rules:=st'.rules+1})).2.2
     obtain ⟨x,st2,e2⟩:∃x st2,ruleP (isD st' denyT) {nextD st' with rules:=st'.rules+1}=(x,st2):=⟨_,_,rfl⟩
     rw [e2] at hfin hrp h3 hr3
     simp only [ruleA] at hrp hfin h3 hr3
     refine hrp.go (upd_same ..) ?_
     rw [upd_upd]
     simp -implicitDefEqProofs only [go_sem,r0,r3]
     refine (hy.put hB hH _).app (zs:= [ruleA x]) (by rw [uz_r]; decide) (by rw [ub_r]; decide) (fun k hk=>hk) (by rw [uz_r]; exact sized_r l) (by rw [uz_r]; exact sized_r [x]) (by rw [ub_r]; simp; omega) fun y' H2 hy' hk2=> ?_
     have hH2:H2 id=some (PO st2):=hk2 _ _ _ (upd_same ..)
     simp -implicitDefEqProofs only [go_sem,r0,r3]
     refine ⟨_, ?_,g,st2,l++ [x],y',hH2,by rw [List.map_append]; exact hy',(ha.trans h2).trans h3,by omega,hfin,by simp; omega,by simp; omega,rfl, ?_, ?_⟩
     ·omega
     all_goals simp -implicitDefEqProofs only [go_sem,r0,r3]
    ·have nB:st'.rules=64:=by have:(st'.rules:Int)=64:=(by simpa using dB); omega
     have e:=lim (.inr nB)
     simp -implicitDefEqProofs only [go_sem,r0,r3,hy.len,List.length_map,dA,gP,dB]
     refine (limit_ok st' true ha.1).go hH ?_
     have g3:upd H id (some (PO (limitD st' true))) id=some (PO (limitD st' true)):=upd_same ..
     unfold PO at g3
     simp -implicitDefEqProofs only [go_sem,r0,r3,g3,hlb,PO]
     exact .mk (h' :=upd G id (some (PO M.2))) (.sl (M.1.map ruleA) .no) (by rw [←e]; exact hy.weak) (by rw [←e]; exact base_end (hy.put hB hH _).1 (upd_same ..)) ⟨rfl,rfl⟩
   ·have nA:l.length=16:=by have:(l.length:Int)=16:=(by simpa using dA); omega
    have e:=lim (.inl nA)
    simp -implicitDefEqProofs only [go_sem,r0,r3,hy.len,List.length_map,dA,gP]
    refine (limit_ok st' true ha.1).go hH ?_
    have g3:upd H id (some (PO (limitD st' true))) id=some (PO (limitD st' true)):=upd_same ..
    unfold PO at g3
    simp -implicitDefEqProofs only [go_sem,r0,r3,g3,hlb,PO]
    exact .mk (h' :=upd G id (some (PO M.2))) (.sl (M.1.map ruleA) .no) (by rw [←e]; exact hy.weak) (by rw [←e]; exact base_end (hy.put hB hH _).1 (upd_same ..)) ⟨rfl,rfl⟩
end Go.Proofs.YtmlhcdeamjkpjaaGreatDoor
