/- The law GuardDuties: pack 6 of its texts. -/
import Derived.Test.YtnlbeamjpefpfaaGreatDoorPk1
import Derived.Test.YtnlbeamjpefpfaaGreatDoorPk2
import Derived.Test.YtnlbeamjpefpfaaGreatDoorPk3
import Derived.Test.YtnlbeamjpefpfaaGreatDoorPk4
import Derived.Test.YtnlbeamjpefpfaaGreatDoorPk5
set_option linter.unusedSimpArgs false
set_option linter.unusedVariables false
namespace Go.Bf
open Go Go.Ab Go.Proofs.YtnlbeamjpefpfaaGreatDoor
def ji (l:List aS) (p:Perm):AV:= .sl (l.map aR) p
theorem M9.na:M9 naM:=by decide
theorem zy (l:List aS) (i:Nat) (h:i<l.length):(l.take (i+1)).foldl mD naM=mD ((l.take i).foldl mD naM) l[i]:=by
 rw [List.take_succ_eq_append_getElem h,List.foldl_append]; rfl
theorem EV {l:List aS} {q:aS→Bool} (hq:∀m,q m=decide (m≠naM)) (h:l.findIdx q<l.length):firstM l=l[l.findIdx q]:=by
 unfold firstM;have e:q=fun m=>decide (m≠naM):=funext hq
 subst e;rw [show l.find? (fun m=>decide (m≠naM))=some l[l.findIdx fun m=>decide (m≠naM)] from List.find?_eq_some_iff_getElem.2 ⟨List.findIdx_getElem (w:=h),_,h,rfl,fun j hj=>by simpa using List.not_of_lt_findIdx hj⟩]
 rfl
theorem EW {l:List aS} {q:aS→Bool} (hq:∀m,q m=decide (m≠naM)) (h:¬l.findIdx q<l.length):firstM l=naM:=by
 unfold firstM;have e:q=fun m=>decide (m≠naM):=funext hq
 subst e;have e:l.findIdx (fun m=>decide (m≠naM))=l.length:=by
  have:l.findIdx (fun m=>decide (m≠naM))≤l.length:=List.findIdx_le_length
  omega
 rw [List.find?_eq_none.2 fun x hx=>by simpa using List.findIdx_eq_length.1 e x hx]
 rfl
def ug (j m:aS):aS:=if j=naM then m else if m≠naM then mX else j
theorem HR {l:List aS} {i:Nat} (h:i<l.length) (j:aS):mI (l.drop i) j=if wO l[i]=false then mX else mI (l.drop (i+1)) (ug j l[i]):=by
 rw [List.drop_eq_getElem_cons h]; rfl
end Go.Bf
namespace Go.Proofs.YtnlbeamjpefpfaaGreatDoor
open Go Go.Ab Go.Bf
theorem Pp:(U 44).sz=1:=by simp only [go_sem]
theorem Fj (ms:List aS) (hl:ms.length≤1000000000) (q:aS→Bool) (g:FuncId) (cap:List AV) (p:Perm) (h:Heap) (hp:∀m∈ms,ak Tryz.prog g (aR m::cap) h fun r h' =>r= .v (.bool (q m))∧h' =h):
  ak Tryz.prog 179 [ji ms p, .fn g cap] h fun r h' =>r= .v (.int .i64 (ixD q ms))∧h' =h:=by
 refine ak.body hU hm Tryz.func179 rfl (by kernel_rfl) 19 rfl [.tmp 4] rfl (Vz rfl) (fun hwf=> ?_)
 simp only [go_sem,ji,VA];refine .intro (fun m ρ h' =>h' =h∧∃i:Nat,i≤ms.length∧m=ms.length - i∧(∀j (hj:j<i) (h2:j<ms.length),q ms[j]=false)∧lk ρ 0=some (.sl (ms.map aR) p)∧lk ρ 1=some (.fn g cap)∧lk ρ 7=some (.v (.int .i64 ms.length))∧lk ρ 8=some (.v (.int .i64 i))) ms.length ?_ ?_
 ·refine ⟨rfl,0,by omega,rfl,fun j hj=>(by omega), ?_, ?_, ?_, ?_⟩<;>simp only [go_sem]
 ·rintro m ρ h' ⟨rfl,i,hi,rfl,hc,r0,r1,r7,r8⟩
  simp only [go_sem,r7,r8];refine .intro (fun e=> ?_) (fun e=> ?_)
  ·have hlt:i<ms.length:=VH e
   have w1:=VG i (by omega)
   have ix:=fun k=>fc.eq (xs:=ms.map aR) (sz:=1) i (by simpa using hlt) (by rw [VB]; rfl) k
   rw [VB] at ix;have hg:=hp ms[i] (VF hlt);have hci:=fun (d:q ms[i]=false)=>(fun j (hj:j<i+1) (h2:j<ms.length)=>(by
    by_cases hji:j=i
    ·subst hji; exact d
    ·exact hc j (by omega) h2:q ms[j]=false))
   have hat:=fun (d:q ms[i]=true)=>me hlt d fun j hj=>hc j hj (by omega)
   obtain ⟨m,em⟩:∃m,ms[i]=m:=⟨_,rfl⟩;rw [em] at ix hg hci hat;simp only [aR] at ix;simp only [go_sem,r0,r1,r8,ix];refine (show ak Tryz.prog g (.v (.complex .f64 (hbit m.1) (hbit m.2))::cap) _ _ from hg).pthen ?_
   cases d1:q m
   ·simp only [go_sem,r8,w1]
    refine ⟨_, ?_,rfl,i+1,by omega,rfl,hci d1, ?_, ?_, ?_, ?_⟩
    ·omega
    all_goals simp only [go_sem,r0,r1,r7]
   ·simp only [go_sem]
    exact .same (.refl _) ⟨by rw [hat d1]; rfl,rfl⟩
  ·have hge:i=ms.length:=by have:=VD e; omega
   simp only [go_sem];exact .same (.refl _) ⟨by rw [iI fun j hj=>hc j (by omega) hj]; rfl,rfl⟩
theorem CK (ms:List aS) (hl:ms.length≤1000000000) (hmm:∀m∈ms,M9 m) (x:aS) (hx:M9 x) (p:Perm) (h:Heap):
  ak Tryz.prog 201 [ji ms p,aR x] h fun r h' =>r= .v (.int .i64 (ixD (fun y=>x==y) ms))∧h' =h:=by
 refine ak.body hU hm Tryz.func201 rfl (by kernel_rfl) 19 rfl [.tmp 4] rfl (Vz rfl) (fun hwf=> ?_)
 simp only [go_sem,ji,VA];refine .intro (fun m ρ h' =>h' =h∧∃i:Nat,i≤ms.length∧m=ms.length - i∧(∀j (hj:j<i) (h2:j<ms.length),(x==ms[j])=false)∧lk ρ 0=some (.sl (ms.map aR) p)∧lk ρ 1=some (aR x)∧lk ρ 7=some (.v (.int .i64 ms.length))∧lk ρ 8=some (.v (.int .i64 i))) ms.length ?_ ?_
 ·refine ⟨rfl,0,by omega,rfl,fun j hj=>(by omega), ?_, ?_, ?_, ?_⟩<;>simp only [go_sem]
 ·rintro m ρ h' ⟨rfl,i,hi,rfl,hc,r0,r1,r7,r8⟩
  simp only [go_sem,r7,r8];refine .intro (fun e=> ?_) (fun e=> ?_)
  ·have hlt:i<ms.length:=VH e
   have w1:=VG i (by omega)
   have ix:=fun k=>fc.eq (xs:=ms.map aR) (sz:=1) i (by simpa using hlt) (by rw [VB]; rfl) k
   rw [VB] at ix;have hm9:=hmm ms[i] (VF hlt);have hci:=fun (d:(x==ms[i])=false)=>(fun j (hj:j<i+1) (h2:j<ms.length)=>(by
    by_cases hji:j=i
    ·subst hji; exact d
    ·exact hc j (by omega) h2:(x==ms[j])=false))
   have hat:=fun (d:(x==ms[i])=true)=>me (q:=fun y=>x==y) hlt d fun j hj=>hc j hj (by omega)
   obtain ⟨m,em⟩:∃m,ms[i]=m:=⟨_,rfl⟩;rw [em] at ix hm9 hci hat;simp only [aR] at ix r1;have ne:=vW hx hm9;cases d1:(x==m)
   ·simp only [go_sem,r0,r1,r8,ix,ne,d1,w1]
    refine ⟨_, ?_,rfl,i+1,by omega,rfl,hci d1, ?_, ?_, ?_, ?_⟩
    ·omega
    all_goals simp only [go_sem,r0,r1,r7,aR]
   ·simp only [go_sem,r0,r1,r8,ix,ne,d1]
    exact .same (.refl _) ⟨by rw [hat d1]; rfl,rfl⟩
  ·have hge:i=ms.length:=by have:=VD e; omega
   simp only [go_sem];exact .same (.refl _) ⟨by rw [iI fun j hj=>hc j (by omega) hj]; rfl,rfl⟩
theorem CF (ms:List aS) (hl:ms.length≤1000000000) (hmm:∀m∈ms,M9 m) (x:aS) (hx:M9 x) (p:Perm) (h:Heap):
  ak Tryz.prog 183 [ji ms p,aR x] h fun r h' =>r= .v (.bool (decide (x∈ms)))∧h' =h:=by
 refine ak.body hU hm Tryz.func183 rfl (by kernel_rfl) 9 rfl [.tmp 4] rfl (Vz rfl) (fun hwf=> ?_)
 simp only [go_sem];refine (CK ms hl hmm x hx p _).pthen ?_;simp only [go_sem];exact .same (.refl _) ⟨by rw [sw,show (ms.any fun y=>x==y)=decide (x∈ms) by rw [Bool.eq_iff_iff]; simp]; rfl,rfl⟩
theorem B7 (m:aS) (hmm:M9 m) (h:Heap):ak Tryz.prog 180 [aR m] h fun r h' =>r= .v (.bool (!(m==naM)))∧h' =h:=by
 have n:=(nb hmm).nna;refine ak.body hU hm Tryz.func180 rfl (by kernel_rfl) 5 rfl [.tmp 2] rfl (Vz rfl) (fun hwf=> ?_)
 simp only [go_sem,aR,n];exact .same (.refl _) ⟨rfl,rfl⟩
theorem Kc (m:aS) (hmm:M9 m) (h:Heap):ak Tryz.prog 181 [aR m] h fun r h' =>r= .v (.bool (wO m))∧h' =h:=by
 obtain ⟨n1,n2,n3,_⟩:=nb hmm;refine ak.body hU hm Tryz.func181 rfl (by kernel_rfl) 13 rfl [.tmp 2] rfl (Vz rfl) (fun hwf=> ?_)
 have es:wO m=(m==naM||(m==aN||m==bR)):=by
  unfold wO;rw [Bool.eq_iff_iff];simp
 rw [es];cases d1:(m==naM)<;>cases d2:(m==aN)<;>cases d3:(m==bR)
 all_goals
  simp only [go_sem,aR,n1,n2,n3,d1,d2,d3];exact .same (.refl _) ⟨rfl,rfl⟩
theorem G8 (ms:List aS) (hl:ms.length≤1000000000) (hmm:∀m∈ms,M9 m) (p:Perm) (h:Heap):ak Tryz.prog 155 [ji ms p] h fun r h' =>r=aR (firstM ms)∧h' =h:=by
 refine ak.body hU hm Tryz.func155 rfl (by kernel_rfl) 12 rfl [.tmp 2] rfl (Vz rfl) (fun hwf=> ?_)
 simp only [go_sem,ji];refine (Fj ms hl (fun m=> !(m==naM)) _ [] p _ fun m h=>B7 m (hmm m h) _).pthen ?_
 have hq:∀m:aS,(!(m==naM))=decide (m≠naM):=fun m=>by by_cases e:m=naM<;>simp [e]
 by_cases hx:ms.findIdx (fun m=> !(m==naM))<ms.length
 ·obtain ⟨i,ei⟩:∃i,ms.findIdx (fun m=> !(m==naM))=i:=⟨_,rfl⟩
  have ef:=EV hq hx;have e1:ixD (fun m=> !(m==naM)) ms=(i:Nat):=by rw [ixD,ei]; exact if_pos (by rw [←ei]; exact hx)
  have hlt:i<ms.length:=by rw [←ei]; exact hx
  simp only [ei] at ef;have d1:decide ((0:Int)≤((i:Nat):Int))=true:=decide_eq_true (by omega)
  have ix:=fun k=>fc.eq (xs:=ms.map aR) (sz:=1) i (by simpa using hlt) (by rw [VB]; rfl) k
  rw [VB,←ef] at ix;simp only [aR] at ix;rw [e1];simp only [go_sem,d1,ix];exact .same (.refl _) ⟨rfl,rfl⟩
 ·have e1:ixD (fun m=> !(m==naM)) ms= -1:=by rw [ixD]; exact if_neg hx
  have d1:decide ((0:Int)≤ -1)=false:=rfl;rw [e1];simp only [go_sem,d1];exact .same (.refl _) ⟨by rw [EW hq hx]; rfl,rfl⟩
theorem IE (j m:aS) (hj:M9 j) (hmm:M9 m) (h:Heap):ak Tryz.prog 182 [.v (.int .i64 4),aR j,aR m] h fun r h' =>r=aR (ug j m)∧h' =h:=by
 have n1:=(nb hj).na;have n2:=(nb hmm).nna;refine ak.body hU hm Tryz.func182 rfl (by kernel_rfl) 31 rfl [.tmp 6] rfl (Vz rfl) (fun hwf=> ?_)
 cases d1:(j==naM)
 case true=>
  simp only [go_sem,aR,n1,d1];exact .same (.refl _) ⟨by rw [ug,if_pos (by simpa using d1)]; rfl,rfl⟩
 cases d2:(m==naM)
 ·simp only [go_sem,aR,n1,n2,d1,d2]
  exact .same (.refl _) ⟨by rw [ug,if_neg (by simpa using d1),if_pos (by simpa using d2)]; rfl,rfl⟩
 ·simp only [go_sem,aR,n1,n2,d1,d2]
  exact .same (.refl _) ⟨by rw [ug,if_neg (by simpa using d1),if_neg (by simpa using d2)]; rfl,rfl⟩
theorem M9.step {j m:aS} (hj:M9 j) (hmm:M9 m):M9 (ug j m):=by
 unfold ug
 repeat' split
 ·exact hmm
 ·decide
 ·exact hj
theorem J2 (ms:List aS) (hl:ms.length≤1000000000) (hmm:∀m∈ms,M9 m) (p:Perm) (h:Heap):ak Tryz.prog 156 [ji ms p] h fun r h' =>r=aR (mI ms naM)∧h' =h:=by
 refine ak.body hU hm Tryz.func156 rfl (by kernel_rfl) 20 rfl [.tmp 2] rfl (Vz rfl) (fun hwf=> ?_)
 simp only [go_sem,ji,VA];refine .intro (fun m ρ h' =>h' =h∧∃(i:Nat) (j:aS),i≤ms.length∧m=ms.length - i∧M9 j∧mI (ms.drop i) j=mI ms naM∧lk ρ 3=some (aR j)∧lk ρ 6=some (.sl (ms.map aR) p)∧lk ρ 7=some (.v (.int .i64 ms.length))∧lk ρ 8=some (.v (.int .i64 i))) ms.length ?_ ?_
 ·refine ⟨rfl,0,naM,by omega,rfl, .na,rfl, ?_, ?_, ?_, ?_⟩<;>simp only [go_sem,aR,naM,hbit]
 ·rintro m ρ h' ⟨rfl,i,j,hi,rfl,hj,ho,r3,r6,r7,r8⟩
  simp only [go_sem,r7,r8];refine .intro (fun e=> ?_) (fun e=> ?_)
  ·have hlt:i<ms.length:=VH e
   have w1:=VG i (by omega)
   have ix:=fun k=>fc.eq (xs:=ms.map aR) (sz:=1) i (by simpa using hlt) (by rw [VB]; rfl) k
   rw [VB] at ix;have hm9:=hmm ms[i] (VF hlt);rw [HR hlt] at ho;obtain ⟨m,em⟩:∃m,ms[i]=m:=⟨_,rfl⟩;rw [em] at ix hm9 ho;have hsu:=fun G=>Kc m hm9 G
   have hst:=fun G=>IE j m hj hm9 G
   simp only [aR] at ix hsu hst r3;simp only [go_sem,r6,r8,ix];refine (hsu _).pthen ?_;cases d1:wO m
   ·rw [if_pos d1] at ho
    simp only [go_sem];exact .same (.refl _) ⟨by rw [←ho]; rfl,rfl⟩
   ·rw [if_neg (by rw [d1]; decide)] at ho
    simp only [go_sem,r3];refine (hst _).pthen ?_;simp only [go_sem,r8,w1];refine ⟨_, ?_,rfl,i+1,ug j m,by omega,rfl,M9.step hj hm9,ho, ?_, ?_, ?_, ?_⟩
    ·omega
    all_goals simp only [go_sem,r6,r7,aR]
  ·have hge:i=ms.length:=by have:=VD e; omega
   subst hge;rw [List.drop_length] at ho;simp only [go_sem,r3];exact .same (.refl _) ⟨by rw [←ho]; rfl,rfl⟩
theorem yJ (ms:List aS) (hl:ms.length≤1000000000) (hmm:∀m∈ms,M9 m) (a b:aS) (hb:M9 b) (p:Perm) (h:Heap):ak Tryz.prog 157 [ji ms p,aR a,aR b] h fun r h' =>r=aR (if b∈ms then b else a)∧h' =h:=by
 refine ak.body hU hm Tryz.func157 rfl (by kernel_rfl) 12 rfl [.tmp 6] rfl (Vz rfl) (fun hwf=> ?_)
 simp only [go_sem];refine (CF ms hl hmm b hb p _).pthen ?_
 by_cases d:b∈ms
 ·simp only [go_sem,decide_eq_true d,if_pos d]
  exact .same (.refl _) ⟨rfl,rfl⟩
 ·simp only [go_sem,decide_eq_false d,if_neg d]
  exact .same (.refl _) ⟨rfl,rfl⟩
theorem LD (alg:Int) (ha:1≤alg∧alg≤6) (ms:List aS) (hl:ms.length≤1000000000) (hmm:∀m∈ms,M6 m) (p:Perm) (h:Heap):ak Tryz.prog 117 [.v (.int .i64 alg),ji ms p] h fun r h' =>r= .tup [aR (fL alg ms), .v (.int .i64 0)]∧h' =h:=by
 have hm9:=fun m h=>(hmm m h).m9
 refine ak.body hU hm Tryz.func117 rfl (by kernel_rfl) 49 rfl [.tmp 4, .tmp 5] rfl (Vz rfl) (fun hwf=> ?_)
 simp only [go_sem,ji,VA];refine .intro (fun m ρ h' =>h' =h∧∃i:Nat,i≤ms.length∧m=ms.length - i∧M9 ((ms.take i).foldl mD naM)∧lk ρ 0=some (.v (.int .i64 alg))∧lk ρ 1=some (.sl (ms.map aR) p)∧lk ρ 6=some (aR ((ms.take i).foldl mD naM))∧lk ρ 9=some (.sl (ms.map aR) p)∧lk ρ 10=some (.v (.int .i64 ms.length))∧lk ρ 11=some (.v (.int .i64 i))) ms.length ?_ ?_
 ·refine ⟨rfl,0,by omega,rfl, .na, ?_, ?_, ?_, ?_, ?_, ?_⟩<;>simp only [go_sem,aR,naM,hbit,List.take_zero,List.foldl_nil]
 ·rintro m ρ h' ⟨rfl,i,hi,rfl,hj,r0,r1,r6,r9,r10,r11⟩
  obtain ⟨j,ej⟩:∃j,(ms.take i).foldl mD naM=j:=⟨_,rfl⟩;rw [ej] at hj r6;simp only [go_sem,r10,r11];refine .intro (fun e=> ?_) (fun e=> ?_)
  ·have hlt:i<ms.length:=VH e
   have w1:=VG i (by omega)
   have ix:=fun k=>fc.eq (xs:=ms.map aR) (sz:=1) i (by simpa using hlt) (by rw [VB]; rfl) k
   rw [VB] at ix;have hm6:=hmm ms[i] (VF hlt);have hsn:=zy ms i hlt;rw [ej] at hsn;obtain ⟨m,em⟩:∃m,ms[i]=m:=⟨_,rfl⟩;rw [em] at ix hm6 hsn;have hri:=fun G=>zB m hm6 G
   have hjo:=fun G=>JM j m hj hm6.m9 G
   simp only [aR] at ix hri hjo r6;simp only [go_sem,r9,r11,ix];refine (hri _).pthen ?_;simp only [go_sem,r6];refine (hjo _).pthen ?_;simp only [go_sem,r11,w1];refine ⟨_, ?_,rfl,i+1,by omega,rfl,by rw [hsn]; exact M9.join hj hm6.m9, ?_, ?_, ?_, ?_, ?_, ?_⟩
   ·omega
   all_goals simp only [go_sem,r0,r1,r9,r10,aR,hsn]
  ·have hge:i=ms.length:=by have:=VD e; omega
   subst hge;rw [List.take_length] at ej;have ej' :uF ms=j:=ej;have hov:=fun G=>D7 j hj G
   have htu:=fun (x:aS) (G:Heap)=>Ki x G
   have hov2:=fun G=>D7 (BS j) ⟨hj.2,hj.1⟩ G
   have h1:=G8 ms hl hm9 p;have h2:=J2 ms hl hm9 p;have h3:=yJ ms hl hm9 bR aN (by decide) p
   have h4:=yJ ms hl hm9 aN bR (by decide) p
   simp only [ji] at h1 h2 h3 h4;rcases (show alg=1∨alg=2∨alg=3∨alg=4∨alg=5∨alg=6 by omega) with rfl|rfl|rfl|rfl|rfl|rfl
   ·simp only [go_sem,r0,r6]
    refine (hov _).pthen ?_;simp only [go_sem];exact .same (.refl _) ⟨by simp only [fL,ej',if_true]; rfl,rfl⟩
   ·simp only [go_sem,r0,r6]
    refine (htu _ _).pthen ?_;simp only [go_sem];refine (hov2 _).pthen ?_;simp only [go_sem];refine (htu _ _).pthen ?_;simp only [go_sem];exact .same (.refl _) ⟨by simp only [fL,ej']; rfl,rfl⟩
   ·simp only [go_sem,r0,r1]
    refine (h1 _).pthen ?_;simp only [go_sem];exact .same (.refl _) ⟨rfl,rfl⟩
   ·simp only [go_sem,r0,r1]
    refine (h2 _).pthen ?_;simp only [go_sem];exact .same (.refl _) ⟨rfl,rfl⟩
   ·simp only [go_sem,r0,r1]
    refine (h3 _).pthen ?_;simp only [go_sem];exact .same (.refl _) ⟨by simp [fL,ax],rfl⟩
   ·simp only [go_sem,r0,r1]
    refine (h4 _).pthen ?_;simp only [go_sem];exact .same (.refl _) ⟨by simp [fL,ax],rfl⟩
end Go.Proofs.YtnlbeamjpefpfaaGreatDoor
namespace Go.Bf
open Go Go.Ab Go.Proofs.YtnlbeamjpefpfaaGreatDoor
theorem ry {α:Type} (f:α→Nat):∀(l:List α) (a:Nat),l.foldl (fun a x=>min a (f x)) a≤a∧∀x∈l,l.foldl (fun a x=>min a (f x)) a≤f x
 | [],a=>⟨Nat.le_refl _,fun x h=>by cases h⟩
 |y::l,a=>by
  obtain ⟨h1,h2⟩:=ry f l (min a (f y));rw [List.foldl_cons];refine ⟨by omega,fun x hx=> ?_⟩
  rcases List.mem_cons.1 hx with rfl|hx
  ·omega
  ·exact h2 x hx
theorem JP {gs:List bh}:∀ {t:fT} {m:bN},mE t=some m→iQ gs m=0→ku gs t=0:=by
 intro t;have main:∀(t:fT) (m:bN),mE t=some m→iQ gs m=0→∃x∈t,xb gs x=0:=by
  intro t
  induction t with
  |nil=>intro m h; cases h
  |cons x r ih=>
   intro m h h0
   match x,h with
   | [],h=>obtain ⟨y,hy,e⟩:=ih m h h0; exact ⟨y,List.mem_cons_of_mem _ hy,e⟩
   | [l],h=>
    simp only [mE] at h;cases hf:l.find? fun m=>m.op==1 && !m.attr.must with
    |none=>rw [hf] at h; obtain ⟨y,hy,e⟩:=ih m h h0; exact ⟨y,List.mem_cons_of_mem _ hy,e⟩
    |some k=>
     rw [hf] at h;cases h;have hm:=List.mem_of_find?_eq_some hf;have hall:zV gs l=0:=by
      have:=(ry (iQ gs) l 2).2 _ hm;rw [h0] at this;exact Nat.le_zero.1 this
     exact ⟨[l],List.mem_cons_self ..,by simp [xb,hall]⟩
   |a::b::c,h=>obtain ⟨y,hy,e⟩:=ih m h h0; exact ⟨y,List.mem_cons_of_mem _ hy,e⟩
 intro m h h0;obtain ⟨x,hx,e⟩:=main t m h h0;have:=(ry (xb gs) t 2).2 x hx;rw [e] at this;exact Nat.le_zero.1 this
theorem JZ {gs:List bh} {p:bB} (h:qG gs p=false):dO gs p=(naM,[]):=by
 obtain ⟨id,set,alg,tgt,rules,kids,obls⟩:=p;unfold qG at h;simp only [qK] at h;cases hk:mE tgt with
 |none=>rw [hk] at h; cases h
 |some m=>
  rw [hk] at h;have h0:iQ gs m=0:=by simpa using h
  simp only [dO,JP hk h0,if_true]
theorem JL (j:aS):mD j naM=j:=by simp [mD,naM]
inductive Drop:List jc→List jc→Prop
 |nil:Drop [] []
 |keep (x:jc) {a b:List jc} (h:Drop a b):Drop (x::a) (x::b)
 |skip {a b:List jc} (h:Drop a b):Drop a ((naM,[])::b)
theorem Drop.app {a b c:List jc} (h:Drop a b):Drop (c++a) (c++b):=by
 induction c with
 |nil=>exact h
 |cons x c ih=>exact .keep x ih
theorem Drop.join {a b:List jc} (h:Drop a b):∀j,(a.map (·.1)).foldl mD j=(b.map (·.1)).foldl mD j:=by
 induction h with
 |nil=>intro j; rfl
 |keep x h ih=>intro j; exact ih _
 |skip h ih=>intro j; simp only [List.map_cons,List.foldl_cons,JL]; exact ih j
theorem Drop.first {a b:List jc} (h:Drop a b):firstM (a.map (·.1))=firstM (b.map (·.1)):=by
 unfold firstM
 congr 1
 induction h with
 |nil=>rfl
 |keep x h ih=>simp only [List.map_cons,List.find?_cons,ih]
 |skip h ih=>simpa using ih
theorem Drop.only {a b:List jc} (h:Drop a b):∀j,mI (a.map (·.1)) j=mI (b.map (·.1)) j:=by
 induction h with
 |nil=>intro j; rfl
 |keep x h ih=>intro j; simp only [List.map_cons,mI,ih]
 |skip h ih=>
  intro j;have hs:wO naM=true:=by decide
  simp only [List.map_cons,mI,hs,Bool.true_eq_false,if_false];rw [←ih]
  congr 1
  by_cases hj:j=naM<;>simp [hj]
theorem Drop.mem {a b:List jc} (h:Drop a b) {m:aS} (hm:m≠naM):m∈a.map (·.1)↔m∈b.map (·.1):=by
 induction h with
 |nil=>rfl
 |keep x h ih=>simp only [List.map_cons,List.mem_cons,ih]
 |skip h ih=>rw [ih]; simp only [List.map_cons,List.mem_cons]; exact ⟨.inr,fun h=>h.resolve_left hm⟩
theorem Drop.comb {a b:List jc} (h:Drop a b) (alg:Int):fL alg (a.map (·.1))=fL alg (b.map (·.1)):=by
 unfold fL uF;rw [h.join,h.first,h.only];simp only [h.mem (show aN≠naM by decide),h.mem (show bR≠naM by decide)]
theorem Drop.parts {a b:List jc} (h:Drop a b) (alg:Int) {m:aS} (hm:m≠naM):dM alg m a=dM alg m b:=by
 have e:(naM==m)=false:=by simpa using fun e:naM=m=>hm e.symm
 have h1:(a.find? fun x=>x.1==m)=b.find? fun x=>x.1==m:=by
  induction h with
  |nil=>rfl
  |keep x h ih=>simp only [List.find?_cons,ih]
  |skip h ih=>simp only [List.find?_cons,e,ih]
 have h2:(a.filter fun x=>x.1==m)=b.filter fun x=>x.1==m:=by
  clear h1
  induction h with
  |nil=>rfl
  |keep x h ih=>simp only [List.filter_cons,ih]
  |skip h ih=>simp only [List.filter_cons,e,Bool.false_eq_true,if_false,ih]
 simp only [dM,h1,h2]
theorem Drop.lP {a b:List jc} (h:Drop a b) (alg:Int) (obls:List cA) (t:Nat):lP alg obls t a=lP alg obls t b:=by
 unfold Go.Bf.lP;simp only [h.comb alg]
 by_cases hp:fL alg (b.map (·.1))=aN
 ·rw [hp,h.parts alg (by decide)]
 ·by_cases hd:fL alg (b.map (·.1))=bR
  ·rw [hd,h.parts alg (by decide)]
  ·simp only [ne_eq,hp,hd,not_false_eq_true,and_self,if_true]
mutual
theorem ym (gs:List bh):∀p:bB,dO gs (jl gs p)=dO gs p
 | .mk id set alg tgt rules kids obls=>by
  simp only [jl,dO]
  by_cases h:ku gs tgt=0
  ·simp only [h,if_true]
  ·simp only [h,if_false]
   exact (yo gs kids).app.lP alg obls _
theorem yo (gs:List bh):∀l:List bB,Drop (jv gs (jk gs l)) (jv gs l)
 | []=>by simp only [jk,jv]; exact .nil
 |k::r=>by
  have ih1:=ym gs k;have ih2:=yo gs r;simp only [jk,jv]
  by_cases h:qG gs k=true
  ·simp only [h,if_true,jv,ih1]
   exact .keep _ ih2
  ·have h:qG gs k=false:=by simpa using h
   simp only [h,Bool.false_eq_true,if_false,JZ h];exact .skip ih2
end
def rsA (r:jc):AV:= .agg [aR r.1,aA r.2]
theorem EK (l:List cA) (m:aS) (i:Nat) (h:i<l.length):dL (l.take (i+1)) m=dL (l.take i) m++(if (l[i].on==1 && m==aN||l[i].on==2 && m==bR)=true then [l[i]] else []):=by
 unfold dL;rw [List.take_succ_eq_append_getElem h,List.filter_append,List.filter_cons];rfl
theorem o8 (l:List cA) (m:aS) {L:List AV} (hL:L=l.map bp) (q:Perm):Weak (.agg [aR m, .sl L q]) (rsA (m,l)):=by
 subst hL;refine .agg _ _ rfl fun i a b=> ?_
 rcases i with _|_|i
 ·exact .refl _
 ·exact .sl _ _
 ·simp at a; omega
theorem wj (alg:Int) (m:aS) (l:List jc) (i:Nat) (h:i<l.length) (h3:alg≠3):dM alg m (l.take (i+1))=dM alg m (l.take i)++(if (l[i].1==m)=true then l[i].2 else []):=by
 unfold dM;rw [if_neg h3,if_neg h3,List.take_succ_eq_append_getElem h,List.filter_append,List.map_append,List.flatten_append]
 congr 1
 rw [List.filter_cons];split<;>simp
theorem wh {m:aS} {l:List jc} (h:∀x∈l,(x.1==m)=false):dM 3 m l= []:=by
 unfold dM;rw [if_pos rfl,List.find?_eq_none.2 fun x hx=>by rw [h x hx]; decide]
 rfl
theorem tZ {m:aS} {l:List jc} (i:Nat) (h:i<l.length) (h1:(l[i].1==m)=true) (h2:∀j (hj:j<i),((l[j]'(by omega)).1==m)=false):dM 3 m l=l[i].2:=by
 unfold dM;rw [if_pos rfl,show (l.find? fun x=>x.1==m)=some l[i] from List.find?_eq_some_iff_getElem.2 ⟨h1,i,h,rfl,fun j hj=>by rw [h2 j hj]; rfl⟩]
 rfl
end Go.Bf
namespace Go.Proofs.YtnlbeamjpefpfaaGreatDoor
open Go Go.Ab Go.Bf
theorem Pq:(U 64).sz=3:=by simp only [go_sem]
theorem Pr:(U 57).sz=2:=by simp only [go_sem]
set_option maxRecDepth 100000 in
theorem pM (l:List cA) (hl:l.length≤1000000) (m:aS) (hpd:m=aN∨m=bR) (h:Heap):ak Tryz.prog 119 [aA l,aR m] h fun r h' =>r=aA (dL l m)∧h' =h:=by
 have h9:M9 m:=by rcases hpd with rfl|rfl<;>decide
 have pe:=(nb h9).pe;have de:=(nb h9).de;have uO:=Pq;obtain ⟨b,b1,b2⟩:∃b,(m==aN)=b∧(m==bR)= !b:=by
  rcases hpd with rfl|rfl
  ·exact ⟨true,by decide,by decide⟩
  ·exact ⟨false,by decide,by decide⟩
 refine ak.body hU hm Tryz.func119 rfl (by kernel_rfl) 36 rfl [.tmp 4] rfl (Vz rfl) (fun hwf=> ?_)
 simp only [go_sem,aA,aR,VA];refine .intro (fun q ρ H=>∃(i:Nat) (y:AV),Acc U 64 h H y ((dL (l.take i) m).map bp)∧i≤l.length∧q=l.length - i∧lk ρ 1=some (.v (.complex .f64 (hbit m.1) (hbit m.2)))∧lk ρ 5=some y∧lk ρ 8=some (.sl (l.map bp) .no)∧lk ρ 9=some (.v (.int .i64 l.length))∧lk ρ 10=some (.v (.int .i64 i))) l.length ?_ ?_
 ·refine ⟨0, .sl [] .full,by simpa [dL] using Acc.full (.refl _),by omega,rfl, ?_, ?_, ?_, ?_, ?_⟩<;>simp only [go_sem]
 ·rintro q ρ H ⟨i,y,hy,hi,rfl,r1,r5,r8,r9,r10⟩
  obtain ⟨qy,eqy⟩:=hy.row;subst eqy;simp only [go_sem,r9,r10];refine .intro (fun e=> ?_) (fun e=> ?_)
  ·have hlt:i<l.length:=VH e
   have w1:=VG i (by omega)
   have hsn:=EK l m i hlt;have ix:=fun k=>fc.eq (xs:=l.map bp) (sz:=3) i (by simpa using hlt) (by rw [VB]; rfl) k
   rw [VB] at ix;obtain ⟨o,eo⟩:∃o,l[i]=o:=⟨_,rfl⟩;rw [eo] at ix hsn;simp only [bp] at ix;simp only [go_sem,r8,r10,ix];intro i7 h7;cases b
   ·cases a3:(o.on==2)
    ·cases a1:(o.on==1)
     ·simp only [go_sem,r10,a1,a3,w1]
      refine ⟨_, ?_,i+1,_,by rw [hsn,if_neg (by rw [a1,a3,b1,b2]; decide),List.append_nil]; exact hy.sub (.ai h7),by omega,rfl, ?_, ?_, ?_, ?_, ?_⟩
      ·omega
      all_goals simp only [go_sem,r1,r5,r8,r9]
     ·simp only [go_sem,r1,r10,a1,a3,b1,pe,w1]
      refine ⟨_, ?_,i+1,_,by rw [hsn,if_neg (by rw [a1,a3,b1,b2]; decide),List.append_nil]; exact hy.sub (.ai h7),by omega,rfl, ?_, ?_, ?_, ?_, ?_⟩
      ·omega
      all_goals simp only [go_sem,r1,r5,r8,r9]
    ·cases a1:(o.on==1)
     ·simp only [go_sem,r1,r5,a1,a3,b2,de]
      refine (hy.sub (.ai h7)).app (zs:= [bp o]) (by rw [uO]; decide) (by simp only [go_sem,ne_eq,not_false_eq_true]) (fun k hk=>hk) (by rw [uO]; exact bl (f:=bp) (fun _=>rfl) _) (by rw [uO]; intro z hz; rw [List.mem_singleton.1 hz]; rfl) (by simp only [go_sem,VA,List.length_cons,List.length_nil]; have:=jM (l.take i) m; rw [List.length_take] at this; omega) fun y' H' hy' kp=> ?_
      simp only [go_sem,r10,w1];refine ⟨_, ?_,i+1,y',by rw [hsn,if_pos (by rw [a1,a3,b1,b2]; decide),List.map_append]; exact hy',by omega,rfl, ?_, ?_, ?_, ?_, ?_⟩
      ·omega
      all_goals simp only [go_sem,r1,r8,r9]
     ·simp only [go_sem,r1,r5,a1,a3,b1,b2,pe,de]
      refine (hy.sub (.ai h7)).app (zs:= [bp o]) (by rw [uO]; decide) (by simp only [go_sem,ne_eq,not_false_eq_true]) (fun k hk=>hk) (by rw [uO]; exact bl (f:=bp) (fun _=>rfl) _) (by rw [uO]; intro z hz; rw [List.mem_singleton.1 hz]; rfl) (by simp only [go_sem,VA,List.length_cons,List.length_nil]; have:=jM (l.take i) m; rw [List.length_take] at this; omega) fun y' H' hy' kp=> ?_
      simp only [go_sem,r10,w1];refine ⟨_, ?_,i+1,y',by rw [hsn,if_pos (by rw [a1,a3,b1,b2]; decide),List.map_append]; exact hy',by omega,rfl, ?_, ?_, ?_, ?_, ?_⟩
      ·omega
      all_goals simp only [go_sem,r1,r8,r9]
   ·cases a1:(o.on==1)
    ·cases a3:(o.on==2)
     ·simp only [go_sem,r10,a1,a3,w1]
      refine ⟨_, ?_,i+1,_,by rw [hsn,if_neg (by rw [a1,a3,b1,b2]; decide),List.append_nil]; exact hy.sub (.ai h7),by omega,rfl, ?_, ?_, ?_, ?_, ?_⟩
      ·omega
      all_goals simp only [go_sem,r1,r5,r8,r9]
     ·simp only [go_sem,r1,r10,a1,a3,b2,de,w1]
      refine ⟨_, ?_,i+1,_,by rw [hsn,if_neg (by rw [a1,a3,b1,b2]; decide),List.append_nil]; exact hy.sub (.ai h7),by omega,rfl, ?_, ?_, ?_, ?_, ?_⟩
      ·omega
      all_goals simp only [go_sem,r1,r5,r8,r9]
    ·cases a3:(o.on==2)
     ·simp only [go_sem,r1,r5,a1,b1,pe]
      refine (hy.sub (.ai h7)).app (zs:= [bp o]) (by rw [uO]; decide) (by simp only [go_sem,ne_eq,not_false_eq_true]) (fun k hk=>hk) (by rw [uO]; exact bl (f:=bp) (fun _=>rfl) _) (by rw [uO]; intro z hz; rw [List.mem_singleton.1 hz]; rfl) (by simp only [go_sem,VA,List.length_cons,List.length_nil]; have:=jM (l.take i) m; rw [List.length_take] at this; omega) fun y' H' hy' kp=> ?_
      simp only [go_sem,r10,w1];refine ⟨_, ?_,i+1,y',by rw [hsn,if_pos (by rw [a1,a3,b1,b2]; decide),List.map_append]; exact hy',by omega,rfl, ?_, ?_, ?_, ?_, ?_⟩
      ·omega
      all_goals simp only [go_sem,r1,r8,r9]
     ·simp only [go_sem,r1,r5,a1,b1,pe]
      refine (hy.sub (.ai h7)).app (zs:= [bp o]) (by rw [uO]; decide) (by simp only [go_sem,ne_eq,not_false_eq_true]) (fun k hk=>hk) (by rw [uO]; exact bl (f:=bp) (fun _=>rfl) _) (by rw [uO]; intro z hz; rw [List.mem_singleton.1 hz]; rfl) (by simp only [go_sem,VA,List.length_cons,List.length_nil]; have:=jM (l.take i) m; rw [List.length_take] at this; omega) fun y' H' hy' kp=> ?_
      simp only [go_sem,r10,w1];refine ⟨_, ?_,i+1,y',by rw [hsn,if_pos (by rw [a1,a3,b1,b2]; decide),List.map_append]; exact hy',by omega,rfl, ?_, ?_, ?_, ?_, ?_⟩
      ·omega
      all_goals simp only [go_sem,r1,r8,r9]
  ·have hge:i=l.length:=by have:=VD e; omega
   subst hge;rw [List.take_length] at hy;simp only [go_sem,r5];exact .mk (aA (dL l m)) (by rw [List.take_length]; exact .sl _ _) hy.1 ⟨rfl,rfl⟩
theorem tri {t:Nat} (h:t≤2):t=0∨t=1∨t=2:=by omega
set_option maxRecDepth 100000 in
theorem EL (r:cQ) (hr:r.obls.length≤1000000) (t c:Nat) (ht:t≤2) (hc:c≤2) (h:Heap):ak Tryz.prog 115 [aC r, .v (.int .i64 t), .v (.int .i64 c)] h fun x h' =>x=rsA (kI r t c)∧h' =h:=by
 obtain ⟨id,deny,tgt,cond,obls⟩:=r;simp only at hr;have hdp:=fun G=>pM obls hr aN (.inl rfl) G
 have hdd:=fun G=>pM obls hr bR (.inr rfl) G
 have hip:=fun G=>vF aN (by decide) G
 have hid:=fun G=>vF bR (by decide) G
 simp only [aR,aN,bR,hbit,aA] at hdp hdd hip hid;refine ak.body hU hm Tryz.func115 rfl (by kernel_rfl) 38 rfl [.cell 6 57] rfl (Vz rfl) (fun hwf=> ?_)
 simp only [go_sem,aC];intro i3 h3;simp only [go_sem];intro i6 h6;have n63:=aE h6;have n6:=au h6;have hs:∀x y,Ab.Sub h (upd (upd h i3 x) i6 y):=fun x y=>((Sub.refl h).put h3 x).put n6 y
 have hs2:∀x y z,Ab.Sub h (upd (upd (upd h i3 x) i6 y) i6 z):=fun x y z=>(hs x y).put n6 z
 cases deny
 ·rcases tri ht with rfl|rfl|rfl
  ·simp only [go_sem,aj,n63.symm]
   exact .mk (rsA (naM,[])) (o8 [] naM rfl _) (hs _ _) ⟨rfl,rfl⟩
  ·simp only [go_sem,aj,n63.symm]
   refine (hip _).pthen ?_;simp only [go_sem];exact .mk (rsA (fQ aN,[])) (o8 [] (fQ aN) rfl _) (hs _ _) ⟨rfl,rfl⟩
  ·rcases tri hc with rfl|rfl|rfl
   ·simp only [go_sem,aj,n63.symm]
    exact .mk (rsA (naM,[])) (o8 [] naM rfl _) (hs _ _) ⟨rfl,rfl⟩
   ·simp only [go_sem,aj,n63.symm]
    refine (hip _).pthen ?_;simp only [go_sem];exact .mk (rsA (fQ aN,[])) (o8 [] (fQ aN) rfl _) (hs _ _) ⟨rfl,rfl⟩
   ·simp only [go_sem,aj,n63.symm,aA]
    refine (hdp _).pthen ?_;simp only [go_sem];exact .mk (rsA (aN,dL obls aN)) (o8 _ aN rfl _) (hs _ _) ⟨rfl,rfl⟩
 ·rcases tri ht with rfl|rfl|rfl
  ·simp only [go_sem,aj,n63.symm]
   exact .mk (rsA (naM,[])) (o8 [] naM rfl _) (hs _ _) ⟨rfl,rfl⟩
  ·simp only [go_sem,aj,n63.symm]
   refine (hid _).pthen ?_;simp only [go_sem];exact .mk (rsA (fQ bR,[])) (o8 [] (fQ bR) rfl _) (hs _ _) ⟨rfl,rfl⟩
  ·rcases tri hc with rfl|rfl|rfl
   ·simp only [go_sem,aj,n63.symm]
    exact .mk (rsA (naM,[])) (o8 [] naM rfl _) (hs _ _) ⟨rfl,rfl⟩
   ·simp only [go_sem,aj,n63.symm]
    refine (hid _).pthen ?_;simp only [go_sem];exact .mk (rsA (fQ bR,[])) (o8 [] (fQ bR) rfl _) (hs _ _) ⟨rfl,rfl⟩
   ·simp only [go_sem,aj,n63.symm,aA]
    refine (hdd _).pthen ?_;simp only [go_sem];exact .mk (rsA (bR,dL obls bR)) (o8 _ bR rfl _) (hs _ _) ⟨rfl,rfl⟩
theorem HJ (gs:List bh) (t:fT):ku gs t≤2:=(ry (xb gs) t 2).1
theorem GH (gs:List bh) (l:List aP):nO gs l≤2:=by
 unfold nO
 repeat' split
 all_goals omega
set_option maxRecDepth 100000 in
theorem EM (r:cQ) (hr:BD r) (gs:List bh) (hf:pV gs) (h:Heap):ak Tryz.prog 81 [aC r,bE gs] h fun x h' =>x=rsA (gy gs r)∧h' =h:=by
 have hob:=(jF hr.2.2.2).1;have hmt:=fun G=>HK r.tgt (zJ hr.2.1) gs hf G
 have hcd:=fun G=>Ju r.cond hr.2.2.1 gs hf G
 have hef:=fun G=>EL r (by omega) (ku gs r.tgt) (nO gs r.cond) (HJ _ _) (GH _ _) G
 simp only [aC,bE] at hmt hcd hef;refine ak.body hU hm Tryz.func81 rfl (by kernel_rfl) 15 rfl [.cell 4 57] rfl (Vz rfl) (fun hwf=> ?_)
 simp only [go_sem,aC,bE];intro i2 h2;simp only [go_sem];intro i4 h4;have n42:=aE h4;have n4:=au h4;obtain ⟨H,eH⟩:∃H,upd (upd h i2 (some (.obj [.s r.id, .v (.bool r.deny),aU r.tgt,fh r.cond,aA r.obls] 164))) i4 (some (.obj [.v (.complex .f64 0 0), .sl [] .full] 57))=H:=⟨_,rfl⟩;have hH:Ab.Sub h H:=by rw [←eH]; exact ((Sub.refl h).put h2 _).put n4 _
 have g2:H i2=some (.obj [.s r.id, .v (.bool r.deny),aU r.tgt,fh r.cond,aA r.obls] 164):=by rw [←eH,ag _ _ n42.symm,ah]
 have g4:H i4=some (.obj [.v (.complex .f64 0 0), .sl [] .full] 57):=by rw [←eH,ah]
 simp only [go_sem];rw [eH];clear eH;refine .calls (hm1 i2 (.obj [.s r.id, .v (.bool r.deny),aU r.tgt,fh r.cond,aA r.obls] 164)) [0,1,2,3,5,6,7,4,8,9,10] (.hm1 g2) (by kernel_rfl) rfl ?_
 simp only [go_sem,fP];refine (hmt _).pthen ?_;refine ⟨.hm1 g2, ?_⟩;simp only [go_sem];refine (hcd _).pthen ?_;refine ⟨.hm1 g2, ?_⟩;simp only [go_sem];refine (hef _).pthen ?_;refine ⟨.hm1 g2, ?_⟩;simp only [go_sem,rsA,aA,aR,g4];refine ⟨.hm1 (by rw [ag _ _ n42.symm]; exact g2), ?_⟩
 exact .mk _ (.refl _) (hH.put n4 _) ⟨rfl,rfl⟩
theorem yA (l:List jc):Sized 2 (l.map rsA):=bl (f:=rsA) (fun _=>rfl) l
set_option maxRecDepth 100000 in
theorem CM {id:Txt} {set:Bool} {alg:Int} (ha:1≤alg∧alg≤6) {tgt:fT} {rules:List cQ} {kids:List bB} {obls:List cA} (ho:obls.length≤1000000) (t:Nat) (ht:t=1∨t=2) (parts:List jc) (hp:∀x∈parts,M6 x.1) (hn:parts.length≤32) {B:Nat} (hB:B≤10000000) (hpb:∀x∈parts,x.2.length≤B) (q:Perm) (h:Heap):
  ak Tryz.prog 82 [aK (.mk id set alg tgt rules kids obls), .v (.int .i64 t), .sl (parts.map rsA) q] h fun r h' =>r=rsA (lP alg obls t parts)∧h' =h:=by
 have hm6:∀m∈parts.map (·.1),M6 m:=fun m hm=>by
  obtain ⟨x,hx,rfl⟩:=List.mem_map.1 hm;exact hp x hx
 have hc6:M6 (fL alg (parts.map (·.1))):=DE hm6
 have uR:=Pr;have uO:=Pq;have uM:=Pp;have hall:=fun (p:Perm) (G:Heap)=>LD alg ha (parts.map (·.1)) (by rw [VA]; omega) hm6 p G
 simp only [ji] at hall;refine ak.body hU hm Tryz.func82 rfl (by kernel_rfl) 84 rfl [.cell 6 57] rfl (Vz rfl) (fun hwf=> ?_)
 simp only [go_sem,aK];intro i3 h3;simp only [go_sem];intro i6 h6;have n63:=aE h6;have n6' :=au h6;obtain ⟨H0,eH⟩:∃H0,upd (upd h i3 (some (.obj [.s id, .v (.bool set), .v (.int .i64 alg),aU tgt, .sl (rules.map aC) .no, .sl (fu kids) .no,aA obls] 37))) i6 (some (.obj [.v (.complex .f64 0 0), .sl [] .full] 57))=H0:=⟨_,rfl⟩;have hH0:Ab.Sub h H0:=by rw [←eH]; exact ((Sub.refl h).put h3 _).put n6' _
 have g3:H0 i3=some (.obj [.s id, .v (.bool set), .v (.int .i64 alg),aU tgt, .sl (rules.map aC) .no, .sl (fu kids) .no,aA obls] 37):=by rw [←eH,ag _ _ n63.symm,ah]
 have g6:H0 i6=some (.obj [.v (.complex .f64 0 0), .sl [] .full] 57):=by rw [←eH,ah]
 simp only [go_sem,VA];rw [eH];clear eH;refine .intro (fun m ρ H=>∃(i:Nat) (y:AV),Acc U 44 H0 H y (((parts.map (·.1)).take i).map aR)∧i≤parts.length∧m=parts.length - i∧lk ρ 1=some (.v (.int .i64 t))∧lk ρ 2=some (.sl (parts.map rsA) q)∧lk ρ 3=some (.ptr i3 0)∧lk ρ 6=some (.ptr i6 0)∧lk ρ 7=some y∧lk ρ 15=some (.sl (parts.map rsA) q)∧lk ρ 16=some (.v (.int .i64 parts.length))∧lk ρ 17=some (.v (.int .i64 i))) parts.length ?_ ?_
 ·refine ⟨0, .sl [] .full, .full (.refl _),by omega,rfl, ?_, ?_, ?_, ?_, ?_, ?_, ?_, ?_⟩<;>simp only [go_sem]
 ·rintro m ρ H ⟨i,y,hy,hi,rfl,r1,r2,r3,r6,r7,r15,r16,r17⟩
  obtain ⟨qy,eqy⟩:=hy.row;subst eqy;simp only [go_sem,r16,r17];refine .intro (fun e=> ?_) (fun e=> ?_)
  ·have hlt:i<parts.length:=VH e
   have w1:=VG i (by omega)
   have hsn:((parts.map (·.1)).take (i+1)).map aR=((parts.map (·.1)).take i).map aR++ [aR parts[i].1]:=by
    rw [List.take_succ_eq_append_getElem (by simpa using hlt),List.map_append,VB]; rfl
   have ix:=fun k=>fc.eq (xs:=parts.map rsA) (sz:=2) i (by simpa using hlt) (by rw [VB]; rfl) k
   rw [VB] at ix;obtain ⟨x,ex⟩:∃x,parts[i]=x:=⟨_,rfl⟩;rw [ex] at ix hsn;simp only [rsA,aR,aA] at ix;simp only [go_sem,r15,r17,ix];intro i9 h9;simp only [go_sem,r7];refine (hy.sub (.ai h9)).app (zs:= [aR x.1]) (by rw [uM]; decide) (by simp only [go_sem,ne_eq,not_false_eq_true]) (fun k hk=>hk) (by rw [uM]; exact bl (f:=aR) (fun _=>rfl) _) (by rw [uM]; intro z hz; rw [List.mem_singleton.1 hz]; rfl) (by simp only [go_sem,VA,List.length_take,List.length_cons,List.length_nil]; omega) fun y' H' hy' kp=> ?_
   simp only [go_sem,r17,w1];refine ⟨_, ?_,i+1,y',by rw [hsn]; exact hy',by omega,rfl, ?_, ?_, ?_, ?_, ?_, ?_, ?_, ?_⟩
   ·omega
   all_goals simp only [go_sem,r1,r2,r3,r6,r15,r16]
  ·have hge:i=parts.length:=by have:=VD e; omega
   subst hge;have htl:(parts.map (·.1)).take parts.length=parts.map (·.1):=List.take_of_length_le (by simp)
   rw [htl] at hy;have k3:=hy.1 _ _ g3;have k6:=hy.1 _ _ g6;have hsH:=hH0.trans hy.1;have hjp:lP alg obls t parts=if t=0 then (naM,[]) else if t=1 then (fQ (fL alg (parts.map (·.1))),[]) else if fL alg (parts.map (·.1))≠aN∧fL alg (parts.map (·.1))≠bR then (fL alg (parts.map (·.1)),[])
     else (fL alg (parts.map (·.1)),dM alg (fL alg (parts.map (·.1))) parts++dL obls (fL alg (parts.map (·.1)))):=rfl
   have hple:(dM alg (fL alg (parts.map (·.1))) parts).length≤32*B+B:=rR hpb hn
   have hal:=fun G=>hall qy G
   obtain ⟨m,em⟩:∃m,fL alg (parts.map (·.1))=m:=⟨_,rfl⟩
   rw [em] at hc6 hjp hal hple;have hin:=fun G=>vF m hc6.m9 G
   have npe:=(nb hc6.m9).npe;have nde:=(nb hc6.m9).nde;simp only [aR] at hal hin;rw [htl] at r7;simp only [go_sem,r3,r7,k3];refine (hal _).pthen ?_;rcases ht with rfl|rfl
   ·simp only [go_sem,r1]
    refine (hin _).pthen ?_;simp only [go_sem,r6,k6];exact .mk (rsA (fQ m,[])) (o8 [] (fQ m) rfl _) (hsH.put n6' _) ⟨by rw [hjp]; rfl,rfl⟩
   have k6H:=k6;cases dp:(m==aN)
   case true=>
    have e1:m=aN:=by simpa using dp
    have hne:¬(m≠aN∧m≠bR):=fun hh=>hh.1 e1
    have hdu:=fun G=>pM obls ho m (.inl e1) G
    simp only [aA,aR] at hdu;simp only [go_sem,r1,npe,dp];intro i12 h12;have n126:i12≠i6:=fun e=>by rw [e,k6] at h12; cases h12
    have n123:i12≠i3:=fun e=>by rw [e,k3] at h12; cases h12
    simp only [go_sem,r2,VA];refine .intro (fun k ρ K=>∃(i:Nat) (L:List cA) (ql:Perm),Acc U 64 H K (.sl (L.map bp) ql) (L.map bp)∧K i12=some (.obj [.v (.complex .f64 (hbit m.1) (hbit m.2)), .sl (L.map bp) ql] 57)∧L=dM alg m (parts.take i)∧(alg=3→∀j (h1:j<parts.length),j<i→(parts[j].1==m)=false)∧i≤parts.length∧k=parts.length - i∧lk ρ 3=some (.ptr i3 0)∧lk ρ 6=some (.ptr i6 0)∧lk ρ 10=some (.v (.complex .f64 (hbit m.1) (hbit m.2)))∧lk ρ 12=some (.ptr i12 0)∧lk ρ 55=some (.sl (parts.map rsA) q)∧lk ρ 56=some (.v (.int .i64 parts.length))∧lk ρ 57=some (.v (.int .i64 i))) parts.length ?_ ?_
    ·refine ⟨0,[], .full, .full (.ai h12),ah ..,by simp [dM],fun _ j _ hj=>(by omega),by omega,rfl, ?_, ?_, ?_, ?_, ?_, ?_, ?_⟩<;>simp only [go_sem,r3,r6]
    ·rintro k ρ K ⟨i,L,ql,hy,k12,hL,hno,hi,rfl,s3,s6,s10,s12,s55,s56,s57⟩
     have k3:=hy.1 _ _ k3;have k6:=hy.1 _ _ k6;have hLl:L.length≤32*B+B:=by rw [hL]; exact rR (fun x hx=>hpb x (List.mem_of_mem_take hx)) (by rw [List.length_take]; omega)
     simp only [go_sem,s56,s57];refine .intro (fun e=> ?_) (fun e=> ?_)
     ·have hlt:i<parts.length:=VH e
      have w1:=VG i (by omega)
      have hpx:=hpb _ (VF hlt);have hm9:=(hp _ (VF hlt)).m9;have hsn:=fun h3=>wj alg m parts i hlt h3
      have hfi:=fun h3 d=>tZ (m:=m) i hlt d fun j hj=>hno h3 j (by omega) hj
      have hno2:(parts[i].1==m)=false→alg=3→∀j (h1:j<parts.length),j<i+1→(parts[j].1==m)=false:=fun d h3 j h1 hj=>by
       by_cases hji:j=i
       ·subst hji; exact d
       ·exact hno h3 j h1 (by omega)
      have hnone:alg=3→∀n,(∀j (h1:j<parts.length),j<n→(parts[j].1==m)=false)→dM alg m (parts.take n)= []:=fun h3 n hh=>by
       rw [h3];refine wh fun x hx=> ?_
       obtain ⟨j,hj,rfl⟩:=List.mem_iff_getElem.1 hx;rw [List.length_take] at hj;rw [List.getElem_take];exact hh j (by omega) (by omega)
      have ix:=fun k=>fc.eq (xs:=parts.map rsA) (sz:=2) i (by simpa using hlt) (by rw [VB]; rfl) k
      rw [VB] at ix;obtain ⟨x,ex⟩:∃x,parts[i]=x:=⟨_,rfl⟩;rw [ex] at ix hsn hfi hno2 hm9 hpx;have nx:=A8 hm9 hc6.m9;simp only [rsA,aR,aA] at ix;simp only [go_sem,s55,s57,ix];intro i14 h14;have n1412:i14≠i12:=fun e=>by rw [e,k12] at h14; cases h14
      have n143:i14≠i3:=fun e=>by rw [e,k3] at h14; cases h14
      cases dx:(x.1==m)
      ·have hL2:L=dM alg m (parts.take (i+1)):=by
        by_cases h3:alg=3
        ·rw [hL,hnone h3 i (hno h3),hnone h3 (i+1) (hno2 dx h3)]
        ·rw [hsn h3,dx,hL]; simp
       simp only [go_sem,s10,s57,nx,dx,w1];refine ⟨_, ?_,i+1,L,ql,hy.sub (.ai h14),by rw [ag _ _ n1412.symm]; exact k12,hL2,hno2 dx,by omega,rfl, ?_, ?_, ?_, ?_, ?_, ?_, ?_⟩
       ·omega
       all_goals simp only [go_sem,s3,s6,s10,s12,s55,s56]
      ·simp only [go_sem,s10,s12,nx,dx,aj,n1412.symm,k12]
       refine (hy.sub (.ai h14)).app (zs:=x.2.map bp) (by rw [uO]; decide) (by simp only [go_sem,ne_eq,not_false_eq_true]) (fun k hk=>hk) (by rw [uO]; exact bl (f:=bp) (fun _=>rfl) _) (by rw [uO]; exact bl (f:=bp) (fun _=>rfl) _) (by simp only [go_sem,VA]; omega) fun y' K' hy' kp=> ?_
       obtain ⟨q',eq'⟩:=hy'.row;subst eq';rw [←List.map_append] at hy';have k12' :=kp i12 _ _ (by rw [ag _ _ n1412.symm]; exact k12)
       have k3' :=kp i3 _ _ (by rw [ag _ _ n143.symm]; exact k3)
       have k6' :=hy'.1 _ _ k6H;have hyp:=fun b=>hy'.put h12 k12' b
       cases da:(alg==3)
       ·have h3:alg≠3:=by simpa using da
        simp only [go_sem,s3,s12,s57,k12',aj,n123.symm,k3',da,w1];refine ⟨_, ?_,i+1,L++x.2,q',by rw [←List.map_append]; exact hyp _,by rw [ah,List.map_append],by rw [hsn h3,dx,hL]; rfl,fun e=>(h3 e).elim,by omega,rfl, ?_, ?_, ?_, ?_, ?_, ?_, ?_⟩
        ·omega
        all_goals simp only [go_sem,s3,s6,s10,s12,s55,s56]
       ·have h3:alg=3:=by simpa using da
        have hL0:L= []:=by rw [hL,hnone h3 i (hno h3)]
        have hL:L++x.2=dM alg m parts:=by
         subst h3;rw [hfi rfl dx,hL0]; rfl
        have hLl:(L++x.2).length≤32*B+B:=by rw [hL]; exact hple
        simp only [go_sem,s3,s12,k12',aj,n123.symm,k3',da];obtain ⟨K2,eK⟩:∃K2,upd K' i12 (some (.obj [.v (.complex .f64 (hbit m.1) (hbit m.2)), .sl (L.map bp++x.2.map bp) q'] 57))=K2:=⟨_,rfl⟩;have hy:=hyp (some (.obj [.v (.complex .f64 (hbit m.1) (hbit m.2)), .sl (L.map bp++x.2.map bp) q'] 57));have k3:K2 i3=some (.obj [.s id, .v (.bool set), .v (.int .i64 alg),aU tgt, .sl (rules.map aC) .no, .sl (fu kids) .no,aA obls] 37):=by rw [←eK,ag _ _ n123.symm]; exact k3'
        have k6:K2 i6=some (.obj [.v (.complex .f64 0 0), .sl [] .full] 57):=by rw [←eK,ag _ _ n126.symm]; exact k6'
        have k12:K2 i12=some (.obj [.v (.complex .f64 (hbit m.1) (hbit m.2)), .sl ((L++x.2).map bp) q'] 57):=by rw [←eK,ah,List.map_append]
        try rw [eK]
        rw [eK] at hy;clear eK;have p3:pick K2 [i3,i12] i3=some (.obj [.s id, .v (.bool set), .v (.int .i64 alg),aU tgt, .sl (rules.map aC) .no, .sl (fu kids) .no,aA obls] 37):=(bz (by simp)).trans k3
        have p12:pick K2 [i3,i12] i12=some (.obj [.v (.complex .f64 (hbit m.1) (hbit m.2)), .sl ((L++x.2).map bp) q'] 57):=(bz (by simp)).trans k12
        refine .stage (pick K2 [i3,i12]) [0,1,2,3,4,5,6,7] [8] bt (by kernel_rfl) ?_
        simp only [go_sem,s3,s10,s12,p3,p12,aA];refine (hdu _).pthen ?_;refine ⟨bt, ?_⟩;simp only [go_sem];refine hy.app (zs:=(dL obls m).map bp) (by rw [uO]; decide) (by simp only [go_sem,ne_eq,not_false_eq_true]) (fun k hk=>hk) (by rw [uO]; exact bl (f:=bp) (fun _=>rfl) _) (by rw [uO]; exact bl (f:=bp) (fun _=>rfl) _) (by simp only [go_sem,VA]; have:=jM obls m; omega) fun y2 K3 hy2 kp2=> ?_
        obtain ⟨q2,eq2⟩:=hy2.row;subst eq2;have m3:=kp2 _ _ _ k3;have m12:=kp2 _ _ _ k12;have m6:=kp2 _ _ _ k6;refine ⟨gZ fun j hj=> ?_, ?_⟩
        ·simp only [List.mem_cons,List.not_mem_nil,or_false] at hj
         rcases hj with rfl|rfl
         ·rw [m3,k3]
         ·rw [m12,k12]
        simp only [go_sem,s12];refine ⟨cO,fun _ _ e=>(by cases e), ?_⟩
        simp only [go_sem,s6,s12,m12];refine ⟨fun _ _ e=>(by cases e), ?_⟩
        simp only [go_sem,aj,n126.symm,m6];exact .mk (rsA (m,(L++x.2)++dL obls m)) (o8 ((L++x.2)++dL obls m) m (by simp only [List.map_append]) _) (((hsH.trans hy2.1).put (hsH.none h12) _).put n6' _) ⟨by rw [hjp,if_neg (by decide),if_neg (by decide),if_neg hne,hL],rfl⟩
     ·have hge:i=parts.length:=by have:=VD e; omega
      subst hge;rw [List.take_length] at hL;have p3:pick K [i3,i12] i3=some (.obj [.s id, .v (.bool set), .v (.int .i64 alg),aU tgt, .sl (rules.map aC) .no, .sl (fu kids) .no,aA obls] 37):=(bz (by simp)).trans k3
      have p12:pick K [i3,i12] i12=some (.obj [.v (.complex .f64 (hbit m.1) (hbit m.2)), .sl (L.map bp) ql] 57):=(bz (by simp)).trans k12
      simp only [go_sem];refine .stage (pick K [i3,i12]) [0,1,2,3,4,5,6,7] [8] bt (by kernel_rfl) ?_
      simp only [go_sem,s3,s10,s12,p3,p12,aA];refine (hdu _).pthen ?_;refine ⟨bt, ?_⟩;simp only [go_sem];refine hy.app (zs:=(dL obls m).map bp) (by rw [uO]; decide) (by simp only [go_sem,ne_eq,not_false_eq_true]) (fun k hk=>hk) (by rw [uO]; exact bl (f:=bp) (fun _=>rfl) _) (by rw [uO]; exact bl (f:=bp) (fun _=>rfl) _) (by simp only [go_sem,VA]; have:=jM obls m; omega) fun y2 K2 hy2 kp2=> ?_
      obtain ⟨q2,eq2⟩:=hy2.row;subst eq2;have m3:=kp2 _ _ _ k3;have m12:=kp2 _ _ _ k12;have m6:=kp2 _ _ _ k6;refine ⟨gZ fun j hj=> ?_, ?_⟩
      ·simp only [List.mem_cons,List.not_mem_nil,or_false] at hj
       rcases hj with rfl|rfl
       ·rw [m3,k3]
       ·rw [m12,k12]
      simp only [go_sem,s12];refine ⟨cO,fun _ _ e=>(by cases e), ?_⟩
      simp only [go_sem,s6,s12,m12];refine ⟨fun _ _ e=>(by cases e), ?_⟩
      simp only [go_sem,aj,n126.symm,m6];exact .mk (rsA (m,L++dL obls m)) (o8 (L++dL obls m) m (by simp only [List.map_append]) _) (((hsH.trans hy2.1).put (hsH.none h12) _).put n6' _) ⟨by rw [hjp,if_neg (by decide),if_neg (by decide),if_neg hne,hL],rfl⟩
   case false=>
    cases dd:(m==bR)
    case true=>
     have e1:m=bR:=by simpa using dd
     have hne:¬(m≠aN∧m≠bR):=fun hh=>hh.2 e1
     have hdu:=fun G=>pM obls ho m (.inr e1) G
     simp only [aA,aR] at hdu;simp only [go_sem,r1,npe,nde,dp,dd];intro i12 h12;have n126:i12≠i6:=fun e=>by rw [e,k6] at h12; cases h12
     have n123:i12≠i3:=fun e=>by rw [e,k3] at h12; cases h12
     simp only [go_sem,r2,VA];refine .intro (fun k ρ K=>∃(i:Nat) (L:List cA) (ql:Perm),Acc U 64 H K (.sl (L.map bp) ql) (L.map bp)∧K i12=some (.obj [.v (.complex .f64 (hbit m.1) (hbit m.2)), .sl (L.map bp) ql] 57)∧L=dM alg m (parts.take i)∧(alg=3→∀j (h1:j<parts.length),j<i→(parts[j].1==m)=false)∧i≤parts.length∧k=parts.length - i∧lk ρ 3=some (.ptr i3 0)∧lk ρ 6=some (.ptr i6 0)∧lk ρ 10=some (.v (.complex .f64 (hbit m.1) (hbit m.2)))∧lk ρ 12=some (.ptr i12 0)∧lk ρ 55=some (.sl (parts.map rsA) q)∧lk ρ 56=some (.v (.int .i64 parts.length))∧lk ρ 57=some (.v (.int .i64 i))) parts.length ?_ ?_
     ·refine ⟨0,[], .full, .full (.ai h12),ah ..,by simp [dM],fun _ j _ hj=>(by omega),by omega,rfl, ?_, ?_, ?_, ?_, ?_, ?_, ?_⟩<;>simp only [go_sem,r3,r6]
     ·rintro k ρ K ⟨i,L,ql,hy,k12,hL,hno,hi,rfl,s3,s6,s10,s12,s55,s56,s57⟩
      have k3:=hy.1 _ _ k3;have k6:=hy.1 _ _ k6;have hLl:L.length≤32*B+B:=by rw [hL]; exact rR (fun x hx=>hpb x (List.mem_of_mem_take hx)) (by rw [List.length_take]; omega)
      simp only [go_sem,s56,s57];refine .intro (fun e=> ?_) (fun e=> ?_)
      ·have hlt:i<parts.length:=VH e
       have w1:=VG i (by omega)
       have hpx:=hpb _ (VF hlt);have hm9:=(hp _ (VF hlt)).m9;have hsn:=fun h3=>wj alg m parts i hlt h3
       have hfi:=fun h3 d=>tZ (m:=m) i hlt d fun j hj=>hno h3 j (by omega) hj
       have hno2:(parts[i].1==m)=false→alg=3→∀j (h1:j<parts.length),j<i+1→(parts[j].1==m)=false:=fun d h3 j h1 hj=>by
        by_cases hji:j=i
        ·subst hji; exact d
        ·exact hno h3 j h1 (by omega)
       have hnone:alg=3→∀n,(∀j (h1:j<parts.length),j<n→(parts[j].1==m)=false)→dM alg m (parts.take n)= []:=fun h3 n hh=>by
        rw [h3];refine wh fun x hx=> ?_
        obtain ⟨j,hj,rfl⟩:=List.mem_iff_getElem.1 hx;rw [List.length_take] at hj;rw [List.getElem_take];exact hh j (by omega) (by omega)
       have ix:=fun k=>fc.eq (xs:=parts.map rsA) (sz:=2) i (by simpa using hlt) (by rw [VB]; rfl) k
       rw [VB] at ix;obtain ⟨x,ex⟩:∃x,parts[i]=x:=⟨_,rfl⟩;rw [ex] at ix hsn hfi hno2 hm9 hpx;have nx:=A8 hm9 hc6.m9;simp only [rsA,aR,aA] at ix;simp only [go_sem,s55,s57,ix];intro i14 h14;have n1412:i14≠i12:=fun e=>by rw [e,k12] at h14; cases h14
       have n143:i14≠i3:=fun e=>by rw [e,k3] at h14; cases h14
       cases dx:(x.1==m)
       ·have hL2:L=dM alg m (parts.take (i+1)):=by
         by_cases h3:alg=3
         ·rw [hL,hnone h3 i (hno h3),hnone h3 (i+1) (hno2 dx h3)]
         ·rw [hsn h3,dx,hL]; simp
        simp only [go_sem,s10,s57,nx,dx,w1];refine ⟨_, ?_,i+1,L,ql,hy.sub (.ai h14),by rw [ag _ _ n1412.symm]; exact k12,hL2,hno2 dx,by omega,rfl, ?_, ?_, ?_, ?_, ?_, ?_, ?_⟩
        ·omega
        all_goals simp only [go_sem,s3,s6,s10,s12,s55,s56]
       ·simp only [go_sem,s10,s12,nx,dx,aj,n1412.symm,k12]
        refine (hy.sub (.ai h14)).app (zs:=x.2.map bp) (by rw [uO]; decide) (by simp only [go_sem,ne_eq,not_false_eq_true]) (fun k hk=>hk) (by rw [uO]; exact bl (f:=bp) (fun _=>rfl) _) (by rw [uO]; exact bl (f:=bp) (fun _=>rfl) _) (by simp only [go_sem,VA]; omega) fun y' K' hy' kp=> ?_
        obtain ⟨q',eq'⟩:=hy'.row;subst eq';rw [←List.map_append] at hy';have k12' :=kp i12 _ _ (by rw [ag _ _ n1412.symm]; exact k12)
        have k3' :=kp i3 _ _ (by rw [ag _ _ n143.symm]; exact k3)
        have k6' :=hy'.1 _ _ k6H;have hyp:=fun b=>hy'.put h12 k12' b
        cases da:(alg==3)
        ·have h3:alg≠3:=by simpa using da
         simp only [go_sem,s3,s12,s57,k12',aj,n123.symm,k3',da,w1];refine ⟨_, ?_,i+1,L++x.2,q',by rw [←List.map_append]; exact hyp _,by rw [ah,List.map_append],by rw [hsn h3,dx,hL]; rfl,fun e=>(h3 e).elim,by omega,rfl, ?_, ?_, ?_, ?_, ?_, ?_, ?_⟩
         ·omega
         all_goals simp only [go_sem,s3,s6,s10,s12,s55,s56]
        ·have h3:alg=3:=by simpa using da
         have hL0:L= []:=by rw [hL,hnone h3 i (hno h3)]
         have hL:L++x.2=dM alg m parts:=by
          subst h3;rw [hfi rfl dx,hL0]; rfl
         have hLl:(L++x.2).length≤32*B+B:=by rw [hL]; exact hple
         simp only [go_sem,s3,s12,k12',aj,n123.symm,k3',da];obtain ⟨K2,eK⟩:∃K2,upd K' i12 (some (.obj [.v (.complex .f64 (hbit m.1) (hbit m.2)), .sl (L.map bp++x.2.map bp) q'] 57))=K2:=⟨_,rfl⟩;have hy:=hyp (some (.obj [.v (.complex .f64 (hbit m.1) (hbit m.2)), .sl (L.map bp++x.2.map bp) q'] 57));have k3:K2 i3=some (.obj [.s id, .v (.bool set), .v (.int .i64 alg),aU tgt, .sl (rules.map aC) .no, .sl (fu kids) .no,aA obls] 37):=by rw [←eK,ag _ _ n123.symm]; exact k3'
         have k6:K2 i6=some (.obj [.v (.complex .f64 0 0), .sl [] .full] 57):=by rw [←eK,ag _ _ n126.symm]; exact k6'
         have k12:K2 i12=some (.obj [.v (.complex .f64 (hbit m.1) (hbit m.2)), .sl ((L++x.2).map bp) q'] 57):=by rw [←eK,ah,List.map_append]
         try rw [eK]
         rw [eK] at hy;clear eK;have p3:pick K2 [i3,i12] i3=some (.obj [.s id, .v (.bool set), .v (.int .i64 alg),aU tgt, .sl (rules.map aC) .no, .sl (fu kids) .no,aA obls] 37):=(bz (by simp)).trans k3
         have p12:pick K2 [i3,i12] i12=some (.obj [.v (.complex .f64 (hbit m.1) (hbit m.2)), .sl ((L++x.2).map bp) q'] 57):=(bz (by simp)).trans k12
         refine .stage (pick K2 [i3,i12]) [0,1,2,3,4,5,6,7] [8] bt (by kernel_rfl) ?_
         simp only [go_sem,s3,s10,s12,p3,p12,aA];refine (hdu _).pthen ?_;refine ⟨bt, ?_⟩;simp only [go_sem];refine hy.app (zs:=(dL obls m).map bp) (by rw [uO]; decide) (by simp only [go_sem,ne_eq,not_false_eq_true]) (fun k hk=>hk) (by rw [uO]; exact bl (f:=bp) (fun _=>rfl) _) (by rw [uO]; exact bl (f:=bp) (fun _=>rfl) _) (by simp only [go_sem,VA]; have:=jM obls m; omega) fun y2 K3 hy2 kp2=> ?_
         obtain ⟨q2,eq2⟩:=hy2.row;subst eq2;have m3:=kp2 _ _ _ k3;have m12:=kp2 _ _ _ k12;have m6:=kp2 _ _ _ k6;refine ⟨gZ fun j hj=> ?_, ?_⟩
         ·simp only [List.mem_cons,List.not_mem_nil,or_false] at hj
          rcases hj with rfl|rfl
          ·rw [m3,k3]
          ·rw [m12,k12]
         simp only [go_sem,s12];refine ⟨cO,fun _ _ e=>(by cases e), ?_⟩
         simp only [go_sem,s6,s12,m12];refine ⟨fun _ _ e=>(by cases e), ?_⟩
         simp only [go_sem,aj,n126.symm,m6];exact .mk (rsA (m,(L++x.2)++dL obls m)) (o8 ((L++x.2)++dL obls m) m (by simp only [List.map_append]) _) (((hsH.trans hy2.1).put (hsH.none h12) _).put n6' _) ⟨by rw [hjp,if_neg (by decide),if_neg (by decide),if_neg hne,hL],rfl⟩
      ·have hge:i=parts.length:=by have:=VD e; omega
       subst hge;rw [List.take_length] at hL;have p3:pick K [i3,i12] i3=some (.obj [.s id, .v (.bool set), .v (.int .i64 alg),aU tgt, .sl (rules.map aC) .no, .sl (fu kids) .no,aA obls] 37):=(bz (by simp)).trans k3
       have p12:pick K [i3,i12] i12=some (.obj [.v (.complex .f64 (hbit m.1) (hbit m.2)), .sl (L.map bp) ql] 57):=(bz (by simp)).trans k12
       simp only [go_sem];refine .stage (pick K [i3,i12]) [0,1,2,3,4,5,6,7] [8] bt (by kernel_rfl) ?_
       simp only [go_sem,s3,s10,s12,p3,p12,aA];refine (hdu _).pthen ?_;refine ⟨bt, ?_⟩;simp only [go_sem];refine hy.app (zs:=(dL obls m).map bp) (by rw [uO]; decide) (by simp only [go_sem,ne_eq,not_false_eq_true]) (fun k hk=>hk) (by rw [uO]; exact bl (f:=bp) (fun _=>rfl) _) (by rw [uO]; exact bl (f:=bp) (fun _=>rfl) _) (by simp only [go_sem,VA]; have:=jM obls m; omega) fun y2 K2 hy2 kp2=> ?_
       obtain ⟨q2,eq2⟩:=hy2.row;subst eq2;have m3:=kp2 _ _ _ k3;have m12:=kp2 _ _ _ k12;have m6:=kp2 _ _ _ k6;refine ⟨gZ fun j hj=> ?_, ?_⟩
       ·simp only [List.mem_cons,List.not_mem_nil,or_false] at hj
        rcases hj with rfl|rfl
        ·rw [m3,k3]
        ·rw [m12,k12]
       simp only [go_sem,s12];refine ⟨cO,fun _ _ e=>(by cases e), ?_⟩
       simp only [go_sem,s6,s12,m12];refine ⟨fun _ _ e=>(by cases e), ?_⟩
       simp only [go_sem,aj,n126.symm,m6];exact .mk (rsA (m,L++dL obls m)) (o8 (L++dL obls m) m (by simp only [List.map_append]) _) (((hsH.trans hy2.1).put (hsH.none h12) _).put n6' _) ⟨by rw [hjp,if_neg (by decide),if_neg (by decide),if_neg hne,hL],rfl⟩
    case false=>
     have e1:m≠aN:=by simpa using dp
     have e2:m≠bR:=by simpa using dd
     simp only [go_sem,r1,r6,npe,nde,dp,dd,k6];exact .mk (rsA (m,[])) (o8 [] m rfl _) (hsH.put n6' _) ⟨by rw [hjp,if_neg (by decide),if_neg (by decide),if_pos ⟨e1,e2⟩],rfl⟩
set_option maxRecDepth 100000 in
theorem xQ:∀(n d:Nat),d+n=5→∀(p:bB),lB d p→∀(gs:List bh),pV gs→∀(h:Heap),ak Tryz.prog 45 [aK p,bE gs] h fun r h' =>r=rsA (dO gs p)∧h' =h
 |0,d,hd, .mk id set alg tgt rules kids obls,hE,gs,hf,h=>by
  simp only [lB] at hE;omega
 |n+1,d,hd, .mk id set alg tgt rules kids obls,hE,gs,hf,h=>by
  have ih:=xQ n (d+1) (by omega)
  simp only [lB,oN] at hE;obtain ⟨_,_,ha1,ha2,_,_,hT,hO,hR,hK,hRE,hKE⟩:=hE;have hob:=(jF hO).1;have hmt:=fun G=>HK tgt (zJ hT) gs hf G
  have hev:dO gs (.mk id set alg tgt rules kids obls)=if ku gs tgt=0 then (naM,[]) else lP alg obls (ku gs tgt) (rules.map (gy gs)++kids.map (dO gs)):=by simp only [dO,rq]
  have hjo:=fun (ht:ku gs tgt=1∨ku gs tgt=2) (q:Perm) (G:Heap)=>CM (id:=id) (set:=set) (alg:=alg) ⟨ha1,ha2⟩ (tgt:=tgt) (rules:=rules) (kids:=kids) (obls:=obls) (by omega) (ku gs tgt) ht (rules.map (gy gs)++kids.map (dO gs)) (fun x hx=>by
   rcases List.mem_append.1 hx with hx|hx
   ·obtain ⟨r,_,rfl⟩:=List.mem_map.1 hx; exact xT _ _ _
   ·obtain ⟨r,_,rfl⟩:=List.mem_map.1 hx; exact zm gs r) (by simp; omega) (B:=10000000) (Nat.le_refl _) (fun x hx=>by
   rcases List.mem_append.1 hx with hx|hx
   ·obtain ⟨r,hr,rfl⟩:=List.mem_map.1 hx
    have h1:=xS r (ku gs r.tgt) (nO gs r.cond);have h2:=(jF (hRE r hr).2.2.2).1
    show (kI r (ku gs r.tgt) (nO gs r.cond)).2.length≤_
    omega
   ·obtain ⟨r,hr,rfl⟩:=List.mem_map.1 hx
    have h1:=zl gs n (d+1) r (by omega) (hKE r hr)
    have h2:oB n≤oB 4:=by
     have:n≤4:=by omega
     rcases (show n=0∨n=1∨n=2∨n=3∨n=4 by omega) with rfl|rfl|rfl|rfl|rfl<;>decide
    exact Nat.le_trans h1 (Nat.le_trans h2 (by decide))) q G
  have hrl:=fun (r:cQ) (hr:BD r) (G:Heap)=>EM r hr gs hf G
  have hml:=HJ gs tgt;obtain ⟨t,et⟩:∃t,ku gs tgt=t:=⟨_,rfl⟩;rw [et] at hmt hjo hev hml;simp only [aK,bE,aX,aU,aA] at hmt hjo hrl;have uR:=Pr;refine ak.body hU hm Tryz.func45 rfl (by kernel_rfl) 50 rfl [.cell 4 57] rfl (Vz rfl) (fun hwf=> ?_)
  simp only [go_sem,aK,bE,aX,aU,aA];intro i2 h2;simp only [go_sem];intro i4 h4;have n42:=aE h4;have n4' :=au h4;obtain ⟨H0,eH⟩:∃H0,upd (upd h i2 (some (.obj [.s id, .v (.bool set), .v (.int .i64 alg), .sl (tgt.map cN) .no, .sl (rules.map aC) .no, .sl (kids.map aK) .no, .sl (obls.map bp) .no] 37))) i4 (some (.obj [.v (.complex .f64 0 0), .sl [] .full] 57))=H0:=⟨_,rfl⟩;have hH0:Ab.Sub h H0:=by rw [←eH]; exact ((Sub.refl h).put h2 _).put n4' _
  have g2:H0 i2=some (.obj [.s id, .v (.bool set), .v (.int .i64 alg), .sl (tgt.map cN) .no, .sl (rules.map aC) .no, .sl (kids.map aK) .no, .sl (obls.map bp) .no] 37):=by rw [←eH,ag _ _ n42.symm,ah]
  have g4:H0 i4=some (.obj [.v (.complex .f64 0 0), .sl [] .full] 57):=by rw [←eH,ah]
  simp only [go_sem,aj,n42.symm];rw [eH];clear eH;refine (hmt _).pthen ?_;cases dt:((t:Int)==0)
  case true=>
   have e0:t=0:=by have:(t:Int)=0:=(by simpa using dt); omega
   simp only [go_sem,dt,g4];exact .mk (rsA (naM,[])) (o8 [] naM rfl _) (hH0.put n4' _) ⟨by rw [hev,if_pos e0],rfl⟩
  have ht0:t≠0:=by rintro rfl; simp at dt
  have ht12:t=1∨t=2:=by omega
  rw [if_neg ht0] at hev;simp only [go_sem,dt,g2,VA];refine .intro (fun m ρ H=>∃(i:Nat) (y:AV),Acc U 57 H0 H y (((rules.map (gy gs)).take i).map rsA)∧i≤rules.length∧m=rules.length - i∧lk ρ 1=some (.sl (gs.map jD) .no)∧lk ρ 2=some (.ptr i2 0)∧lk ρ 4=some (.ptr i4 0)∧lk ρ 5=some (.v (.int .i64 t))∧lk ρ 6=some y∧lk ρ 19=some (.sl (rules.map aC) .no)∧lk ρ 20=some (.v (.int .i64 rules.length))∧lk ρ 21=some (.v (.int .i64 i))) rules.length ?_ ?_
  ·refine ⟨0, .sl [] .full, .full (.refl _),by omega,rfl, ?_, ?_, ?_, ?_, ?_, ?_, ?_, ?_⟩<;>simp only [go_sem]
  ·rintro m ρ H ⟨i,y,hy,hi,rfl,r1,r2,r4,r5,r6,r19,r20,r21⟩
   obtain ⟨qy,eqy⟩:=hy.row;subst eqy;simp only [go_sem,r20,r21];refine .intro (fun e=> ?_) (fun e=> ?_)
   ·have hlt:i<rules.length:=VH e
    have w1:=VG i (by omega)
    have hsn:((rules.map (gy gs)).take (i+1)).map rsA=((rules.map (gy gs)).take i).map rsA++ [rsA (gy gs rules[i])]:=by
     rw [List.take_succ_eq_append_getElem (by simpa using hlt),List.map_append,VB]; rfl
    have ix:=fun k=>fc.eq (xs:=rules.map aC) (sz:=5) i (by simpa using hlt) (by rw [VB]; rfl) k
    rw [VB] at ix;have hre:=hRE _ (VF hlt);obtain ⟨x,ex⟩:∃x,rules[i]=x:=⟨_,rfl⟩;rw [ex] at ix hsn hre;have hr1:=hrl x hre;simp only [aC,aU,aA] at ix hr1;simp only [go_sem,r19,r21,ix];intro i8 h8;simp only [go_sem,r1,r6];refine (hr1 _).pthen ?_;simp only [go_sem,rsA,aR,aA];refine (hy.sub (.ai h8)).app (zs:= [rsA (gy gs x)]) (by rw [uR]; decide) (by simp only [go_sem,ne_eq,not_false_eq_true]) (fun k hk=>hk) (by rw [uR]; exact yA _) (by rw [uR]; intro z hz; rw [List.mem_singleton.1 hz]; rfl) (by simp only [go_sem,VA,List.length_take,List.length_cons,List.length_nil]; omega) fun y' H' hy' kp=> ?_
    simp only [go_sem,r21,w1];refine ⟨_, ?_,i+1,y',by rw [hsn]; exact hy',by omega,rfl, ?_, ?_, ?_, ?_, ?_, ?_, ?_, ?_⟩
    ·omega
    all_goals simp only [go_sem,r1,r2,r4,r5,r19,r20]
   ·have hge:i=rules.length:=by have:=VD e; omega
    subst hge;have htl:(rules.map (gy gs)).take rules.length=rules.map (gy gs):=List.take_of_length_le (by simp)
    rw [htl] at hy r6;have k2:=hy.1 _ _ g2;simp only [go_sem,r2,k2,VA];refine .intro (fun m ρ H=>∃(i:Nat) (y:AV),Acc U 57 H0 H y ((rules.map (gy gs)++(kids.map (dO gs)).take i).map rsA)∧i≤kids.length∧m=kids.length - i∧lk ρ 1=some (.sl (gs.map jD) .no)∧lk ρ 2=some (.ptr i2 0)∧lk ρ 4=some (.ptr i4 0)∧lk ρ 5=some (.v (.int .i64 t))∧lk ρ 6=some y∧lk ρ 33=some (.sl (kids.map aK) .no)∧lk ρ 34=some (.v (.int .i64 kids.length))∧lk ρ 35=some (.v (.int .i64 i))) kids.length ?_ ?_
    ·refine ⟨0,_,by rw [List.take_zero,List.append_nil]; exact hy,by omega,rfl, ?_, ?_, ?_, ?_, ?_, ?_, ?_, ?_⟩<;>simp only [go_sem,r1,r2,r4,r5,r6]
    ·rintro m ρ2 H2 ⟨i,y,hy,hi,rfl,s1,s2,s4,s5,s6,s33,s34,s35⟩
     obtain ⟨qy,eqy⟩:=hy.row;subst eqy;simp only [go_sem,s34,s35];refine .intro (fun e=> ?_) (fun e=> ?_)
     ·have hlt:i<kids.length:=VH e
      have w1:=VG i (by omega)
      have hsn:(rules.map (gy gs)++(kids.map (dO gs)).take (i+1)).map rsA=(rules.map (gy gs)++(kids.map (dO gs)).take i).map rsA++ [rsA (dO gs kids[i])]:=by
       rw [List.take_succ_eq_append_getElem (by simpa using hlt),←List.append_assoc,List.map_append,VB]; rfl
      have ix:=fun k=>fc.eq (xs:=kids.map aK) (sz:=7) i (by simpa using hlt) (by rw [VB,iT]) k
      rw [VB] at ix;have hke:=hKE _ (VF hlt);obtain ⟨x,ex⟩:∃x,kids[i]=x:=⟨_,rfl⟩;rw [ex] at ix hsn hke;have hr1:=ih x hke gs hf;obtain ⟨kid,kset,kalg,ktgt,krules,kkids,kobls⟩:=x;simp only [aK,aU,aA,bE,aX] at ix hr1;simp only [go_sem,s33,s35,ix];intro i10 h10;simp only [go_sem,s1,s6];refine (hr1 _).pthen ?_;simp only [go_sem,rsA,aR,aA];refine (hy.sub (.ai h10)).app (zs:= [rsA (dO gs (.mk kid kset kalg ktgt krules kkids kobls))]) (by rw [uR]; decide) (by simp only [go_sem,ne_eq,not_false_eq_true]) (fun k hk=>hk) (by rw [uR]; exact yA _) (by rw [uR]; intro z hz; rw [List.mem_singleton.1 hz]; rfl) (by simp only [go_sem,VA,List.length_take,List.length_cons,List.length_nil,VE]; omega) fun y' H' hy' kp=> ?_
      simp only [go_sem,s35,w1];refine ⟨_, ?_,i+1,y',by rw [hsn]; exact hy',by omega,rfl, ?_, ?_, ?_, ?_, ?_, ?_, ?_, ?_⟩
      ·omega
      all_goals simp only [go_sem,s1,s2,s4,s5,s33,s34]
     ·have hge:i=kids.length:=by have:=VD e; omega
      subst hge;have htl:(kids.map (dO gs)).take kids.length=kids.map (dO gs):=List.take_of_length_le (by simp)
      rw [htl] at hy s6;have k2:=hy.1 _ _ g2;have k4:=hy.1 _ _ g4;have hj:=fun G=>hjo ht12 qy G
      rw [←hev] at hj;obtain ⟨z,ez⟩:∃z,dO gs (.mk id set alg tgt rules kids obls)=z:=⟨_,rfl⟩;rw [ez] at hj;simp only [go_sem,s2,s5,s6,k2];refine (hj _).pthen ?_;simp only [go_sem,s4,rsA,aR,aA,k4];exact .mk (rsA z) (.refl _) ((hH0.trans hy.1).put n4' _) ⟨by rw [ez]; rfl,rfl⟩
theorem Aw (p:bB) (hp:gb p=0) (gs:List bh) (hf:pV gs) (h:Heap):ak Tryz.prog 17 [aK p,bE gs] h fun r h' =>r= .tup [rsA (dO gs p), .v (.int .i64 0)]∧h' =h:=by
 have hd:=fun G=>xQ 4 1 rfl p (pg hp) gs hf G
 have hr:=fun G=>rY p G
 rw [hp] at hr;obtain ⟨z,ez⟩:∃z,dO gs p=z:=⟨_,rfl⟩;rw [ez] at hd⊢;obtain ⟨id,set,alg,tgt,rules,kids,obls⟩:=p;simp only [aK,aU,aA,bE] at hd hr;refine ak.body hU hm Tryz.func17 rfl (by kernel_rfl) 13 rfl [.cell 4 57, .tmp 5] rfl (Vz rfl) (fun hwf=> ?_)
 simp only [go_sem,aK,bE,aU,aA];intro i2 h2;simp only [go_sem];intro i4 h4;have n42:=aE h4;have n4:=au h4;have hs:∀x y,Ab.Sub h (upd (upd h i2 x) i4 y):=fun x y=>((Sub.refl h).put h2 x).put n4 y
 simp only [go_sem,aj,n42.symm];refine (hr _).pthen ?_;simp only [go_sem,aj,n42.symm];refine (hd _).pthen ?_;simp only [go_sem,rsA,aR,aA];exact .mk _ (.refl _) (hs _ _) ⟨rfl,rfl⟩
end Go.Proofs.YtnlbeamjpefpfaaGreatDoor
namespace Go.Bf
open Go Go.Ab Go.Proofs.YtnlbeamjpefpfaaGreatDoor
structure nY where
 err:Int
 mark:aS
 glass:Bool
 val:bW
 hidden:Bool
 at_:Int
structure Ep where
 op:OpD
 version:Int
 mark:aS
 glass:Bool
 obls:List cA
def Ko:OpD:=⟨0,[],[],[],[],ay,0,[],[],false⟩
def uS:Ep:=⟨Ko,0,naM,false,[]⟩
def mU:Txt:= [103,108,97,115,115]
def mL (s:an) (r:mo):Bool:=r.isOpen && decide (100≤s.tick - r.tick)
def AZ (s:an) (subj:Txt):Bool:=s.reviews.any fun r=>r.subj==subj && mL s r
def pJ (s:an) (o:OpD) (m:aS):Bool:=o.glass && (m==bR||m==naM) && ux s.roles ⟨o.subj,mU⟩ && !AZ s o.subj
def wG (s:an) (o:OpD) (reason:Txt):mo:=⟨(s.reviews.length:Int)+1,s.tick,o.subj,o.case,iL o.kind,reason,true⟩
def dD (s:an) (o:OpD) (reason:Txt):an:= {s with reviews:=s.reviews++ [wG s o reason]}
def jg (l:List cA) (field:Txt):Bool:=l.any fun x=>x.kind==2 && x.arg==field
def gM (cs:List aL) (id:Txt):Nat:=cs.findIdx fun c=>c.id==id
def ij (s:an) (o:OpD) (what:Txt):an:=
 if gM s.cases o.case<s.cases.length∧o.kind≠6 then {s with cases:=s.cases.modify (gM s.cases o.case) fun c=>iG s c o.subj what} else s
def fq (o:OpD) (done:Bool) (s:an) (x:cA):an:=
 if x.kind=1∧done=true then ij s o x.arg
 else if x.kind=3 then dD s o x.arg
 else if x.kind=4 then {s with notices:=s.notices++ [⟨s.tick,o.case,x.arg⟩]}
 else s
def cY (s:an) (o:OpD) (l:List cA) (done:Bool):an:=l.foldl (fq o done) s
def lS (s:an):Bool:=decide (256<s.reviews.length)||decide (256<s.notices.length)||s.cases.any fun c=>decide (256<c.log.length)
def eE (s:an) (o:OpD):jc:=dO (fy s o) s.policy
def hD (s:an) (o:OpD):Int×Int:=if bx s o=0∧o.kind=7 then ((aM o.text).2.1,(aM o.text).2.2) else (bx s o,0)
def dF (s:an) (o:OpD):Bool:=pJ s o (eE s o).1
def nV (s:an) (o:OpD):Bool:=decide ((eE s o).1=aN)||dF s o
def cr (s:an) (o:OpD):an:=
 let s1:=if dF s o then dD s o o.reason else s
 cY (if nV s o then cE aM s1 o else s1) o (eE s o).2 (nV s o)
def lD (s:an) (o:OpD):nY:=
 ⟨if nV s o then 0 else 12,(eE s o).1,dF s o,if nV s o && o.kind==2 && !jg (eE s o).2 o.field then eD (bn s.cases o.case).fields o.field else ay,nV s o && o.kind==2 && jg (eE s o).2 o.field,0⟩
def bw (s:an) (o:OpD):an×nY×Ep×Int:=
 if (hD s o).1≠0 then (s,⟨(hD s o).1,naM,false,ay,false,(hD s o).2⟩,uS,(hD s o).1)
 else if lS (cr s o) then (s,⟨6,naM,false,ay,false,0⟩,uS,6)
 else (cr s o,lD s o,⟨o,s.version,(eE s o).1,dF s o,(eE s o).2⟩,0)
theorem vQ (s:an) (o:OpD) (w:Txt):(ij s o w).tick=s.tick∧(ij s o w).roles=s.roles∧(ij s o w).policy=s.policy∧(ij s o w).version=s.version∧(ij s o w).reviews=s.reviews∧(ij s o w).notices=s.notices:=by
 unfold ij;split<;>simp
theorem As (o:OpD) (done:Bool) (s:an) (x:cA):(fq o done s x).tick=s.tick∧(fq o done s x).roles=s.roles∧(fq o done s x).policy=s.policy∧(fq o done s x).version=s.version:=by
 unfold fq;split
 ·have:=vQ s o x.arg; exact ⟨this.1,this.2.1,this.2.2.1,this.2.2.2.1⟩
 ·split
  ·exact ⟨rfl,rfl,rfl,rfl⟩
  ·split<;>exact ⟨rfl,rfl,rfl,rfl⟩
theorem Cn (o:OpD) (done:Bool):∀(l:List cA) (s:an),(cY s o l done).tick=s.tick∧(cY s o l done).roles=s.roles∧(cY s o l done).policy=s.policy∧(cY s o l done).version=s.version
 | [],s=>⟨rfl,rfl,rfl,rfl⟩
 |x::l,s=>by
  obtain ⟨a1,a2,a3,a4⟩:=As o done s x;obtain ⟨b1,b2,b3,b4⟩:=Cn o done l (fq o done s x);exact ⟨b1.trans a1,b2.trans a2,b3.trans a3,b4.trans a4⟩
def gw (o:OpD) (a b:List mo):Prop:=∃c,b=a++c∧∀i (h:i<c.length),c[i].id=((a.length+i+1:Nat):Int)∧c[i].isOpen=true∧c[i].subj=o.subj
theorem gw.refl (o:OpD) (a:List mo):gw o a a:=⟨[],by simp,fun i h=>by cases h⟩
theorem gw.trans {o:OpD} {a b c:List mo} (h1:gw o a b) (h2:gw o b c):gw o a c:=by
 obtain ⟨x,rfl,hx⟩:=h1;obtain ⟨y,rfl,hy⟩:=h2;refine ⟨x++y,by simp,fun i h=> ?_⟩
 by_cases hi:i<x.length
 ·rw [List.getElem_append_left hi]; exact hx i hi
 ·rw [List.getElem_append_right (by omega)]
  have:=hy (i - x.length) (by simp at h; omega)
  refine ⟨?_,this.2⟩;rw [this.1,VE]
  congr 1
  omega
theorem gw.open (s:an) (o:OpD) (w:Txt):gw o s.reviews (dD s o w).reviews:=⟨[wG s o w],rfl,fun i h=>by
 have:i=0:=by simpa using h
 subst this;exact ⟨by simp [wG],rfl,rfl⟩⟩
theorem gw.duties (o:OpD) (done:Bool):∀(l:List cA) (s:an),gw o s.reviews (cY s o l done).reviews
 | [],s=> .refl o _
 |x::l,s=>by
  have:gw o s.reviews (fq o done s x).reviews:=by
   unfold fq;split
   ·rw [(vQ s o x.arg).2.2.2.2.1]; exact .refl o _
   ·split
    ·exact .open s o _
    ·split<;>exact .refl o _
  exact this.trans (gw.duties o done l _)
structure Dv (c:aL):Prop where
 id:bf c.id=true
 owner:bf c.owner=true
 state:c.state∈nE
 asc:B0 c.fields
 nfields:c.fields.length≤16
 field:∀f∈c.fields,bf f.name=true∧b7 f.val=true∧eqV f.val ay=false
 log1:1≤c.log.length
 actor:∀x∈c.log,bf x.actor=true∧i64 x.tick
theorem su.w {c:aL} (h:su c):Dv c:=⟨h.id,h.owner,h.state,h.asc,h.nfields,h.field,h.log1,h.actor⟩
theorem Dv.ok {c:aL} (h:Dv c) (hl:c.log.length≤256):su c:=⟨h.id,h.owner,h.state,h.asc,h.nfields,h.field,h.log1,hl,h.actor⟩
structure ko (k:Nat) (s:an):Prop where
 tick:0≤s.tick∧s.tick≤1099511627776
 asc:Asc s.cases
 ncases:s.cases.length≤64
 case:∀c∈s.cases,Dv c
 roles:s.roles.length≤64
 role:∀r∈s.roles,bf r.subj=true∧bf r.role=true
 pol:gb s.policy=0
 ver:0≤s.version∧s.version≤k
theorem cX.w {k:Nat} {s:an} (h:cX k s):ko k s:=⟨h.tick,h.asc,h.ncases,fun c hc=>(h.case c hc).w,h.roles,h.role,h.pol,h.ver⟩
theorem ko.ok {k:Nat} {s:an} (h:ko k s) (ho:lS s=false):cX k s:=by
 unfold lS at ho;simp only [Bool.or_eq_false_iff,decide_eq_false_iff_not] at ho;obtain ⟨⟨h1,h2⟩,h3⟩:=ho;refine ⟨h.tick,h.asc,h.ncases,fun c hc=>(h.case c hc).ok ?_,by omega,by omega,h.roles,h.role,h.pol,h.ver⟩
 have:=List.any_eq_false.1 h3 c hc;simpa using this
theorem Dm {k:Nat} {s:an} (o:OpD) (w:Txt) (h:ko k s):ko k (dD s o w):= {h with}
theorem Dl {k:Nat} {s:an} {o:OpD} (hn:bf o.subj=true) (w:Txt) (h:ko k s):ko k (ij s o w):=by
 unfold ij;split
 ·refine {h with asc:=zf (jE fun x=>rfl) h.asc,ncases:=by simpa using h.ncases,case:= ?_}
  intro d hd;rcases mem_modify hd with hd|⟨hi,rfl⟩
  ·exact h.case d hd
  ·have hc:=h.case _ (VF hi)
   refine ⟨hc.id,hc.owner,hc.state,hc.asc,hc.nfields,hc.field,by simp [iG], ?_⟩
   intro x hx;simp only [iG,List.mem_append,List.mem_singleton] at hx;rcases hx with hx|rfl
   ·exact hc.actor x hx
   ·exact ⟨hn,by have:=h.tick; constructor<;>simp only<;>omega⟩
 ·exact h
theorem Dk {k:Nat} {o:OpD} (hn:bf o.subj=true) (done:Bool) {s:an} (x:cA) (h:ko k s):ko k (fq o done s x):=by
 unfold fq;split
 ·exact Dl hn _ h
 ·split
  ·exact Dm o _ h
  ·split
   ·exact {h with}
   ·exact h
theorem rZ {k:Nat} {o:OpD} (hn:bf o.subj=true) (done:Bool):∀(l:List cA) {s:an},ko k s→ko k (cY s o l done)
 | [],s,h=>h
 |x::l,s,h=>rZ hn done l (Dk hn done x h)
theorem zD {k:Nat} {s:an} (o:OpD) (w:Txt) (h:cX k s) (hr:s.reviews.length≤999):cX k (dD s o w):= {h with nrev:=by simp [dD]; omega}
structure jK (k:Nat) (s:an):Prop extends cX k s where
 ids:∀i (h:i<s.reviews.length),s.reviews[i].id=((i+1:Nat):Int)
 nr:s.reviews.length≤256
 nn:s.notices.length≤256
theorem E4:jK 0 qH:= {FX with ids:=fun i h=>(by cases h),nr:=by decide,nn:=by decide}
theorem wz {s:an} {o:OpD} (h:(hD s o).1=0):bx s o=0∧eP o=true∧(o.kind=7→(aM o.text).2.1=0):=by
 unfold hD at h;have hr:bx s o=0:=by
  split at h
  ·rename_i hc; exact hc.1
  ·exact h
 have hf:eP o=true:=by
  unfold bx at hr;cases h:eP o with
  |true=>rfl
  |false=>rw [h] at hr; simp at hr
 exact ⟨hr,hf,fun hk=>by rw [if_pos ⟨hr,hk⟩] at h; exact h⟩
theorem Gy {k:Nat} {s:an} {o:OpD} (h:jK k s) (hp:(hD s o).1=0):ko (k+1) (cr s o):=by
 have hn:=(rz (wz hp).2.1).subj;have h1:cX k (if dF s o then dD s o o.reason else s):=by
  split
  ·exact zD o _ h.tocX (by have:=h.nr; omega)
  ·exact h.tocX
 unfold cr;refine rZ hn _ _ ?_;split
 ·exact (nF o h1).w
 ·have:=h1.w
  exact {this with ver:=⟨this.ver.1,by have:=this.ver.2; omega⟩}
def shut (r:mo):mo:= {r with isOpen:=false}
theorem sy (par:Txt→bB×Int×Int) (s:an) (o:OpD):(cE par s o).reviews=if bx s o=0∧o.kind=5 then s.reviews.modify (o.review - 1).toNat shut else s.reviews:=by
 unfold cE
 by_cases hr:bx s o=0
 ·rw [if_pos hr]
  unfold doD
  by_cases k1:o.kind=1
  ·simp [k1]
  ·by_cases k3:o.kind=3
   ·simp [k3]
   ·by_cases k4:o.kind=4
    ·simp [k4]
    ·by_cases k5:o.kind=5
     ·simp [k5,hr]; rfl
     ·simp only [k1,k3,k4,k5,if_false,and_false]
      split
      ·split<;>rfl
      ·split
       ·split<;>rfl
       ·split<;>rfl
 ·simp [hr]
theorem vu {o:OpD} (h:eP o=true) (hg:o.glass=true):1≤o.kind∧o.kind≤4:=by
 simp only [eP,Bool.and_eq_true] at h;have:=h.1.1.1.1.1.1.2;unfold jR at this;rw [hg] at this;simp only [if_true,Bool.and_eq_true,sP,decide_eq_true_eq] at this;exact this.1.1
theorem AJ {s:an} {o:OpD} (h:dF s o=true):o.glass=true:=by
 unfold dF pJ at h;simp only [Bool.and_eq_true] at h;exact h.1.1.1
structure B3 (s:an) (o:OpD) (t:an) (r:nY) (e:Int):Prop where
 len:s.reviews.length≤t.reviews.length
 old:∀i (h:i<s.reviews.length) (h' :i<t.reviews.length),(e=0∧r.err=0∧o.kind=5∧o.review=((i+1:Nat):Int)→o.subj≠s.reviews[i].subj∧s.reviews[i].isOpen=true∧t.reviews[i].isOpen=false∧t.reviews[i].id=s.reviews[i].id)∧
  (¬(e=0∧r.err=0∧o.kind=5∧o.review=((i+1:Nat):Int))→t.reviews[i]=s.reviews[i])
 new:∀i (h:i<t.reviews.length),s.reviews.length≤i→t.reviews[i].id=((i+1:Nat):Int)∧t.reviews[i].isOpen=true∧t.reviews[i].subj=o.subj
 glass:r.glass=true→∃h:s.reviews.length<t.reviews.length,t.reviews[s.reviews.length].reason=o.reason
theorem B3.same (s:an) (o:OpD) (e:Int) (r:nY) (he:e≠0) (hg:r.glass=false):B3 s o s r e:=
 ⟨Nat.le_refl _,fun i h h' =>⟨fun hc=>(he hc.1).elim,fun _=>rfl⟩,fun i h h' =>by omega,fun h=>by rw [hg] at h; cases h⟩
theorem D4 {o:OpD} {a b:List mo} (h:gw o a b):a.length≤b.length∧(∀i (h1:i<a.length) (h2:i<b.length),b[i]=a[i])∧∀i (h1:i<b.length),a.length≤i→b[i].id=((i+1:Nat):Int)∧b[i].isOpen=true∧b[i].subj=o.subj:=by
 obtain ⟨c,rfl,hc⟩:=h;refine ⟨by simp,fun i h1 h2=>by rw [List.getElem_append_left h1],fun i h1 h2=> ?_⟩
 rw [List.getElem_append_right h2];have:=hc (i - a.length) (by simp at h1; omega)
 refine ⟨?_,this.2⟩;rw [this.1]
 congr 1
 omega
theorem Ad {s:an} {o:OpD} (hr:bx s o=0) (hf:eP o=true) (hk:o.kind=5):1≤o.review∧∃h:(o.review - 1).toNat<s.reviews.length,s.reviews[(o.review - 1).toNat].isOpen=true∧s.reviews[(o.review - 1).toNat].subj≠o.subj:=by
 have F:=rz hf;have hok:=F.ok;unfold okD at hok;simp only [hk,show¬(5:Int)=1 by decide,show¬((5:Int)=2∨(5:Int)=6) by decide,show¬(5:Int)=3 by decide,show¬(5:Int)=4 by decide,if_false,if_true,decide_eq_true_eq] at hok
 unfold bx at hr;rw [hf] at hr;simp only [hk,Bool.true_eq_false,show¬(5:Int)=1 by decide,show¬(2≤(5:Int)∧(5:Int)≤4) by decide,if_false,if_true] at hr
 unfold fF ua at hr;rw [if_pos (by omega:1≤o.review)] at hr
 refine ⟨by omega, ?_⟩
 cases hx:s.reviews[(o.review - 1).toNat]? with
 |none=>rw [hx] at hr; simp at hr
 |some r=>
  rw [hx] at hr;obtain ⟨h,rfl⟩:=List.getElem?_eq_some_iff.1 hx;refine ⟨h, ?_, ?_⟩
  ·cases ho:s.reviews[(o.review - 1).toNat].isOpen with
   |true=>rfl
   |false=>simp only [ho,if_true] at hr; exact absurd hr (by decide)
  ·intro e
   simp only [e,if_true] at hr;split at hr<;>simp at hr
theorem C6 {k:Nat} {s:an} {o:OpD} (h:jK k s):B3 s o (bw s o).1 (bw s o).2.1 (bw s o).2.2.2:=by
 unfold bw
 by_cases hp:(hD s o).1=0
 ·rw [if_neg (by simp [hp])]
  by_cases ho:lS (cr s o)=true
  ·rw [if_pos ho]; exact .same _ _ _ _ (by show (6:Int)≠0; decide) rfl
  ·rw [if_neg ho]
   obtain ⟨hr,hf,_⟩:=wz hp;simp only
   by_cases hk:o.kind=5
   ·have hg:dF s o=false:=by
     cases hg:dF s o with
     |false=>rfl
     |true=>have:=vu hf (AJ hg); omega
    obtain ⟨hv1,hlt,hop,hsu⟩:=Ad hr hf hk
    by_cases hd:nV s o=true
    ·have hb:cr s o=cY (cE aM s o) o (eE s o).2 true:=by
      unfold cr; simp [hg,hd]
     have hrev:(cE aM s o).reviews=s.reviews.modify (o.review - 1).toNat shut:=by
      rw [sy,if_pos ⟨hr,hk⟩]
     have hon:=gw.duties o true (eE s o).2 (cE aM s o);rw [←hb,hrev] at hon;obtain ⟨a1,a2,a3⟩:=D4 hon;have hlm:(s.reviews.modify (o.review - 1).toNat shut).length=s.reviews.length:=by simp
     rw [hlm] at a1;refine ⟨a1,fun i h1 h2=>⟨fun hc=> ?_,fun hc=> ?_⟩,fun i h1 h2=>a3 i h1 (by rw [hlm]; exact h2),fun hgl=> ?_⟩
     ·have hi:(o.review - 1).toNat=i:=by omega
      subst hi;rw [a2 _ (by rw [hlm]; exact h1) h2,List.getElem_modify,if_pos rfl]
      exact ⟨fun e=>hsu e.symm,hop,rfl,rfl⟩
     ·have hi:(o.review - 1).toNat≠i:=fun e=>hc ⟨rfl,by simp [lD,hd],hk,by omega⟩
      rw [a2 _ (by rw [hlm]; exact h1) h2,List.getElem_modify,if_neg hi]
     ·simp [lD,hg] at hgl
    ·have hd:nV s o=false:=by simpa using hd
     have hb:cr s o=cY s o (eE s o).2 false:=by
      unfold cr; simp [hg,hd]
     have hon:=gw.duties o false (eE s o).2 s;rw [←hb] at hon;obtain ⟨a1,a2,a3⟩:=D4 hon;refine ⟨a1,fun i h1 h2=>⟨fun hc=> ?_,fun hc=>a2 i h1 h2⟩,a3,fun hgl=> ?_⟩
     ·have:=hc.2.1
      simp [lD,hd] at this
     ·simp [lD,hg] at hgl
   ·have hs1:gw o s.reviews (if dF s o then dD s o o.reason else s).reviews:=by
     split
     ·exact .open s o _
     ·exact .refl o _
    have hs2:(if nV s o then cE aM (if dF s o then dD s o o.reason else s) o else (if dF s o then dD s o o.reason else s)).reviews=(if dF s o then dD s o o.reason else s).reviews:=by
     split
     ·rw [sy,if_neg (fun h=>hk h.2)]
     ·rfl
    have hd:=gw.duties o (nV s o) (eE s o).2 (if nV s o then cE aM (if dF s o then dD s o o.reason else s) o else (if dF s o then dD s o o.reason else s))
    rw [hs2] at hd;have hon:gw o s.reviews (cr s o).reviews:=hs1.trans hd;obtain ⟨a1,a2,a3⟩:=D4 hon;refine ⟨a1,fun i h1 h2=>⟨fun hc=>(hk hc.2.2.1).elim,fun hc=>a2 i h1 h2⟩,a3,fun hgl=> ?_⟩
    have hg:dF s o=true:=hgl;have hd' :=hd;simp only [hg,↓reduceIte] at hd';obtain ⟨b1,b2,_⟩:=D4 hd';have hb:(cr s o)=cY (if nV s o then cE aM (dD s o o.reason) o else dD s o o.reason) o (eE s o).2 (nV s o):=by
     unfold cr; simp [hg]
    rw [←hb] at b1 b2;have hl:(dD s o o.reason).reviews.length=s.reviews.length+1:=by simp [dD]
    refine ⟨by omega, ?_⟩
    rw [b2 s.reviews.length (by omega) (by omega)]
    simp [dD,wG]
 ·rw [if_pos (by simpa using hp)]
  exact .same _ _ _ _ (by simpa using hp) rfl
theorem jK.up {k:Nat} {s:an} (h:jK k s):jK (k+1) s:= {h with ver:=⟨h.ver.1,by have:=h.ver.2; omega⟩}
theorem CC {k:Nat} {s:an} (o:OpD) (h:jK k s):jK (k+1) (bw s o).1:=by
 have hrl:=C6 (o:=o) h;unfold bw at hrl⊢
 by_cases hp:(hD s o).1=0
 ·rw [if_neg (by simp [hp])] at hrl⊢
  by_cases ho:lS (cr s o)=true
  ·rw [if_pos ho]; exact h.up
  ·rw [if_neg ho] at hrl⊢
   have ho:lS (cr s o)=false:=by simpa using ho
   have hw:=(Gy h hp).ok ho;unfold lS at ho;simp only [Bool.or_eq_false_iff,decide_eq_false_iff_not] at ho;refine {hw with ids:=fun i hi=> ?_,nr:=by have:=ho.1.1; simp only; omega,nn:=by have:=ho.1.2; simp only; omega}
   by_cases hlt:i<s.reviews.length
   ·obtain ⟨h1,h2⟩:=hrl.old i hlt hi
    by_cases hc:(0:Int)=0∧(lD s o).err=0∧o.kind=5∧o.review=((i+1:Nat):Int)
    ·rw [(h1 hc).2.2.2]; exact h.ids i hlt
    ·rw [h2 hc]; exact h.ids i hlt
   ·exact (hrl.new i hi (by omega)).1
 ·rw [if_pos (by simpa using hp)]; exact h.up
structure PD (s:an) (o:OpD):Prop where
 err:(bw s o).2.2.2≠0→(bw s o).1=s∧(bw s o).2.1.err=(bw s o).2.2.2∧(bw s o).2.1.mark=naM
 ok:(bw s o).2.2.2=0→(bw s o).2.1.mark=(eE s o).1∧(bw s o).2.2.1=⟨o,s.version,(eE s o).1,dF s o,(eE s o).2⟩∧(bw s o).2.1.glass=dF s o∧(bw s o).1=cr s o∧(bw s o).2.1=lD s o
theorem CB {s:an} {o:OpD} (h:dF s o=true):o.glass=true∧((eE s o).1=bR∨(eE s o).1=naM)∧ux s.roles ⟨o.subj,mU⟩=true∧AZ s o.subj=false:=by
 unfold dF pJ at h;simp only [Bool.and_eq_true,Bool.or_eq_true,beq_iff_eq,Bool.not_eq_true'] at h;exact ⟨h.1.1.1,h.1.1.2,h.1.2,h.2⟩
theorem mA {s:an} {o:OpD} (h:(eE s o).1=aN):dF s o=false:=by
 cases hg:dF s o with
 |false=>rfl
 |true=>
  rcases (CB hg).2.1 with e|e<;>rw [h] at e<;>cases e
theorem vi (o:OpD) (done:Bool):∀(l:List cA) (s:an),(cY s o l done).cases.length=s.cases.length
 | [],s=>rfl
 |x::l,s=>by
  have:(fq o done s x).cases.length=s.cases.length:=by
   unfold fq;split
   ·unfold ij; split<;>simp
   ·split
    ·rfl
    ·split<;>rfl
  exact (vi o done l _).trans this
def Kz (alg:Int):bB:= .mk [112] false alg [] [] [] []
theorem CP (gs:List bh):dO gs eS=(aN,[]):=by
 simp [dO,jv,eS,ku,lP,fL,dM,dL,bR,aN]
theorem vv {s:an} {o:OpD} (hm:eE s o=(aN,[])) (hp:(hD s o).1=0) (ho:lS (cE aM s o)=false):bw s o=(cE aM s o,lD s o,⟨o,s.version,aN,false,[]⟩,0):=by
 have hg:dF s o=false:=mA (by rw [hm])
 have hd:nV s o=true:=by unfold nV; rw [hm]; rfl
 have hb:cr s o=cE aM s o:=by
  unfold cr;simp only [hd,hg,Bool.false_eq_true,if_false,if_true,hm];rfl
 unfold bw;rw [if_neg (by simp [hp]),hb,if_neg (by rw [ho]; simp),hm,hg]
theorem vJ {s:an} (h:s.policy=eS) (o:OpD):eE s o=(aN,[]):=by unfold eE; rw [h]; exact CP _
def qw:OpD:=⟨6,ld,ld,mU,[],ay,0,[],[],false⟩
def LS:Txt:= [112,111,108,105,99,121,32,112,32,100,101,110,121,117,110,108,101,115,115,32,123,32,125]
def Cl:OpD:=⟨7,ld,[],[],[],ay,0,LS,[],false⟩
def KL:Txt:= [102,105,114,101]
def Fv:OpD:=⟨1,ld,cT,[],[],ay,0,[],[],false⟩
def A9:OpD:=⟨1,ld,cT,[],[],ay,0,[],KL,true⟩
def qk:an:=⟨0,[],[],[],[⟨ld,mU⟩],eS,0⟩
def j6:an:=⟨0,[],[],[],[⟨ld,mU⟩],Kz 5,1⟩
def wI:mo:=⟨1,0,ld,cT,[110,101,119],KL,true⟩
def qn:an:=⟨0,[⟨cT,ld,gp,[],[⟨0,ld,[110,101,119]⟩]⟩],[wI],[],[⟨ld,mU⟩],Kz 5,1⟩
theorem K1:bw qH qw=(qk,⟨0,aN,false,ay,false,0⟩,⟨qw,0,aN,false,[]⟩,0):=by kernel_rfl
theorem K6:bw qk Cl=(j6,⟨0,aN,false,ay,false,0⟩,⟨Cl,0,aN,false,[]⟩,0):=by kernel_rfl
theorem Pj:bw j6 Fv=(j6,⟨12,bR,false,ay,false,0⟩,⟨Fv,1,bR,false,[]⟩,0):=by kernel_rfl
theorem K7:bw j6 A9=(qn,⟨0,bR,true,ay,false,0⟩,⟨A9,1,bR,true,[]⟩,0):=by kernel_rfl
def hiC (fs:List cJ) (log:List l7):aL:=⟨cT,l9,gp,fs,log⟩
def hiS (fs:List cJ) (log:List l7) (p:bB) (v:Int):an:=⟨0,[hiC fs log],[],[],[],p,v⟩
def nu (text:Txt):OpD:=⟨7,l9,[],[],[],ay,0,text,[],false⟩
theorem Ih {text:Txt} (h:text.length≤4096):eP (nu text)=true:=by
 have e0:bf []=false:=by kernel_rfl
 have e1:bf l9=true:=by kernel_rfl
 have t:cL (nu text)=true:=by
  simp only [cL,okD,nu,fU,gG,kJ,ay];simp
 simp only [eP,t];simp [nu,e1,jR,iu,eqV,ay,h]
theorem FG {s:an} {text:Txt} (h:text.length≤4096):bx s (nu text)=0:=by
 unfold bx;rw [Ih h];simp [nu]
theorem FF {s:an} {text:Txt} {p:bB} (hs:s.policy=eS) (h:text.length≤4096) (hp:aM text=(p,0,0)) (ho:lS s=false):(bw s (nu text)).1= {s with policy:=p,version:=s.version+1}:=by
 have hr:bx s (nu text)=0:=FG h;have hd:cE aM s (nu text)= {s with policy:=p,version:=s.version+1}:=by
  unfold cE;rw [if_pos hr];unfold doD;simp [nu,hp]
 have hpre:(hD s (nu text)).1=0:=by
  unfold hD;rw [if_pos ⟨hr,rfl⟩];simp [nu,hp]
 rw [vv (vJ hs _) hpre (by rw [hd]; exact ho),hd]
def rep (n:Nat) (t:Txt):Txt:=(List.replicate n t).flatten
def lgT:Txt:= [32,111,110,32,112,101,114,109,105,116,32,108,111,103,32,108,97]
def rvT:Txt:= [32,111,110,32,112,101,114,109,105,116,32,114,101,118,105,101,119,32,114,97]
def ntT:Txt:= [32,111,110,32,112,101,114,109,105,116,32,110,111,116,105,102,121,32,110,97]
def mb:Txt:= [112,111,108,105,99,121,32,112,32,102,105,114,115,116,32,123,32,112,101,114,109,105,116,32,114]
def laT:Txt:= [108,97]
def raT:Txt:= [114,97]
def naT:Txt:= [110,97]
def mS (a b c:Nat):Txt:=mb++rep a lgT++rep b rvT++rep c ntT++ [59,32,125]
def duO (a b c:Nat):List cA:=List.replicate a ⟨1,1,laT⟩++List.replicate b ⟨1,3,raT⟩++List.replicate c ⟨1,4,naT⟩
def duP (l:List cA):bB:= .mk [112] false 3 [] [⟨[114],false,[],[],l⟩] [] []
theorem GQ:∀a b c,a≤2→b≤2→c≤2→aM (mS a b c)=(duP (duO a b c),0,0)
 |0,0,0,_,_,_=>by kernel_rfl
 |0,0,1,_,_,_=>by kernel_rfl
 |0,0,2,_,_,_=>by kernel_rfl
 |0,1,0,_,_,_=>by kernel_rfl
 |0,1,1,_,_,_=>by kernel_rfl
 |0,1,2,_,_,_=>by kernel_rfl
 |0,2,0,_,_,_=>by kernel_rfl
 |0,2,1,_,_,_=>by kernel_rfl
 |0,2,2,_,_,_=>by kernel_rfl
 |1,0,0,_,_,_=>by kernel_rfl
 |1,0,1,_,_,_=>by kernel_rfl
 |1,0,2,_,_,_=>by kernel_rfl
 |1,1,0,_,_,_=>by kernel_rfl
 |1,1,1,_,_,_=>by kernel_rfl
 |1,1,2,_,_,_=>by kernel_rfl
 |1,2,0,_,_,_=>by kernel_rfl
 |1,2,1,_,_,_=>by kernel_rfl
 |1,2,2,_,_,_=>by kernel_rfl
 |2,0,0,_,_,_=>by kernel_rfl
 |2,0,1,_,_,_=>by kernel_rfl
 |2,0,2,_,_,_=>by kernel_rfl
 |2,1,0,_,_,_=>by kernel_rfl
 |2,1,1,_,_,_=>by kernel_rfl
 |2,1,2,_,_,_=>by kernel_rfl
 |2,2,0,_,_,_=>by kernel_rfl
 |2,2,1,_,_,_=>by kernel_rfl
 |2,2,2,_,_,_=>by kernel_rfl
 |a+3,_,_,h,_,_=>by omega
 |_,b+3,_,_,h,_=>by omega
 |_,_,c+3,_,_,h=>by omega
theorem Jz (gs:List bh) (l:List cA) (hl:∀o∈l,o.on=1):dO gs (duP l)=(aN,l):=by
 have hf:l.filter (fun o=>o.on==1 && aN==aN||o.on==2 && aN==bR)=l:=List.filter_eq_self.2 fun o ho=>by simp [hl o ho]
 simp only [dO,jv,duP,ku,List.foldl_nil,show¬(2:Nat)=0 by decide,if_false,List.map_cons,List.map_nil,List.append_nil,gy,kI,nO,List.isEmpty_nil,if_true,Bool.false_eq_true,show¬((2:Nat)=0∨(2:Nat)=2∧(2:Nat)=0) by decide,show¬((2:Nat)=1∨(2:Nat)=1) by decide,dL,hf,lP]
 simp [fL,firstM,dM,aN,bR,naM]
theorem Ox (a b c:Nat):∀o∈duO a b c,o.on=1:=by
 intro o ho;simp only [duO,List.mem_append,List.mem_replicate] at ho;rcases ho with (⟨_,rfl⟩|⟨_,rfl⟩)|⟨_,rfl⟩<;>rfl
def tkO (who:Txt) (n:Int):OpD:=⟨8,who,[],[],[],ay,n,[],[],false⟩
theorem Kg {who:Txt} {n:Int} (hw:bf who=true) (h1:0<n) (h2:n≤1099511627776):eP (tkO who n)=true:=by
 have t:cL (tkO who n)=true:=by
  simp only [cL,okD,tkO,fU,gG,kJ,ay];simp [h1,h2]
 have e2:bf []=false:=by kernel_rfl
 simp only [eP,t];simp [tkO,hw,jR,iu,eqV,ay]
theorem BR {s:an} {who:Txt} {n:Int} (hw:bf who=true) (h1:0<n) (h2:n≤1099511627776) (ht:s.tick≤1099511627776 - n):bx s (tkO who n)=0:=by
 unfold bx;rw [Kg hw h1 h2];have:¬s.tick>1099511627776 - n:=by omega
 simp [tkO];omega
theorem Kf {s:an} {who:Txt} {n:Int} (hw:bf who=true) (h1:0<n) (h2:n≤1099511627776) (ht:s.tick≤1099511627776 - n):cE aM s (tkO who n)= {s with tick:=s.tick+n}:=by
 unfold cE;rw [if_pos (BR hw h1 h2 ht)];simp [doD,tkO]
def duS (n:Int) (log:List l7) (p:bB) (v:Int):an:=⟨n,[hiC [] log],[],[],[],p,v⟩
def mvA:OpD:=⟨4,ld,cT,[],iK,ay,0,[],[],false⟩
theorem Ap (n:Int) (log:List l7) (p:bB) (v:Int):bH (duS n log p v).cases cT=true:=by
 simp [bH,findD,duS,hiC,geB,List.findIdx_cons,Op.bytesLess,cT]
theorem DI (n:Int) (log:List l7) (p:bB) (v:Int):findD (duS n log p v).cases cT=0:=by
 simp [findD,duS,hiC,geB,List.findIdx_cons,Op.bytesLess,cT]
theorem Jy (n:Int) (log:List l7) (p:bB) (v:Int):bn (duS n log p v).cases cT=hiC [] log:=by
 unfold bn;rw [if_pos (Ap n log p v),DI]; rfl
def Ao (n:Int) (i:Nat):mo:=⟨(i:Int)+1,n,ld,cT,[109,111,118,101],raT,true⟩
def duT (n:Int) (h0:l7) (a b c:Nat):an:=⟨n,[⟨cT,l9,iK,[],[h0,⟨n,ld,iK⟩]++List.replicate a ⟨n,ld,laT⟩⟩],(List.range b).map (Ao n),List.replicate c ⟨n,cT,naT⟩,[],duP (duO a b c),1⟩
theorem kH (n:Int) (h0:l7) (a b c:Nat) (ha:a≤2) (hb' :b≤2) (hc:c≤2):(bw (duS n [h0] (duP (duO a b c)) 1) mvA).1=duT n h0 a b c∧(bw (duS n [h0] (duP (duO a b c)) 1) mvA).2.1.err=0∧(bw (duS n [h0] (duP (duO a b c)) 1) mvA).2.2.2=0:=by
 have hm:eE (duS n [h0] (duP (duO a b c)) 1) mvA=(aN,duO a b c):=Jz _ _ (Ox a b c);have hg:dF (duS n [h0] (duP (duO a b c)) 1) mvA=false:=mA (by rw [hm])
 have hd:nV (duS n [h0] (duP (duO a b c)) 1) mvA=true:=by unfold nV; rw [hm]; rfl
 have hr:bx (duS n [h0] (duP (duO a b c)) 1) mvA=0:=by
  unfold bx;rw [show eP mvA=true by kernel_rfl]
  have e:bM (duS n [h0] (duP (duO a b c)) 1) mvA=0:=by
   unfold bM;rw [show mvA.case=cT from rfl,Ap,Jy]
   have:jf gp iK=true:=by kernel_rfl
   simp [mvA,hiC,this]
  rw [e];simp [mvA]
 have hpre:(hD (duS n [h0] (duP (duO a b c)) 1) mvA).1=0:=by
  unfold hD;rw [hr];simp [mvA]
 have hdo:cE aM (duS n [h0] (duP (duO a b c)) 1) mvA=⟨n,[⟨cT,l9,iK,[],[h0,⟨n,ld,iK⟩]⟩],[],[],[],duP (duO a b c),1⟩:=by
  unfold cE;rw [if_pos hr];have:findD (duS n [h0] (duP (duO a b c)) 1).cases mvA.case=0:=DI _ _ _ _;unfold doD;rw [this];simp [mvA,duS,hiC,iG]
 have hact:iL 4= [109,111,118,101]:=by kernel_rfl
 have hb:cr (duS n [h0] (duP (duO a b c)) 1) mvA=duT n h0 a b c:=by
  unfold cr;simp only [hd,hg,Bool.false_eq_true,if_false,if_true,hm];rw [hdo];have h1:a=0∨a=1∨a=2:=by omega
  have h2:b=0∨b=1∨b=2:=by omega
  have h3:c=0∨c=1∨c=2:=by omega
  rcases h1 with rfl|rfl|rfl<;>rcases h2 with rfl|rfl|rfl<;>rcases h3 with rfl|rfl|rfl<;>rfl
 have ho:lS (duT n h0 a b c)=false:=by simp [lS,duT]; omega
 unfold bw;rw [if_neg (by simp [hpre]),hb,if_neg (by rw [ho]; simp)]
 exact ⟨rfl,by simp [lD,hd],rfl⟩
def MLe (a b:dV):Prop:=(∀x∈a.met,x∈b.met)∧a.rules≤b.rules
theorem MLe.refl (a:dV):MLe a a:=⟨fun _ h=>h,Nat.le_refl _⟩
theorem MLe.trans {a b c:dV} (h1:MLe a b) (h2:MLe b c):MLe a c:=⟨fun x h=>h2.1 x (h1.1 x h),Nat.le_trans h1.2 h2.2⟩
theorem DZ {a b b' :dV} {s:Txt} (h:MLe a b) (hm:iJ b s=some b'):∃a',iJ a s=some a'∧MLe a' b' :=by
 unfold iJ at hm⊢;split at hm
 ·rename_i hc
  cases hm;refine ⟨_,if_pos ⟨fun hx=>hc.1 (h.1 s hx),hc.2⟩,fun x hx=> ?_,h.2⟩
  rcases List.mem_append.1 hx with hx|hx
  ·exact List.mem_append.2 (.inl (h.1 x hx))
  ·exact List.mem_append.2 (.inr hx)
 ·cases hm
theorem D0 {b b' :dV} {s:Txt} (hm:iJ b s=some b'):MLe b b' :=by
 unfold iJ at hm;split at hm
 ·cases hm; exact ⟨fun x hx=>List.mem_append.2 (.inl hx),Nat.le_refl _⟩
 ·cases hm
theorem mG {e:Int} {w:Went} {m:dV} (h:need e w= .ok m):e=0∧w= .ok m:=by
 unfold need at h;split at h
 ·exact ⟨by assumption,h⟩
 ·cases h
theorem J8 {a b b' :dV} {r:cQ} (h:MLe a b) (hr:fW b r= .ok b'):(∃a',fW a r= .ok a'∧MLe a' b')∧MLe b b' :=by
 unfold fW at hr⊢;cases hm:iJ b r.id with
 |none=>rw [hm] at hr; cases hr
 |some m=>
  rw [hm] at hr;obtain ⟨a',ha,hl⟩:=DZ h hm;simp only at hr;split at hr
  ·cases hr
  ·obtain ⟨e1,hr⟩:=mG hr
   obtain ⟨e2,hr⟩:=mG hr;obtain ⟨e3,hr⟩:=mG hr;cases hr;have hup:=D0 hm;refine ⟨⟨⟨a'.met,a'.rules+1⟩, ?_,hl.1,by have:=hl.2; simp only; omega⟩,hup.1,by have:=hup.2; simp only; omega⟩
   rw [ha];have:=hl.2;simp only [e1,e2,e3,need,if_true];rw [if_neg (by omega)]
theorem BF:∀(l:List cQ) {a b b' :dV},MLe a b→eO b l= .ok b'→(∃a',eO a l= .ok a'∧MLe a' b')∧MLe b b'
 | [],a,b,b',h,hr=>by
  simp only [eO] at hr;cases hr;exact ⟨⟨a,rfl,h⟩, .refl _⟩
 |r::l,a,b,b',h,hr=>by
  simp only [eO] at hr⊢;cases hw:fW b r with
  |bad e=>rw [hw] at hr; cases hr
  |ok m=>
   rw [hw] at hr;obtain ⟨⟨a',ha,hl⟩,hu⟩:=J8 h hw;obtain ⟨⟨a'',ha',hl'⟩,hu'⟩:=BF l hl hr;exact ⟨⟨a'',by rw [ha]; exact ha',hl'⟩,hu.trans hu'⟩
theorem JG {a b b' :dV} {id:Txt} {set:Bool} {alg:Int} {tgt:fT} {nr nk nk' :Nat} {obls:List cA} (h:MLe a b) (hk:nk'≤nk) (hr:eV b id set alg tgt nr nk obls= .ok b'):(∃a',eV a id set alg tgt nr nk' obls= .ok a'∧MLe a' b')∧MLe b b' :=by
 unfold eV at hr⊢;cases hm:iJ b id with
 |none=>rw [hm] at hr; cases hr
 |some m=>
  rw [hm] at hr;obtain ⟨a',ha,hl⟩:=DZ h hm;simp only at hr;split at hr
  ·cases hr
  ·rename_i h1
   split at hr
   ·cases hr
   ·rename_i h2
    obtain ⟨e1,hr⟩:=mG hr;obtain ⟨e2,hr⟩:=mG hr;split at hr
    ·cases hr
    ·rename_i h3
     cases hr;refine ⟨⟨a', ?_,hl⟩,D0 hm⟩;rw [ha];have h2' :¬(set=true∧nr>0∨set=false∧(nk' >0∨alg=4)):=by
      rintro (⟨p,q⟩|⟨p,q|q⟩)
      ·exact h2 (.inl ⟨p,q⟩)
      ·exact h2 (.inr ⟨p, .inl (by omega)⟩)
      ·exact h2 (.inr ⟨p, .inr q⟩)
     simp only [if_neg h1,if_neg h2',e1,e2,need,if_true];rw [if_neg (by omega)]
theorem Bm (gs:List bh):∀l:List bB,(jk gs l).length≤l.length
 | []=>by simp [jk]
 |k::r=>by
  have:=Bm gs r;simp only [jk];split<;>simp<;>omega
mutual
theorem Bo (gs:List bh):∀(p:bB) (d:Nat) {a b b' :dV},MLe a b→jH b d p= .ok b'→(∃a',jH a d (jl gs p)= .ok a'∧MLe a' b')∧MLe b b'
 | .mk id set alg tgt rules kids obls,d,a,b,b',h,hr=>by
  simp only [jH,jl] at hr⊢;split at hr
  ·cases hr
  ·rename_i hd
   rw [if_neg hd];cases hh:eV b id set alg tgt rules.length kids.length obls with
   |bad e=>rw [hh] at hr; cases hr
   |ok m=>
    rw [hh] at hr;simp only at hr;obtain ⟨⟨a1,ha1,hl1⟩,hu1⟩:=JG h (Bm gs kids) hh;cases hw:eO m rules with
    |bad e=>rw [hw] at hr; cases hr
    |ok m2=>
     rw [hw] at hr;simp only at hr;obtain ⟨⟨a2,ha2,hl2⟩,hu2⟩:=BF rules hl1 hw;obtain ⟨⟨a3,ha3,hl3⟩,hu3⟩:=sI gs kids (d+1) hl2 hr;refine ⟨⟨a3, ?_,hl3⟩,(hu1.trans hu2).trans hu3⟩;rw [ha1];simp only [ha2];exact ha3
theorem sI (gs:List bh):∀(l:List bB) (d:Nat) {a b b' :dV},MLe a b→gN b d l= .ok b'→(∃a',gN a d (jk gs l)= .ok a'∧MLe a' b')∧MLe b b'
 | [],d,a,b,b',h,hr=>by
  simp only [gN,jk] at hr⊢;cases hr;exact ⟨⟨a,rfl,h⟩, .refl _⟩
 |k::r,d,a,b,b',h,hr=>by
  simp only [gN] at hr;cases hw:jH b d k with
  |bad e=>rw [hw] at hr; cases hr
  |ok m=>
   rw [hw] at hr;simp only at hr;obtain ⟨⟨a1,ha1,hl1⟩,hu1⟩:=Bo gs k d h hw;simp only [jk];split
   ·obtain ⟨⟨a2,ha2,hl2⟩,hu2⟩:=sI gs r d hl1 hr
    refine ⟨⟨a2, ?_,hl2⟩,hu1.trans hu2⟩;simp only [gN,ha1];exact ha2
   ·obtain ⟨⟨a2,ha2,hl2⟩,hu2⟩:=sI gs r d (h.trans hu1) hr
    exact ⟨⟨a2,ha2,hl2⟩,hu1.trans hu2⟩
end
theorem C7 (gs:List bh) {p:bB} (h:gb p=0):gb (jl gs p)=0:=by
 unfold gb at*;cases hw:jH ⟨[],0⟩ 1 p with
 |bad e=>
  have:=rU 4 1 _ _ e rfl hw;rw [hw] at h;exact (this h).elim
 |ok m=>
  obtain ⟨⟨a,ha,_⟩,_⟩:=Bo gs p 1 (.refl _) hw;rw [ha]; rfl
def Px:bN:=⟨⟨0,[],false⟩,0,ay⟩
def JO (k:Option bN):AV:=match k with
 |some m=> .tup [dG m, .v (.bool true)]
 |none=> .tup [dG Px, .v (.bool false)]
theorem Hx {x:List (List bN)} {r:fT} (h:x.length≠1):mE (x::r)=mE r:=by
 match x,h with
 | [],_=>rfl
 | [l],h=>exact (h rfl).elim
 |a::b::c,_=>rfl
theorem Hw {l:List bN} {r:fT} (h:(l.find? fun m=>m.op==1 && !m.attr.must)=none):mE ([l]::r)=mE r:=by
 simp only [mE,h]
theorem Hy {l:List bN} {r:fT} {m:bN} (h:(l.find? fun m=>m.op==1 && !m.attr.must)=some m):mE ([l]::r)=some m:=by
 simp only [mE,h]
theorem Bl (gs:List bh):∀l:List bB,jk gs l=(l.filter (qG gs)).map (jl gs)
 | []=>by simp [jk]
 |k::r=>by
  simp only [jk,List.filter_cons,Bl gs r];split<;>simp
def ixP (gs:List bh) (l:List bB) (n:Nat):List Nat:=(List.range n).filter fun j=>qG gs (l.getD j eS)
theorem AU (gs:List bh) (l:List bB) {n:Nat} (h:n<l.length):ixP gs l (n+1)=ixP gs l n++(if qG gs l[n]=true then [n] else []):=by
 unfold ixP;rw [List.range_succ,List.filter_append,List.filter_cons];simp [List.getD,List.getElem?_eq_getElem h]
theorem AW (gs:List bh) (l:List bB):∀n:Nat,n≤l.length→(ixP gs l n).map (fun j=>l.getD j eS)=(l.take n).filter (qG gs)
 |0,_=>by simp [ixP]
 |n+1,h=>by
  have hlt:n<l.length:=by omega
  rw [AU gs l hlt,List.map_append,AW gs l n (by omega),List.take_succ_eq_append_getElem hlt,List.filter_append,List.filter_cons]
  congr 1
  split<;>simp [List.getD,List.getElem?_eq_getElem hlt]
theorem Md {gs:List bh} {l:List bB} {n j:Nat} (h:j∈ixP gs l n):j<n:=List.mem_range.1 (List.mem_filter.1 h).1
theorem DW (gs:List bh) (l:List bB) (n:Nat):(ixP gs l n).length≤n:=by
 unfold ixP;exact Nat.le_trans (List.length_filter_le _ _) (by simp)
theorem Ht (gs:List bh) (l:List bB):(ixP gs l l.length).map (fun j=>jl gs (l.getD j eS))=jk gs l:=by
 rw [Bl,←List.take_length (l:=l),←AW gs l l.length (Nat.le_refl _),List.map_map,List.take_length];rfl
theorem mF (m:bN):dG m= .agg [.v (.int .i64 m.attr.cat), .s m.attr.name, .v (.bool m.attr.must), .v (.int .i64 m.op), .v (.int .i64 m.val.kind), .v (.int .i64 m.val.n), .s m.val.s]:=rfl
end Go.Bf
namespace Go.Proofs.YtnlbeamjpefpfaaGreatDoor
open Go Go.Ab Go.Bf
set_option maxRecDepth 100000 in
theorem Me (t:fT) (ht:Jb t) (h:Heap):ak Tryz.prog 135 [aU t] h fun r h' =>r=JO (mE t)∧h' =h:=by
 have htl:=ht.1;refine ak.body hU hm Tryz.func135 rfl (by kernel_rfl) 38 rfl [.cell 2 216, .tmp 3] rfl (Vz rfl) (fun hwf=> ?_)
 simp only [go_sem,aU];intro i2 h2;simp only [go_sem,VA];have hH0:∀x,Ab.Sub h (upd h i2 x):=fun x=> .ai h2
 refine .intro (fun m ρ H=>Ab.Sub h H∧H i2=some (.obj [.v (.int .i64 0), .s [], .v (.bool false), .v (.int .i64 0), .v (.int .i64 0), .v (.int .i64 0), .s []] 216)∧∃i:Nat,i≤t.length∧m=t.length - i∧mE (t.drop i)=mE t∧lk ρ 2=some (.ptr i2 0)∧lk ρ 8=some (.sl (t.map cN) .no)∧lk ρ 9=some (.v (.int .i64 t.length))∧lk ρ 10=some (.v (.int .i64 i))) t.length ?_ ?_
 ·refine ⟨hH0 _,ah ..,0,by omega,rfl,rfl, ?_, ?_, ?_, ?_⟩<;>simp only [go_sem]
 ·rintro m ρ H ⟨hs,k2,i,hi,rfl,hk,r2,r8,r9,r10⟩
  simp only [go_sem,r9,r10];refine .intro (fun e=> ?_) (fun e=> ?_)
  ·have hlt:i<t.length:=VH e
   have w1:=VG i (by omega)
   rw [List.drop_eq_getElem_cons hlt] at hk;have hxl:=(ht.2 _ (VF hlt)).2;have ix:=fun k=>fc.eq (xs:=t.map cN) (sz:=1) i (by simpa using hlt) (by rw [VB]; rfl) k
   rw [VB] at ix;obtain ⟨x,ex⟩:∃x,t[i]=x:=⟨_,rfl⟩;rw [ex] at ix hk hxl;simp only [cN] at ix;cases d1:((x.length:Int) !=1)
   case true=>
    have hx1:x.length≠1:=by intro e1; rw [e1] at d1; simp at d1
    rw [Hx hx1] at hk;simp only [go_sem,r8,r10,ix,VA,d1,w1];refine ⟨_, ?_,hs,k2,i+1,by omega,rfl,hk, ?_, ?_, ?_, ?_⟩
    ·omega
    all_goals simp only [go_sem,r2,r8,r9]
   have hx1:x.length=1:=by have:(x.length:Int)=1:=(by simpa using d1); omega
   obtain ⟨l,rfl⟩:=List.length_eq_one_iff.1 hx1;have hll:=hxl l (List.mem_singleton.2 rfl);have iy:=fun k=>fc.eq (xs:= [gW l]) (sz:=1) 0 (by simp) rfl k
   simp only [List.getElem_cons_zero,gW,Int.natCast_zero] at iy;simp only [go_sem,r8,r10,ix,VA,List.length_cons,List.length_nil,List.map_cons,List.map_nil,gW,iy];refine .intro (fun m ρ2 H2=>Ab.Sub h H2∧H2 i2=some (.obj [.v (.int .i64 0), .s [], .v (.bool false), .v (.int .i64 0), .v (.int .i64 0), .v (.int .i64 0), .s []] 216)∧∃j:Nat,j≤l.length∧m=l.length - j∧(∀k (h1:k<l.length),k<j→(l[k].op==1 && !l[k].attr.must)=false)∧lk ρ2 2=some (.ptr i2 0)∧lk ρ2 8=some (.sl (t.map cN) .no)∧lk ρ2 9=some (.v (.int .i64 t.length))∧lk ρ2 10=some (.v (.int .i64 i))∧lk ρ2 19=some (.sl (l.map dG) .no)∧lk ρ2 20=some (.v (.int .i64 l.length))∧lk ρ2 21=some (.v (.int .i64 j))) l.length ?_ ?_
   ·refine ⟨hs,k2,0,by omega,rfl,fun k _ hk=>(by omega), ?_, ?_, ?_, ?_, ?_, ?_, ?_⟩<;>simp only [go_sem,r2,r8,r9,r10]
   ·rintro m ρ2 H2 ⟨hs2,k2,j,hj,rfl,hc,s2,s8,s9,s10,s19,s20,s21⟩
    simp only [go_sem,s20,s21];refine .intro (fun e=> ?_) (fun e=> ?_)
    ·have hlt2:j<l.length:=VH e
     have w2:=VG j (by omega)
     have iz:=fun k=>fc.eq (xs:=l.map dG) (sz:=7) j (by simpa using hlt2) (by rw [VB]; rfl) k
     rw [VB] at iz;have hci:=fun (d:(l[j].op==1 && !l[j].attr.must)=false)=>(fun k (h1:k<l.length) (hk:k<j+1)=>(by
      by_cases hji:k=j
      ·subst hji; exact d
      ·exact hc k h1 (by omega):(l[k].op==1 && !l[k].attr.must)=false))
     have hat:=fun (d:(l[j].op==1 && !l[j].attr.must)=true)=>(List.find?_eq_some_iff_getElem.2 ⟨d,j,hlt2,rfl,fun k hk=>by rw [hc k (by omega) hk]; rfl⟩:(l.find? fun m=>m.op==1 && !m.attr.must)=some l[j])
     obtain ⟨z,ez⟩:∃z,l[j]=z:=⟨_,rfl⟩;rw [ez] at iz hci hat;simp only [mF] at iz;simp only [go_sem,s19,s21,iz];intro i7 h7;have n72:i7≠i2:=fun e=>by rw [e,k2] at h7; cases h7
     cases a1:(z.op==1)
     ·simp only [go_sem,s21,a1,w2]
      refine ⟨_, ?_,hs2.trans (.ai h7),by rw [ag _ _ n72.symm]; exact k2,j+1,by omega,rfl,hci (by rw [a1]; rfl), ?_, ?_, ?_, ?_, ?_, ?_, ?_⟩
      ·omega
      all_goals simp only [go_sem,s2,s8,s9,s10,s19,s20]
     ·cases a2:z.attr.must
      ·have hkk:=hk.symm.trans (Hy (hat (by rw [a1,a2]; rfl)))
       simp only [go_sem,s2,a1,aj,n72.symm,k2];exact .mk _ (.refl _) ((hs2.trans (.ai h7)).put h2 _) ⟨by rw [hkk]; simp only [JO,mF,a2]; rfl,rfl⟩
      ·simp only [go_sem,s21,a1,w2]
       refine ⟨_, ?_,hs2.trans (.ai h7),by rw [ag _ _ n72.symm]; exact k2,j+1,by omega,rfl,hci (by rw [a1,a2]; rfl), ?_, ?_, ?_, ?_, ?_, ?_, ?_⟩
       ·omega
       all_goals simp only [go_sem,s2,s8,s9,s10,s19,s20]
    ·have hge:j=l.length:=by have:=VD e; omega
     subst hge;rw [Hw (List.find?_eq_none.2 fun z hz=>by
      obtain ⟨k,hk,rfl⟩:=List.mem_iff_getElem.1 hz;rw [hc k hk hk]; decide)] at hk
     simp only [go_sem,s10,w1];refine ⟨_, ?_,hs2,k2,i+1,by omega,rfl,hk, ?_, ?_, ?_, ?_⟩
     ·omega
     all_goals simp only [go_sem,s2,s8,s9]
  ·have hge:i=t.length:=by have:=VD e; omega
   subst hge;rw [List.drop_length] at hk;simp only [go_sem,r2,k2];exact .mk _ (.refl _) (hs.put h2 _) ⟨by rw [←hk]; rfl,rfl⟩
theorem Fs {gs:List bh} {p:bB} (h:mE (qK p)=none):qG gs p=true:=by unfold qG; rw [h]
theorem Ft {gs:List bh} {p:bB} {m:bN} (h:mE (qK p)=some m):qG gs p=decide (iQ gs m≠0):=by unfold qG; rw [h]
def rJ (n:Nat):AV:= .v (.int .i64 n)
set_option maxRecDepth 100000 in
theorem Ib (l:List bB) (hl:l.length≤1000) (ht:∀p∈l,Jb (qK p)) (gs:List bh) (hf:pV gs) (h:Heap):ak Tryz.prog 103 [.sl (l.map aK) .no,bE gs] h fun r h' =>r= .sl ((ixP gs l l.length).map rJ) .no∧h' =h:=by
 have hmt:=fun (m:bN) (G:Heap)=>yh m gs hf G
 simp only [mF,bE] at hmt;have uI:(U 3).sz=1:=by simp only [go_sem]
 refine ak.body hU hm Tryz.func103 rfl (by kernel_rfl) 37 rfl [.tmp 4] rfl (Vz rfl) (fun hwf=> ?_)
 simp only [go_sem,bE,VA];refine .intro (fun m ρ H=>∃(i:Nat) (y:AV),Acc U 3 h H y ((ixP gs l i).map rJ)∧i≤l.length∧m=l.length - i∧lk ρ 1=some (.sl (gs.map jD) .no)∧lk ρ 5=some y∧lk ρ 10=some (.sl (l.map aK) .no)∧lk ρ 11=some (.v (.int .i64 l.length))∧lk ρ 12=some (.v (.int .i64 i))) l.length ?_ ?_
 ·refine ⟨0, .sl [] .full, .full (.refl _),by omega,rfl, ?_, ?_, ?_, ?_, ?_⟩<;>simp only [go_sem]
 ·rintro m ρ H ⟨i,y,hy,hi,rfl,r1,r5,r10,r11,r12⟩
  obtain ⟨qy,eqy⟩:=hy.row;subst eqy;simp only [go_sem,r11,r12];refine .intro (fun e=> ?_) (fun e=> ?_)
  ·have hlt:i<l.length:=VH e
   have w1:=VG i (by omega)
   have hsn:=AU gs l hlt;have hpl:=DW gs l i;have ix:=fun k=>fc.eq (xs:=l.map aK) (sz:=7) i (by simpa using hlt) (by rw [VB,iT]) k
   rw [VB] at ix;have hft:=ht _ (VF hlt);obtain ⟨x,ex⟩:∃x,l[i]=x:=⟨_,rfl⟩;rw [ex] at ix hsn hft;have hky:=fun G=>Me (qK x) hft G
   have mn:=fun h=>Fs (gs:=gs) (p:=x) h
   have ms:=fun m h=>Ft (gs:=gs) (p:=x) (m:=m) h
   obtain ⟨kid,kset,kalg,ktgt,krules,kkids,kobls⟩:=x;simp only [qK] at hky hft mn ms;simp only [aK,aU,aA,aX] at ix;simp only [aU] at hky;simp only [go_sem,r10,r12,ix];intro i7 h7;simp only [go_sem];refine (hky _).pthen ?_;have hkeep:qG gs (.mk kid kset kalg ktgt krules kkids kobls)=true→ixP gs l (i+1)=ixP gs l i++ [i]:=fun e=>by rw [hsn,if_pos e]
   have hdrop:qG gs (.mk kid kset kalg ktgt krules kkids kobls)=false→ixP gs l (i+1)=ixP gs l i:=fun e=>by rw [hsn,if_neg (by rw [e]; decide),List.append_nil]
   cases hk:mE ktgt with
   |none=>
    simp only [go_sem,JO,mF];intro i8 h8;simp only [go_sem,r5];refine ((hy.sub (.ai h7)).sub (.ai h8)).app (zs:= [rJ i]) (by rw [uI]; decide) (by simp only [go_sem,ne_eq,not_false_eq_true]) (fun k hk=>hk) (by rw [uI]; exact bl (f:=rJ) (fun _=>rfl) _) (by rw [uI]; intro z hz; rw [List.mem_singleton.1 hz]; rfl) (by simp only [go_sem,VA,List.length_cons,List.length_nil]; omega) fun y' H' hy' kp=> ?_
    simp only [go_sem,r12,w1];refine ⟨_, ?_,i+1,y',by rw [hkeep (mn hk),List.map_append]; exact hy',by omega,rfl, ?_, ?_, ?_, ?_, ?_⟩
    ·omega
    all_goals simp only [go_sem,r1,r10,r11]
   |some m=>
    have hm2:=ms m hk;simp only [go_sem,JO,mF];intro i8 h8;simp only [go_sem,r1];refine (hmt m _).pthen ?_;cases dm:((iQ gs m:Int) !=0)
    ·have e0:iQ gs m=0:=by have:(iQ gs m:Int)=0:=(by simpa using dm); omega
     simp only [go_sem,r12,dm,w1];refine ⟨_, ?_,i+1,_,by rw [hdrop (by rw [hm2,e0]; rfl)]; exact (hy.sub (.ai h7)).sub (.ai h8),by omega,rfl, ?_, ?_, ?_, ?_, ?_⟩
     ·omega
     all_goals simp only [go_sem,r1,r5,r10,r11]
    ·have e0:iQ gs m≠0:=by intro e0; rw [e0] at dm; simp at dm
     simp only [go_sem,r5,dm];refine ((hy.sub (.ai h7)).sub (.ai h8)).app (zs:= [rJ i]) (by rw [uI]; decide) (by simp only [go_sem,ne_eq,not_false_eq_true]) (fun k hk=>hk) (by rw [uI]; exact bl (f:=rJ) (fun _=>rfl) _) (by rw [uI]; intro z hz; rw [List.mem_singleton.1 hz]; rfl) (by simp only [go_sem,VA,List.length_cons,List.length_nil]; omega) fun y' H' hy' kp=> ?_
     simp only [go_sem,r12,w1];refine ⟨_, ?_,i+1,y',by rw [hkeep (by rw [hm2]; exact decide_eq_true e0),List.map_append]; exact hy',by omega,rfl, ?_, ?_, ?_, ?_, ?_⟩
     ·omega
     all_goals simp only [go_sem,r1,r10,r11]
  ·have hge:i=l.length:=by have:=VD e; omega
   subst hge;simp only [go_sem,r5];exact .mk _ (.sl _ _) hy.1 ⟨rfl,rfl⟩
theorem Pd {id:Txt} {set:Bool} {alg:Int} {tgt:fT} {rules:List cQ} {kids:List bB} {obls:List cA} {L:List AV} (hL:L=kids.map aK) (q:Perm):Weak (.agg [.s id, .v (.bool set), .v (.int .i64 alg), .sl (tgt.map cN) .no, .sl (rules.map aC) .no, .sl L q, .sl (obls.map bp) .no]) (aK (.mk id set alg tgt rules kids obls)):=by
 subst hL;rw [aK,aX];refine .agg _ _ rfl fun i a b=> ?_
 rcases i with _|_|_|_|_|_|_|i
 ·exact .refl _
 ·exact .refl _
 ·exact .refl _
 ·exact .refl _
 ·exact .refl _
 ·exact .sl _ _
 ·exact .refl _
 ·simp at a; omega
set_option maxRecDepth 100000 in
theorem yp:∀(n d:Nat),d+n=5→∀(p:bB),lB d p→∀(gs:List bh),pV gs→∀(h:Heap),ak Tryz.prog 63 [aK p,bE gs] h fun r h' =>r=aK (jl gs p)∧h' =h
 |0,d,hd, .mk id set alg tgt rules kids obls,hE,gs,hf,h=>by
  simp only [lB] at hE;omega
 |n+1,d,hd, .mk id set alg tgt rules kids obls,hE,gs,hf,h=>by
  have ih:=yp n (d+1) (by omega)
  simp only [lB,oN] at hE;obtain ⟨_,_,_,_,_,_,hT,hO,hR,hK,hRE,hKE⟩:=hE;have hpk:=fun G=>Ib kids (by omega) (fun p hp=>by
   have h1:=hKE p hp;obtain ⟨kid,kset,kalg,ktgt,krules,kkids,kobls⟩:=p;simp only [lB] at h1;exact zJ h1.2.2.2.2.2.2.1) gs hf G
  have hpe:jl gs (.mk id set alg tgt rules kids obls)= .mk id set alg tgt rules (jk gs kids) obls:=by simp only [jl]
  have hfull:=Ht gs kids;have hIlt:∀j∈ixP gs kids kids.length,j<kids.length:=fun j hj=>Md hj
  have hIl:(ixP gs kids kids.length).length≤16:=Nat.le_trans (DW _ _ _) hK;obtain ⟨I,eI⟩:∃I,ixP gs kids kids.length=I:=⟨_,rfl⟩;rw [eI] at hpk hfull hIlt hIl;simp only [bE] at hpk;have uP:(U 37).sz=7:=by simp only [go_sem]
  refine ak.body hU hm Tryz.func63 rfl (by kernel_rfl) 31 rfl [.cell 4 37] rfl (Vz rfl) (fun hwf=> ?_)
  simp only [go_sem,aK,bE,aX,aU,aA];intro i2 h2;simp only [go_sem];intro i4 h4;have n42:=aE h4;have n4' :=au h4;obtain ⟨H0,eH⟩:∃H0,upd (upd h i2 (some (.obj [.s id, .v (.bool set), .v (.int .i64 alg), .sl (tgt.map cN) .no, .sl (rules.map aC) .no, .sl (kids.map aK) .no, .sl (obls.map bp) .no] 37))) i4 (some (.obj [.s [], .v (.bool false), .v (.int .i64 0), .sl [] .full, .sl [] .full, .sl [] .full, .sl [] .full] 37))=H0:=⟨_,rfl⟩;have hH0:Ab.Sub h H0:=by rw [←eH]; exact ((Sub.refl h).put h2 _).put n4' _
  have g2:H0 i2=some (.obj [.s id, .v (.bool set), .v (.int .i64 alg), .sl (tgt.map cN) .no, .sl (rules.map aC) .no, .sl (kids.map aK) .no, .sl (obls.map bp) .no] 37):=by rw [←eH,ag _ _ n42.symm,ah]
  have g4:H0 i4=some (.obj [.s [], .v (.bool false), .v (.int .i64 0), .sl [] .full, .sl [] .full, .sl [] .full, .sl [] .full] 37):=by rw [←eH,ah]
  simp only [go_sem,aj,n42.symm];rw [eH];clear eH;refine (hpk _).pthen ?_;simp only [go_sem,VA];refine .intro (fun m ρ H=>∃(i:Nat) (y:AV),Acc U 37 H0 H y (((I.map fun j=>jl gs (kids.getD j eS)).take i).map aK)∧i≤I.length∧m=I.length - i∧lk ρ 1=some (.sl (gs.map jD) .no)∧lk ρ 2=some (.ptr i2 0)∧lk ρ 4=some (.ptr i4 0)∧lk ρ 5=some y∧lk ρ 11=some (.sl (I.map rJ) .no)∧lk ρ 12=some (.v (.int .i64 I.length))∧lk ρ 13=some (.v (.int .i64 i))) I.length ?_ ?_
  ·refine ⟨0, .sl [] .full, .full (.refl _),by omega,rfl, ?_, ?_, ?_, ?_, ?_, ?_, ?_⟩<;>simp only [go_sem]
  ·rintro m ρ H ⟨i,y,hy,hi,rfl,r1,r2,r4,r5,r11,r12,r13⟩
   obtain ⟨qy,eqy⟩:=hy.row;subst eqy;have k2:=hy.1 _ _ g2;simp only [go_sem,r12,r13];refine .intro (fun e=> ?_) (fun e=> ?_)
   ·have hlt:i<I.length:=VH e
    have w1:=VG i (by omega)
    have hjlt:=hIlt _ (VF hlt);have hsn:((I.map fun j=>jl gs (kids.getD j eS)).take (i+1)).map aK=((I.map fun j=>jl gs (kids.getD j eS)).take i).map aK++ [aK (jl gs (kids.getD I[i] eS))]:=by
     rw [List.take_succ_eq_append_getElem (by simpa using hlt),List.map_append,VB]; rfl
    have ix:=fun k=>fc.eq (xs:=I.map rJ) (sz:=1) i (by simpa using hlt) (by rw [VB]; rfl) k
    rw [VB] at ix;obtain ⟨j,ej⟩:∃j,I[i]=j:=⟨_,rfl⟩;rw [ej] at ix hsn hjlt;have iy:=fun k=>fc.eq (xs:=kids.map aK) (sz:=7) j (by simpa using hjlt) (by rw [VB,iT]) k
    rw [VB] at iy;rw [show kids.getD j eS=kids[j] by simp [List.getD,List.getElem?_eq_getElem hjlt]] at hsn
    have hke:=hKE _ (VF hjlt);obtain ⟨x,ex⟩:∃x,kids[j]=x:=⟨_,rfl⟩;rw [ex] at iy hsn hke;have hr1:=ih x hke gs hf;obtain ⟨z,ez⟩:∃z,jl gs x=z:=⟨_,rfl⟩;rw [ez] at hr1 hsn;obtain ⟨kid,kset,kalg,ktgt,krules,kkids,kobls⟩:=x;obtain ⟨zid,zset,zalg,ztgt,zrules,zkids,zobls⟩:=z;simp only [aK,aU,aA,aX,bE] at iy hr1;simp only [rJ] at ix;simp only [go_sem,r1,r2,r5,r11,r13,ix,k2,iy];refine (hr1 _).pthen ?_;simp only [go_sem];refine hy.app (zs:= [aK (.mk zid zset zalg ztgt zrules zkids zobls)]) (by rw [uP]; decide) (by simp only [go_sem,ne_eq,not_false_eq_true]) (fun k hk=>show k _ from (by simpa only [aK,aU,aA,aX] using hk)) (by rw [uP]; exact bl (f:=aK) iT _) (by rw [uP]; intro z hz; rw [List.mem_singleton.1 hz,iT]) (by simp only [go_sem,VA,List.length_take,List.length_cons,List.length_nil]; omega) fun y' H' hy' kp=> ?_
    simp only [go_sem,r13,w1];refine ⟨_, ?_,i+1,y',by rw [hsn]; exact hy',by omega,rfl, ?_, ?_, ?_, ?_, ?_, ?_, ?_⟩
    ·omega
    all_goals simp only [go_sem,r1,r2,r4,r11,r12]
   ·have hge:i=I.length:=by have:=VD e; omega
    subst hge;have htl:(I.map fun j=>jl gs (kids.getD j eS)).take I.length=jk gs kids:=by rw [List.take_of_length_le (by simp)]; exact hfull
    rw [htl] at r5 hy;have k4:=hy.1 _ _ g4;have n24:i2≠i4:=n42.symm;simp only [go_sem,r2,r4,r5,k2,aj,n42,k4];refine .mk (aK (.mk id set alg tgt rules (jk gs kids) obls)) (Pd rfl _) (((hH0.trans hy.1).put h2 _).put n4' _) ⟨by rw [hpe],rfl⟩
theorem AT (p:bB) (hp:gb p=0) (gs:List bh) (hf:pV gs) (h:Heap):ak Tryz.prog 33 [aK p,bE gs] h fun r h' =>r= .tup [rsA (dO gs p), .v (.int .i64 0)]∧h' =h:=by
 have hpk:=fun G=>yp 4 1 rfl p (pg hp) gs hf G
 have hev:=fun G=>Aw (jl gs p) (C7 gs hp) gs hf G
 have hr:=fun G=>rY p G
 rw [hp] at hr;rw [ym] at hev;obtain ⟨w,ew⟩:∃w,jl gs p=w:=⟨_,rfl⟩;rw [ew] at hpk hev;obtain ⟨z,ez⟩:∃z,dO gs p=z:=⟨_,rfl⟩;rw [ez] at hev⊢;obtain ⟨id,set,alg,tgt,rules,kids,obls⟩:=p;obtain ⟨wid,wset,walg,wtgt,wrules,wkids,wobls⟩:=w;simp only [aK,aU,aA,bE] at hpk hr hev;refine ak.body hU hm Tryz.func33 rfl (by kernel_rfl) 17 rfl [.cell 4 57, .tmp 5] rfl (Vz rfl) (fun hwf=> ?_)
 simp only [go_sem,aK,bE,aU,aA];intro i2 h2;simp only [go_sem];intro i4 h4;have n42:=aE h4;have n4:=au h4;have hs:∀x y,Ab.Sub h (upd (upd h i2 x) i4 y):=fun x y=>((Sub.refl h).put h2 x).put n4 y
 simp only [go_sem,aj,n42.symm];refine (hr _).pthen ?_;simp only [go_sem,aj,n42.symm];refine (hpk _).pthen ?_;simp only [go_sem];refine (hev _).pthen ?_;simp only [go_sem,rsA,aR,aA];exact .mk _ (.refl _) (hs _ _) ⟨rfl,rfl⟩
def OwR (h0 h:Heap) (y:AV) (rs:List gI):Prop:=y=dH rs∨OwE 54 h0 h 2 y (rs.map dQ)
theorem OwR.rd {h0 h:Heap} {y:AV} {rs:List gI} (hr:OwR h0 h y rs):Rd h 2 y (rs.map dQ):=by
 rcases hr with rfl|hr
 ·exact eJ dQ 2 (fun _=>rfl) h rs
 ·exact hr.rd
theorem OwR.nid {h0 h:Heap} {y:AV} {rs:List gI} (hr:OwR h0 h y rs) {k:Nat} (e:Ab.nid y=some k):h0 k=none∧h k≠none:=by
 rcases hr with rfl|hr
 ·cases e
 ·exact ⟨(hr.nid e).1,(hr.nid e).2.1⟩
theorem OwR.keep {h0 h h' :Heap} {y:AV} {rs:List gI} (hr:OwR h0 h y rs) (hk:∀id,Ab.nid y=some id→h' id=h id):OwR h0 h' y rs:=by
 rcases hr with hr|hr
 ·exact .inl hr
 ·exact .inr (hr.keep hk)
theorem OwR.bI {g h0 h:Heap} {y:AV} {rs:List gI} (hr:OwR h0 h y rs) (hg:∀i,h0 i=none→g i=none):OwR g h y rs:=by
 rcases hr with hr|hr
 ·exact .inl hr
 ·exact .inr (hr.bI hg)
theorem OwR.frz {g h:Heap} {y:AV} {rs:List gI} (hr:OwR g h y rs):Frz g h y (dH rs):=by
 rcases hr with rfl|hr
 ·exact .pure (by simp only [dH,cF]; exact br (fun _=>rfl) _)
 ·exact hr.frz (br (fun _=>rfl) _)
structure gV (h0 h:Heap) (y1 y2 y3 y4:AV) (s:an) (j:Nat):Prop where
 cs:kE h0 h [y1,y2,y3,y4] y1 s.cases j
 rv:OwE 71 h0 h 7 y2 (s.reviews.map fM)
 nt:OwE 84 h0 h 3 y3 (s.notices.map j4)
 rl:OwR h0 h y4 s.roles
 a12:apart y1 y2
 a13:apart y1 y3
 a14:apart y1 y4
 a23:apart y2 y3
 a24:apart y2 y4
 a34:apart y3 y4
def stC (s:an) (y1 y2 y3 y4:AV):List AV:= [.v (.int .i64 s.tick),y1,y2,y3,y4]++fI s.policy++ [.v (.int .i64 s.version)]
theorem qS.parts {h0 h:Heap} {x:AV} {s:an} {j:Nat} (ho:qS h0 h x s j):∃y1 y2 y3 y4,x= .agg (stC s y1 y2 y3 y4)∧gV h0 h y1 y2 y3 y4 s j:=by
 obtain ⟨y1,y2,y3,y4,e,a,b,c,d,r1,r2,r3,r4,r5,r6⟩:=ho;exact ⟨y1,y2,y3,y4,e,a,b,c, .inr d,r1,r2,r3,r4,r5,r6⟩
theorem gV.rd {h0 h:Heap} {y1 y2 y3 y4:AV} {s:an} {j:Nat} (ho:gV h0 h y1 y2 y3 y4 s j):RdS h (.agg (stC s y1 y2 y3 y4)) s:=
 ⟨y1,y2,y3,y4,rfl,ho.cs.rd,ho.rv.rd,ho.nt.rd,ho.rl.rd⟩
theorem gV.frz {g h:Heap} {y1 y2 y3 y4:AV} {s:an} {j:Nat} (ho:gV g h y1 y2 y3 y4 s j):Frz g h (.agg (stC s y1 y2 y3 y4)) (cP s):=
 sC (ho.cs.frz (.refl _)) (ho.rv.frz (br (fun _=>rfl) _)) (ho.nt.frz (br (fun _=>rfl) _)) ho.rl.frz
theorem gV.bI {g h0 h:Heap} {y1 y2 y3 y4:AV} {s:an} {j:Nat} (ho:gV h0 h y1 y2 y3 y4 s j) (hg:∀i,h0 i=none→g i=none):gV g h y1 y2 y3 y4 s j:=
 {ho with cs:=ho.cs.bI hg,rv:=ho.rv.bI hg,nt:=ho.nt.bI hg,rl:=ho.rl.bI hg}
theorem gV.keep {h0 h h' :Heap} {y1 y2 y3 y4:AV} {s:an} {j:Nat} (ho:gV h0 h y1 y2 y3 y4 s j) (hk:∀id,h0 id=none→h id≠none→h' id=h id):gV h0 h' y1 y2 y3 y4 s j:=
 {ho with cs:=ho.cs.keepb hk,rv:=ho.rv.keepb hk,nt:=ho.nt.keepb hk,rl:=ho.rl.keep fun id e=>hk id (ho.rl.nid e).1 (ho.rl.nid e).2}
theorem gV.mem {h0 h:Heap} {y1 y2 y3 y4:AV} {s:an} {j:Nat} (ho:gV h0 h y1 y2 y3 y4 s j) {w:AV} (hw:w∈ [y1,y2,y3,y4]) {k:Nat} (e:Ab.nid w=some k):h0 k=none∧h k≠none:=by
 obtain ⟨xs,a,_⟩:=ho.cs;simp only [List.mem_cons,List.not_mem_nil,or_false] at hw;rcases hw with rfl|rfl|rfl|rfl
 ·exact ⟨(a.nid e).1,(a.nid e).2.1⟩
 ·exact ⟨(ho.rv.nid e).1,(ho.rv.nid e).2.1⟩
 ·exact ⟨(ho.nt.nid e).1,(ho.nt.nid e).2.1⟩
 ·exact ho.rl.nid e
theorem gV.revs {h0 h h' :Heap} {y1 y2 y3 y4 z:AV} {s:an} {j:Nat} {rs:List mo} (ho:gV h0 h y1 y2 y3 y4 s j) (hz:OwE 71 h0 h' 7 z (rs.map fM)) (hn:∀k,Ab.nid z=some k→h k=none∨Ab.nid y2=some k)
  (hk:∀id,h0 id=none→h id≠none→Ab.nid y2≠some id→h' id=h id):gV h0 h' y1 z y3 y4 {s with reviews:=rs} j:=by
 obtain ⟨hcs,hrv,hnt,hrl,a12,a13,a14,a23,a24,a34⟩:=id ho;have ap:∀ {w:AV},w∈ [y1,y2,y3,y4]→apart w y2→apart w z:=fun hw ha k e1 e2=>(hn k e2).elim (fun h=>(ho.mem hw e1).2 h) (fun h=>ha k e1 h)
 refine ⟨hcs.move (z:=y2) (by simp) a12 hk fun w hw k e=> ?_,hz,hnt.keep fun id e=>hk id (hnt.nid e).1 (hnt.nid e).2.1 fun e1=>a23 id e1 e,hrl.keep fun id e=>hk id (hrl.nid e).1 (hrl.nid e).2 fun e1=>a24 id e1 e,ap (by simp) a12,a13,a14,(ap (by simp) a23.symm).symm,(ap (by simp) a24.symm).symm,a34⟩
 simp only [List.mem_cons,List.not_mem_nil,or_false] at hw;rcases hw with rfl|rfl|rfl|rfl
 ·exact .inr ⟨w,by simp,e⟩
 ·exact (hn k e).imp id fun h=>⟨y2,by simp,h⟩
 ·exact .inr ⟨w,by simp,e⟩
 ·exact .inr ⟨w,by simp,e⟩
theorem gV.nots {h0 h h' :Heap} {y1 y2 y3 y4 z:AV} {s:an} {j:Nat} {rs:List yU} (ho:gV h0 h y1 y2 y3 y4 s j) (hz:OwE 84 h0 h' 3 z (rs.map j4)) (hn:∀k,Ab.nid z=some k→h k=none∨Ab.nid y3=some k)
  (hk:∀id,h0 id=none→h id≠none→Ab.nid y3≠some id→h' id=h id):gV h0 h' y1 y2 z y4 {s with notices:=rs} j:=by
 obtain ⟨hcs,hrv,hnt,hrl,a12,a13,a14,a23,a24,a34⟩:=id ho;have ap:∀ {w:AV},w∈ [y1,y2,y3,y4]→apart w y3→apart w z:=fun hw ha k e1 e2=>(hn k e2).elim (fun h=>(ho.mem hw e1).2 h) (fun h=>ha k e1 h)
 refine ⟨hcs.move (z:=y3) (by simp) a13 hk fun w hw k e=> ?_,hrv.keep fun id e=>hk id (hrv.nid e).1 (hrv.nid e).2.1 fun e1=>a23 id e e1,hz,hrl.keep fun id e=>hk id (hrl.nid e).1 (hrl.nid e).2 fun e1=>a34 id e1 e,a12,ap (by simp) a13,a14,ap (by simp) a23,a24,(ap (by simp) a34.symm).symm⟩
 simp only [List.mem_cons,List.not_mem_nil,or_false] at hw;rcases hw with rfl|rfl|rfl|rfl
 ·exact .inr ⟨w,by simp,e⟩
 ·exact .inr ⟨w,by simp,e⟩
 ·exact (hn k e).imp id fun h=>⟨y3,by simp,h⟩
 ·exact .inr ⟨w,by simp,e⟩
end Go.Proofs.YtnlbeamjpefpfaaGreatDoor
namespace Go.Bf
open Go Go.Ab Go.Proofs.YtnlbeamjpefpfaaGreatDoor
def gJ (s:an):Prop:=∀r∈s.reviews,0≤r.tick∧r.tick≤1099511627776
theorem yH {s:an} (o:OpD) (w:Txt) (h:gJ s) (ht:0≤s.tick∧s.tick≤1099511627776):gJ (dD s o w):=fun r hr=>by
 simp only [dD,List.mem_append,List.mem_singleton] at hr;rcases hr with hr|rfl
 ·exact h r hr
 ·exact ht
theorem F1 {s:an} (o:OpD) (w:Txt) (h:gJ s):gJ (ij s o w):=fun r hr=>h r (by rw [(vQ s o w).2.2.2.2.1] at hr; exact hr)
theorem F0 {s:an} (o:OpD) (done:Bool) (x:cA) (h:gJ s) (ht:0≤s.tick∧s.tick≤1099511627776):gJ (fq o done s x):=by
 unfold fq;split
 ·exact F1 o _ h
 ·split
  ·exact yH o _ h ht
  ·split<;>exact h
theorem uj (o:OpD) (done:Bool):∀(l:List cA) {s:an},gJ s→(0≤s.tick∧s.tick≤1099511627776)→gJ (cY s o l done)
 | [],s,h,_=>h
 |x::l,s,h,ht=>uj o done l (F0 o done x h ht) (by rw [(As o done s x).1]; exact ht)
theorem IK {s:an} (par:Txt→bB×Int×Int) (o:OpD) (h:gJ s):gJ (cE par s o):=fun r hr=>by
 rw [sy] at hr;split at hr
 ·rcases mem_modify hr with hr|⟨hi,rfl⟩
  ·exact h r hr
  ·have h2:=h _ (VF hi)
   exact h2
 ·exact h r hr
theorem Dp {k:Nat} {s:an} (o:OpD) (h:jK k s) (ht:gJ s):gJ (bw s o).1:=by
 unfold bw;split
 ·exact ht
 ·split
  ·exact ht
  ·show gJ (cr s o)
   have h1:cX k (if dF s o then dD s o o.reason else s):=by
    split
    ·exact zD o _ h.tocX (by have:=h.nr; omega)
    ·exact h.tocX
   have t1:gJ (if dF s o then dD s o o.reason else s):=by
    split
    ·exact yH o _ ht h.tick
    ·exact ht
   unfold cr;refine uj o _ _ ?_ ?_
   ·split
    ·exact IK _ o t1
    ·exact t1
   ·split
    ·exact (nF o h1).tick
    ·exact h1.tick
structure kX (k:Nat) (s:an):Prop extends jK k s where
 ticks:gJ s
theorem qx:kX 0 qH:= {E4 with ticks:=fun r h=>(by cases h)}
theorem di {k:Nat} {s:an} (o:OpD) (h:kX k s):kX (k+1) (bw s o).1:= {CC o h.tojK with ticks:=Dp o h.tojK h.ticks}
theorem JJ {cs:List aL} {id:Txt} (h:gM cs id<cs.length):cs[gM cs id].id=id:=by
 have:=List.findIdx_getElem (p:=fun c:aL=>c.id==id) (w:=h)
 exact eq_of_beq this
theorem CJ {cs:List aL} (ha:Asc cs) {id:Txt} (h:gM cs id<cs.length):findD cs id=gM cs id:=by
 have hid:=JJ h;have hin:bH cs id=true:=by rw [sZ ha id]; exact List.any_eq_true.2 ⟨_,VF h,by simp [hid]⟩
 have hir:Op.bytesLess id id=false:=by simpa [lt] using lt_irrefl id
 have h1:∃hl:findD cs id<cs.length,cs[findD cs id].id=id:=by
  unfold bH at hin;cases hf:cs[findD cs id]? with
  |none=>rw [hf] at hin; cases hin
  |some c=>
   rw [hf] at hin;obtain ⟨hl,e⟩:=List.getElem?_eq_some_iff.1 hf;exact ⟨hl,by rw [e]; simpa using hin⟩
 obtain ⟨hl,e⟩:=h1;rcases Nat.lt_trichotomy (findD cs id) (gM cs id) with hlt|heq|hgt
 ·exact absurd (List.not_of_lt_findIdx (p:=fun c:aL=>c.id==id) hlt) (by simp [e])
 ·exact heq
 ·have:=List.not_of_lt_findIdx (p:=fun c:aL=>geB c.id id) hgt
  rw [hid] at this;exact absurd this (by simp [geB,hir])
theorem Hr {cs ds:List aL} (h:ds.map (·.id)=cs.map (·.id)) (id:Txt):gM ds id=gM cs id:=by
 have e:∀l:List aL,gM l id=(l.map (·.id)).findIdx fun x=>x==id:=fun l=>by
  unfold gM;rw [List.findIdx_map];rfl
 rw [e,e,h]
theorem Fi (s:an) (o:OpD) (w:Txt) (id:Txt):gM (ij s o w).cases id=gM s.cases id∧(ij s o w).cases.length=s.cases.length:=by
 unfold ij;split
 ·exact ⟨Hr (jE (f:=fun c=>iG s c o.subj w) (g:=fun c:aL=>c.id) fun c=>rfl) id,by simp⟩
 ·exact ⟨rfl,rfl⟩
theorem Fh (o:OpD) (done:Bool) (s:an) (x:cA) (id:Txt):gM (fq o done s x).cases id=gM s.cases id∧(fq o done s x).cases.length=s.cases.length:=by
 unfold fq;split
 ·exact Fi s o x.arg id
 ·split
  ·exact ⟨rfl,rfl⟩
  ·split<;>exact ⟨rfl,rfl⟩
end Go.Bf
namespace Go.Proofs.YtnlbeamjpefpfaaGreatDoor
open Go Go.Ab Go.Bf
theorem Hu {α:Type} (y:AV) (xs:List AV) (ds:List α) (q:α→Bool) (g:FuncId) (cap:List AV) (h:Heap) (hb:Rd h 7 y xs) (hn:xs.length=ds.length) (hl:xs.length≤1000000000) (hx:∀x∈xs,bA x=true)
  (hp:∀i (h1:i<xs.length) (h2:i<ds.length),ak Tryz.prog g (xs[i]::cap) h fun r h' =>r= .v (.bool (q ds[i]))∧h' =h):
  ak Tryz.prog 85 [y, .fn g cap] h fun r h' =>r= .v (.int .i64 (ixD q ds))∧h' =h:=by
 refine ak.body hU hm Tryz.func85 rfl (by kernel_rfl) 19 rfl [.tmp 4] rfl (Vz rfl) (fun hwf=> ?_)
 simp only [go_sem,hb.len];refine .intro (fun m ρ h' =>h' =h∧∃i:Nat,i≤xs.length∧m=xs.length - i∧(∀j (hj:j<i) (h2:j<ds.length),q ds[j]=false)∧lk ρ 0=some y∧lk ρ 1=some (.fn g cap)∧lk ρ 7=some (.v (.int .i64 xs.length))∧lk ρ 8=some (.v (.int .i64 i))) xs.length ?_ ?_
 ·refine ⟨rfl,0,by omega,rfl,fun j hj=>(by omega), ?_, ?_, ?_, ?_⟩<;>simp only [go_sem]
 ·rintro m ρ h' ⟨rfl,i,hi,rfl,hc,r0,r1,r7,r8⟩
  simp only [go_sem,r7,r8];refine .intro (fun e=> ?_) (fun e=> ?_)
  ·have hlt:i<xs.length:=VH e
   have hlt2:i<ds.length:=by omega
   have w1:=VG i (by omega)
   simp only [go_sem,r0,r1,r8];refine hb.idx (e:=71) i rfl hlt (by simp only [go_sem]) (by decide) fun p hp1=> ?_
   have hld:=hp1.all (U:=U) (ty:=71) (by simp only [go_sem]) (by simp only [go_sem]; exact hb.1 _ (VF hlt)) (by simp only [go_sem]; rw [hx _ (VF hlt)])
   simp only [go_sem,hld];refine (show ak Tryz.prog g (xs[i]::cap) _ _ from hp i hlt hlt2).pthen ?_
   cases d1:q ds[i]
   ·simp only [go_sem,r8,w1]
    refine ⟨_, ?_,rfl,i+1,by omega,rfl,fun j hj h2=> ?_, ?_, ?_, ?_, ?_⟩
    ·omega
    ·by_cases hji:j=i
     ·subst hji; exact d1
     ·exact hc j (by omega) h2
    all_goals simp only [go_sem,r0,r1,r7]
   ·simp only [go_sem]
    exact .same (.refl _) ⟨by rw [me hlt2 d1 fun j hj=>hc j hj (by omega)]; rfl,rfl⟩
  ·have hge:i=xs.length:=by have:=VD e; omega
   simp only [go_sem];exact .same (.refl _) ⟨by rw [iI fun j hj=>hc j (by omega) hj]; rfl,rfl⟩
theorem Hs {α:Type} (y:AV) (xs:List AV) (ds:List α) (q:α→Bool) (g:FuncId) (cap:List AV) (h:Heap) (hb:Rd h 3 y xs) (hn:xs.length=ds.length) (hl:xs.length≤1000000000) (hx:∀x∈xs,bA x=true)
  (hp:∀i (h1:i<xs.length) (h2:i<ds.length),ak Tryz.prog g (xs[i]::cap) h fun r h' =>r= .v (.bool (q ds[i]))∧h' =h):
  ak Tryz.prog 110 [y, .fn g cap] h fun r h' =>r= .v (.int .i64 (ixD q ds))∧h' =h:=by
 refine ak.body hU hm Tryz.func110 rfl (by kernel_rfl) 19 rfl [.tmp 4] rfl (Vz rfl) (fun hwf=> ?_)
 simp only [go_sem,hb.len];refine .intro (fun m ρ h' =>h' =h∧∃i:Nat,i≤xs.length∧m=xs.length - i∧(∀j (hj:j<i) (h2:j<ds.length),q ds[j]=false)∧lk ρ 0=some y∧lk ρ 1=some (.fn g cap)∧lk ρ 7=some (.v (.int .i64 xs.length))∧lk ρ 8=some (.v (.int .i64 i))) xs.length ?_ ?_
 ·refine ⟨rfl,0,by omega,rfl,fun j hj=>(by omega), ?_, ?_, ?_, ?_⟩<;>simp only [go_sem]
 ·rintro m ρ h' ⟨rfl,i,hi,rfl,hc,r0,r1,r7,r8⟩
  simp only [go_sem,r7,r8];refine .intro (fun e=> ?_) (fun e=> ?_)
  ·have hlt:i<xs.length:=VH e
   have hlt2:i<ds.length:=by omega
   have w1:=VG i (by omega)
   simp only [go_sem,r0,r1,r8];refine hb.idx (e:=64) i rfl hlt (by simp only [go_sem]) (by decide) fun p hp1=> ?_
   have hld:=hp1.all (U:=U) (ty:=64) (by simp only [go_sem]) (by simp only [go_sem]; exact hb.1 _ (VF hlt)) (by simp only [go_sem]; rw [hx _ (VF hlt)])
   simp only [go_sem,hld];refine (show ak Tryz.prog g (xs[i]::cap) _ _ from hp i hlt hlt2).pthen ?_
   cases d1:q ds[i]
   ·simp only [go_sem,r8,w1]
    refine ⟨_, ?_,rfl,i+1,by omega,rfl,fun j hj h2=> ?_, ?_, ?_, ?_, ?_⟩
    ·omega
    ·by_cases hji:j=i
     ·subst hji; exact d1
     ·exact hc j (by omega) h2
    all_goals simp only [go_sem,r0,r1,r7]
   ·simp only [go_sem]
    exact .same (.refl _) ⟨by rw [me hlt2 d1 fun j hj=>hc j hj (by omega)]; rfl,rfl⟩
  ·have hge:i=xs.length:=by have:=VD e; omega
   simp only [go_sem];exact .same (.refl _) ⟨by rw [iI fun j hj=>hc j (by omega) hj]; rfl,rfl⟩
theorem E8 (y:AV) (ds:List mo) (q:mo→Bool) (g:FuncId) (cap:List AV) (h:Heap) (hb:Rd h 7 y (ds.map fM)) (hl:ds.length≤1000000000)
  (hp:∀i (h2:i<ds.length),ak Tryz.prog g (fM ds[i]::cap) h fun r h' =>r= .v (.bool (q ds[i]))∧h' =h):
  ak Tryz.prog 51 [y, .fn g cap] h fun r h' =>r= .v (.bool (ds.any q))∧h' =h:=by
 refine ak.body hU hm Tryz.func51 rfl (by kernel_rfl) 9 rfl [.tmp 4] rfl (Vz rfl) (fun hwf=> ?_)
 simp only [go_sem];refine (Hu y _ ds q g cap h hb (by simp) (by simpa using hl) (mQ (fun _=>rfl) _) fun i a b=>by rw [VB]; exact hp i b).pthen ?_
 simp only [go_sem,sw];exact .same (.refl _) ⟨rfl,rfl⟩
theorem E7 (y:AV) (ds:List cA) (q:cA→Bool) (g:FuncId) (cap:List AV) (h:Heap) (hb:Rd h 3 y (ds.map bp)) (hl:ds.length≤1000000000)
  (hp:∀i (h2:i<ds.length),ak Tryz.prog g (bp ds[i]::cap) h fun r h' =>r= .v (.bool (q ds[i]))∧h' =h):
  ak Tryz.prog 72 [y, .fn g cap] h fun r h' =>r= .v (.bool (ds.any q))∧h' =h:=by
 refine ak.body hU hm Tryz.func72 rfl (by kernel_rfl) 9 rfl [.tmp 4] rfl (Vz rfl) (fun hwf=> ?_)
 simp only [go_sem];refine (Hs y _ ds q g cap h hb (by simp) (by simpa using hl) (mQ (fun _=>rfl) _) fun i a b=>by rw [VB]; exact hp i b).pthen ?_
 simp only [go_sem,sw];exact .same (.refl _) ⟨rfl,rfl⟩
theorem CE (y:AV) (xs:List AV) (ds:List aL) (q:aL→Bool) (g:FuncId) (cap:List AV) (h:Heap) (hb:Rd h 5 y xs) (hn:xs.length=ds.length) (hl:xs.length≤1000000000) (hx:∀x∈xs,bA x=true)
  (hp:∀i (h1:i<xs.length) (h2:i<ds.length),ak Tryz.prog g (xs[i]::cap) h fun r h' =>r= .v (.bool (q ds[i]))∧h' =h):
  ak Tryz.prog 77 [y, .fn g cap] h fun r h' =>r= .v (.bool (ds.any q))∧h' =h:=by
 refine ak.body hU hm Tryz.func77 rfl (by kernel_rfl) 9 rfl [.tmp 4] rfl (Vz rfl) (fun hwf=> ?_)
 simp only [go_sem];refine (sH y xs ds q g cap h hb hn hl hx hp).pthen ?_;simp only [go_sem,sw];exact .same (.refl _) ⟨rfl,rfl⟩
theorem Hz {h:Heap} (r:mo) {k1 k2:Nat} {subj:Txt} {s:an} (hk1:h k1=some (.obj [.s subj] 9)) (hk2:h k2=some (.obj (sL s) 39)) (ht:0≤s.tick∧s.tick≤1099511627776) (hr:0≤r.tick∧r.tick≤1099511627776):
  ak Tryz.prog 52 [fM r, .ptr k1 0, .ptr k2 0] h fun x h' =>x= .v (.bool (r.subj==subj && mL s r))∧h' =h:=by
 have w:IntKind.i64.wrap (s.tick - r.tick)=s.tick - r.tick:=bu _ (by omega)
 obtain ⟨tick,cs,rv,nt,ro,⟨pid,pset,palg,ptgt,prules,pkids,pobls⟩,ver⟩:=s;simp only [sL] at hk2;simp only at w;refine ak.body hU hm Tryz.func52 rfl (by kernel_rfl) 21 rfl [.tmp 4] rfl (Vz rfl) (fun hwf=> ?_)
 simp only [go_sem,fM];intro i3 h3;have n31:i3≠k1:=fun e=>by rw [e,hk1] at h3; cases h3
 have n32:i3≠k2:=fun e=>by rw [e,hk2] at h3; cases h3
 cases d1:(r.subj==subj)
 ·simp only [go_sem,aj,n31.symm,hk1,d1]
  exact .mk _ (.refl _) (.ai h3) ⟨rfl,rfl⟩
 cases d2:r.isOpen
 ·simp only [go_sem,aj,n31.symm,hk1,d1]
  exact .mk _ (.refl _) (.ai h3) ⟨by simp only [mL,d2]; rfl,rfl⟩
 ·simp only [go_sem,aj,n31.symm,n32.symm,hk1,hk2,d1,w]
  exact .mk _ (.refl _) (.ai h3) ⟨by simp only [mL,d2]; rfl,rfl⟩
set_option maxRecDepth 100000 in
theorem JQ (s:an) (subj:Txt) (hn:s.reviews.length≤1000000) (ht:0≤s.tick∧s.tick≤1099511627776) (hr:gJ s) (h:Heap):ak Tryz.prog 21 [cP s, .s subj] h fun x h' =>x= .v (.bool (AZ s subj))∧h' =h:=by
 have hl1:=fun (H:Heap) (k1 k2:Nat) (e1:H k1=some (.obj [.s subj] 9)) (e2:H k2=some (.obj (sL s) 39))=>E8 (o9 s.reviews) s.reviews (fun r=>r.subj==subj && mL s r) 52 [.ptr k1 0, .ptr k2 0] H (eJ fM 7 (fun _=>rfl) H _) (by omega) fun i h2=>Hz _ e1 e2 ht (hr _ (VF h2))
 simp only [show∀l:List mo,(l.any fun r=>r.subj==subj && mL s r)=AZ {s with reviews:=l} subj from fun l=>rfl] at hl1
 have hst:=gv s;obtain ⟨tick,cs,rv,nt,ro,⟨pid,pset,palg,ptgt,prules,pkids,pobls⟩,ver⟩:=s;rw [hst];simp only [sL] at hl1⊢;refine ak.body hU hm Tryz.func21 rfl (by kernel_rfl) 9 rfl [.tmp 4] rfl (Vz rfl) (fun hwf=> ?_)
 simp only [go_sem];intro i2 h2;simp only [go_sem];intro i3 h3;have n32:=aE h3;have n3:=au h3;have hs:∀x y,Ab.Sub h (upd (upd h i2 x) i3 y):=fun x y=>((Sub.refl h).put h2 x).put n3 y
 simp only [go_sem,aj,n32.symm];refine (hl1 _ i3 i2 (ah ..) (by rw [ag _ _ n32.symm,ah])).pthen ?_
 simp only [go_sem];exact .mk _ (.refl _) (hs _ _) ⟨rfl,rfl⟩
set_option maxRecDepth 100000 in
theorem Ex (s:an) (o:OpD) (m:aS) (hm9:M9 m) (hn:s.reviews.length≤1000000) (hro:s.roles.length≤1000000) (ht:0≤s.tick∧s.tick≤1099511627776) (hr:gJ s) (h:Heap):ak Tryz.prog 34 [cP s,opA o,aR m] h fun x h' =>x= .v (.bool (pJ s o m))∧h' =h:=by
 have hla:=fun G=>JQ s o.subj hn ht hr G
 have hha:=fun G=>CH (rdS G s) o.subj mU (by omega)
 have hbd:pJ s o m=(o.glass && (m==bR||m==naM) && ux s.roles ⟨o.subj,mU⟩ && !AZ s o.subj):=rfl
 have de:=(nb hm9).de;have na:=(nb hm9).na;have hst:=gv s;obtain ⟨tick,cs,rv,nt,ro,⟨pid,pset,palg,ptgt,prules,pkids,pobls⟩,ver⟩:=s;rw [hst] at hla hha⊢;simp only [sL,mU] at hla hha hbd⊢;refine ak.body hU hm Tryz.func34 rfl (by kernel_rfl) 30 rfl [.tmp 6] rfl (Vz rfl) (fun hwf=> ?_)
 simp only [go_sem,opA,opC,aR];intro i3 h3;simp only [go_sem];intro i4 h4;have n43:=aE h4;have n4:=au h4;have hs:∀x y,Ab.Sub h (upd (upd h i3 x) i4 y):=fun x y=>((Sub.refl h).put h3 x).put n4 y
 cases dg:o.glass
 ·simp only [go_sem]
  exact .mk _ (.refl _) (hs _ _) ⟨by rw [hbd,dg]; rfl,rfl⟩
 cases d1:(m==bR)<;>cases d2:(m==naM)
 case false.false=>
  simp only [go_sem,de,na,d1,d2];exact .mk _ (.refl _) (hs _ _) ⟨by rw [hbd,dg,d1,d2]; rfl,rfl⟩
 all_goals
  simp only [go_sem,aj,n43.symm,de,na,d1,d2];refine (hha _).pthen ?_;cases dh:ux ro ⟨o.subj,[103,108,97,115,115]⟩
  ·simp only [go_sem]
   exact .mk _ (.refl _) (hs _ _) ⟨by rw [hbd,dg,d1,d2,dh]; rfl,rfl⟩
  ·simp only [go_sem,aj,n43.symm]
   refine (hla _).pthen ?_;simp only [go_sem];exact .mk _ (.refl _) (hs _ _) ⟨by rw [hbd,dg,d1,d2,dh]; rfl,rfl⟩
theorem Fa {h:Heap} (x:cA) {k:Nat} {field:Txt} (hk:h k=some (.obj [.s field] 9)):ak Tryz.prog 73 [bp x, .ptr k 0] h fun r h' =>r= .v (.bool (x.kind==2 && x.arg==field))∧h' =h:=by
 refine ak.body hU hm Tryz.func73 rfl (by kernel_rfl) 13 rfl [.tmp 3] rfl (Vz rfl) (fun hwf=> ?_)
 simp only [go_sem,bp];intro i2 h2;have n2:i2≠k:=fun e=>by rw [e,hk] at h2; cases h2
 cases d1:(x.kind==2)
 all_goals
  simp only [go_sem,aj,n2.symm,hk,d1];exact .mk _ (.refl _) (.ai h2) ⟨rfl,rfl⟩
theorem Hi (l:List cA) (hl:l.length≤1000000000) (field:Txt) (h:Heap):ak Tryz.prog 38 [aA l, .s field] h fun r h' =>r= .v (.bool (jg l field))∧h' =h:=by
 refine ak.body hU hm Tryz.func38 rfl (by kernel_rfl) 8 rfl [.tmp 4] rfl (Vz rfl) (fun hwf=> ?_)
 simp only [go_sem,aA];intro i3 h3;simp only [go_sem];refine (E7 (.sl (l.map bp) .no) l (fun x=>x.kind==2 && x.arg==field) _ [.ptr i3 0] _ (eJ bp 3 (fun _=>rfl) _ _) hl fun i h2=>Fa _ (ah ..)).pthen ?_
 simp only [go_sem];exact .mk _ (.refl _) (.ai h3) ⟨rfl,rfl⟩
theorem HU {h:Heap} {x:AV} {c:aL} (hb:RdC h x c):ak Tryz.prog 78 [x] h fun r h' =>r= .v (.bool (decide (256<c.log.length)))∧h' =h:=by
 obtain ⟨f,l,rfl,hf,hl⟩:=hb;have e:decide ((256:Int)<(c.log.length:Int))=decide (256<c.log.length):=by
  rw [decide_eq_decide]; omega
 refine ak.body hU hm Tryz.func78 rfl (by kernel_rfl) 7 rfl [.tmp 2] rfl (Vz rfl) (fun hwf=> ?_)
 simp only [go_sem];intro i1 h1;simp only [go_sem,hl.len,VA,e];exact .mk _ (.refl _) (.ai h1) ⟨rfl,rfl⟩
set_option maxRecDepth 100000 in
theorem HW {h:Heap} {x:AV} {s:an} (hb:RdS h x s) (hc:s.cases.length≤1000000):ak Tryz.prog 41 [x] h fun r h' =>r= .v (.bool (lS s))∧h' =h:=by
 obtain ⟨y1,y2,y3,y4,rfl,⟨xs,hx,hn,hcs⟩,h2,h3,h4⟩:=hb;have hod:lS s=(decide (256<s.reviews.length)||decide (256<s.notices.length)||s.cases.any fun c=>decide (256<c.log.length)):=rfl
 have e2:decide ((256:Int)<(s.reviews.length:Int))=decide (256<s.reviews.length):=by
  rw [decide_eq_decide]; omega
 have e3:decide ((256:Int)<(s.notices.length:Int))=decide (256<s.notices.length):=by
  rw [decide_eq_decide]; omega
 have hca:=fun (G:Heap) (hG:Ab.Sub h G)=>CE y1 xs s.cases (fun c=>decide (256<c.log.length)) 78 [] G (hx.sub hG) hn (by omega) (w9.agg hn hcs) fun i a b=>HU ((hcs i a b).sub hG)
 cases hpp:s.policy with
 |mk pid pset palg ptgt prules pkids pobls=>
 refine ak.body hU hm Tryz.func41 rfl (by kernel_rfl) 18 rfl [.tmp 2] rfl (Vz rfl) (fun hwf=> ?_)
 simp only [go_sem,fI,aX,List.cons_append,List.nil_append];intro i1 h1;cases d2:decide (256<s.reviews.length)
 case true=>
  simp only [go_sem,h2.len,VA,e2,d2];exact .mk _ (.refl _) (.ai h1) ⟨by rw [hod,d2]; rfl,rfl⟩
 cases d3:decide (256<s.notices.length)
 case true=>
  simp only [go_sem,h2.len,h3.len,VA,e2,e3,d2,d3];exact .mk _ (.refl _) (.ai h1) ⟨by rw [hod,d2,d3]; rfl,rfl⟩
 simp only [go_sem,h2.len,h3.len,VA,e2,e3,d2,d3];refine (hca _ (.ai h1)).pthen ?_;simp only [go_sem];exact .mk _ (.refl _) (.ai h1) ⟨by rw [hod,d2,d3]; rfl,rfl⟩
theorem HF {h:Heap} {x:AV} {c:aL} (hb:RdC h x c) {k:Nat} {o:OpD} (hk:h k=some (.obj (opC o) 26)):ak Tryz.prog 111 [x, .ptr k 0] h fun r h' =>r= .v (.bool (c.id==o.case))∧h' =h:=by
 obtain ⟨f,l,rfl,hf,hl⟩:=hb;simp only [opC] at hk;refine ak.body hU hm Tryz.func111 rfl (by kernel_rfl) 9 rfl [.tmp 3] rfl (Vz rfl) (fun hwf=> ?_)
 simp only [go_sem];intro i1 h1;have n1:k≠i1:=fun e=>by subst e; rw [hk] at h1; cases h1
 simp only [go_sem,aj,n1,hk];exact .mk _ (.refl _) (.ai h1) ⟨rfl,rfl⟩
end Go.Proofs.YtnlbeamjpefpfaaGreatDoor
namespace Go.Ab
open Go
theorem OwE.more {tb:TypeId} {g h0 h:Heap} {sz:Nat} {y:AV} {xs:List AV} (hw:OwE tb h0 h sz y xs) (hg:∀id,h0 id=Option.none→h id≠Option.none→g id=Option.none):OwE tb g h sz y xs:=by
 rcases hw with hw|⟨id,e,hw⟩
 ·exact .inl hw
 ·exact .inr ⟨id,hg _ e hw.none,hw⟩
end Go.Ab
namespace Go.Proofs.YtnlbeamjpefpfaaGreatDoor
open Go Go.Ab Go.Bf
theorem fe.more {g h0 h:Heap} {ys:List AV} {x:AV} {c:aL} (hm:fe h0 h ys x c) (hg:∀id,h0 id=none→h id≠none→g id=none):fe g h ys x c:=by
 obtain ⟨f,l,e,a,b,c⟩:=hm;exact ⟨f,l,e,a.more hg,b.more hg,c⟩
theorem kE.more {g h0 h:Heap} {ys:List AV} {y:AV} {cs:List aL} {i0:Nat} (ho:kE h0 h ys y cs i0) (hg:∀id,h0 id=none→h id≠none→g id=none):kE g h ys y cs i0:=by
 obtain ⟨xs,a,b,c,d⟩:=ho;exact ⟨xs,a.more hg,b,c,fun h1 h2=>(d h1 h2).more hg⟩
theorem OwR.more {g h0 h:Heap} {y:AV} {rs:List gI} (hr:OwR h0 h y rs) (hg:∀id,h0 id=none→h id≠none→g id=none):OwR g h y rs:=by
 rcases hr with hr|hr
 ·exact .inl hr
 ·exact .inr (hr.more hg)
theorem gV.more {g h0 h:Heap} {y1 y2 y3 y4:AV} {s:an} {j:Nat} (ho:gV h0 h y1 y2 y3 y4 s j) (hg:∀id,h0 id=none→h id≠none→g id=none):gV g h y1 y2 y3 y4 s j:=
 {ho with cs:=ho.cs.more hg,rv:=ho.rv.more hg,nt:=ho.nt.more hg,rl:=ho.rl.more hg}
def GSt (g H:Heap) (k:Nat) (s:an) (j:Nat):Prop:=∃y1 y2 y3 y4,H k=some (.obj (stC s y1 y2 y3 y4) 39)∧gV g H y1 y2 y3 y4 s j∧g k≠none∧∀i b,i≠k→g i=some b→H i=some b
theorem GSt.box {g H:Heap} {k:Nat} {s:an} {j:Nat} (hG:GSt g H k s j) {i:Nat} (hi:H i=none) (b:Blk):GSt (upd g i (some b)) (upd H i (some b)) k s j:=by
 obtain ⟨y1,y2,y3,y4,hk,ho,hgk,hfr⟩:=hG;have nk:i≠k:=fun e=>by rw [e,hk] at hi; cases hi
 refine ⟨y1,y2,y3,y4,by rw [ag _ _ nk.symm]; exact hk,(ho.more (g:=upd g i (some b)) fun id h0 hne=> ?_).keep fun id _ hne=>ag _ _ fun e=>hne (by rw [e]; exact hi),by rw [ag _ _ nk.symm]; exact hgk,fun q c hq hc=> ?_⟩
 ·rw [ag _ _ fun e=>hne (by rw [e]; exact hi)]; exact h0
 ·by_cases e:q=i
  ·subst e; rw [ah] at hc⊢; exact hc
  ·rw [ag _ _ e] at hc⊢; exact hfr q c hq hc
theorem GSt.unbox {g H:Heap} {k:Nat} {s:an} {j:Nat} {i:Nat} {b:Blk} (hG:GSt (upd g i (some b)) H k s j) (hi:i≠k) (hgi:g i=none):GSt g H k s j∧H i=some b:=by
 obtain ⟨y1,y2,y3,y4,hk,ho,hgk,hfr⟩:=hG;refine ⟨⟨y1,y2,y3,y4,hk,ho.bI fun q hq=> ?_,by rw [ag _ _ hi.symm] at hgk; exact hgk,fun q c hq hc=>hfr q c hq ?_⟩,hfr i b hi (ah ..)⟩
 ·by_cases e:q=i
  ·rw [e]; exact hgi
  ·rw [ag _ _ e] at hq; exact hq
 ·rw [ag _ _ fun e=>by rw [e,hgi] at hc; cases hc]; exact hc
theorem GSt.base {g H:Heap} {k:Nat} {s:an} {j:Nat} (hG:GSt g H k s j):∃G,Ab.Sub G H∧(∀i,G i=none↔g i=none)∧∀i,i≠k→G i=g i:=by
 obtain ⟨y1,y2,y3,y4,hk,ho,hgk,hfr⟩:=hG;refine ⟨upd g k (H k),fun i b hi=> ?_,fun i=> ?_,fun i hi=>ag _ _ hi⟩
 ·by_cases e:i=k
  ·subst e; rw [ah] at hi; exact hi
  ·rw [ag _ _ e] at hi; exact hfr i b e hi
 ·by_cases e:i=k
  ·subst e; rw [ah,hk]; simp [hgk]
  ·rw [ag _ _ e]
theorem GSt.rd {g H:Heap} {k:Nat} {s:an} {j:Nat} (hG:GSt g H k s j):∃y1 y2 y3 y4,H k=some (.obj (stC s y1 y2 y3 y4) 39)∧RdS H (.agg (stC s y1 y2 y3 y4)) s:=by
 obtain ⟨y1,y2,y3,y4,hk,ho,_⟩:=hG;exact ⟨y1,y2,y3,y4,hk,ho.rd⟩
set_option maxRecDepth 100000 in
theorem Be {g H:Heap} {k:Nat} {s:an} {j:Nat} (hG:GSt g H k s j) (o:OpD) (w:Txt) (hk64:i64 o.kind) (hn:s.reviews.length≤1000000000):
  ak Tryz.prog 36 [.ptr k 0,opA o, .s w] H fun r H' =>GSt g H' k (dD s o w) j:=by
 obtain ⟨G,sG,nG,oG⟩:=hG.base;obtain ⟨y1,y2,y3,y4,hk,ho,hgk,hfr⟩:=hG;have ho2:gV G H y1 y2 y3 y4 s j:=ho.bI fun i hi=>(nG i).2 hi
 have w1:IntKind.i64.wrap ((s.reviews.length:Int)+1)=(s.reviews.length:Int)+1:=bu _ (by omega)
 obtain ⟨pid,pset,palg,ptgt,prules,pkids,pobls,hpp⟩:∃a b c d e f g,s.policy= .mk a b c d e f g:=by cases s.policy; exact ⟨_,_,_,_,_,_,_,rfl⟩
 have hst:∀z,stC (dD s o w) y1 z y3 y4= [.v (.int .i64 s.tick),y1,z,y3,y4, .s pid, .v (.bool pset), .v (.int .i64 palg),aU ptgt, .sl (prules.map aC) .no, .sl (pkids.map aK) .no,aA pobls, .v (.int .i64 s.version)]:=fun z=>by simp [stC,dD,hpp,fI,aX]
 have hst0:stC s y1 y2 y3 y4= [.v (.int .i64 s.tick),y1,y2,y3,y4, .s pid, .v (.bool pset), .v (.int .i64 palg),aU ptgt, .sl (prules.map aC) .no, .sl (pkids.map aK) .no,aA pobls, .v (.int .i64 s.version)]:=by simp [stC,hpp,fI,aX]
 rw [hst0] at hk;refine ak.body hU hm Tryz.func36 rfl (by kernel_rfl) 34 rfl [] rfl (Vz rfl) (fun hwf=> ?_)
 simp only [go_sem,opA,opC];intro i4 h4;have n4k:i4≠k:=fun e=>by rw [e,hk] at h4; cases h4
 simp only [go_sem];obtain ⟨K,eK⟩:∃K,upd H i4 (some (.obj [.v (.int .i64 o.kind), .s o.subj, .s o.case, .s o.field, .s o.to, .v (.int .i64 o.val.kind), .v (.int .i64 o.val.n), .s o.val.s, .v (.int .i64 o.review), .s o.text, .s o.reason, .v (.bool o.glass)] 26))=K:=⟨_,rfl⟩;have sK:Ab.Sub H K:=by rw [←eK]; exact .ai h4
 have k4:K i4=some (.obj [.v (.int .i64 o.kind), .s o.subj, .s o.case, .s o.field, .s o.to, .v (.int .i64 o.val.kind), .v (.int .i64 o.val.n), .s o.val.s, .v (.int .i64 o.review), .s o.text, .s o.reason, .v (.bool o.glass)] 26):=by rw [←eK,ah]
 have kk:=sK _ _ hk;have hoK:gV G K y1 y2 y3 y4 s j:=ho2.keep fun id _ hne=>by rw [←eK]; exact ag _ _ fun e=>hne (by rw [e]; exact h4)
 rw [eK];have p4:=(bz (H:=K) (l:= [k,i4]) (show i4∈ [k,i4] by simp)).trans k4
 have pk:=(bz (H:=K) (l:= [k,i4]) (show k∈ [k,i4] by simp)).trans kk
 refine .stage (pick K [k,i4]) [0,1,2,3,4,5,6,7,8,9,10,11,12,13,14,15,16,17,18,19,20,22,21,23,24,25,26,27] [28] bt (by kernel_rfl) ?_
 simp only [go_sem,pk,p4,hoK.rv.rd.len,VA,w1];refine (xJ o.kind hk64 _).pthen ?_;refine ⟨bt, ?_⟩;simp only [go_sem];have hap1:Rd K 7 (.sl [fM (wG s o w)] .full) [fM (wG s o w)]:= .sl (by intro z hz; rw [List.mem_singleton.1 hz]; rfl) .full
 refine OwE.app (U:=U) (tb:=71) hoK.rv (sG.trans sK) hap1 (by simp only [go_sem]) (by decide) (by simp only [go_sem,ne_eq,not_false_eq_true]) (by simp only [go_sem]) (by simp) (by simp only [go_sem,List.length_cons,List.length_nil,VA]; omega) fun id y' K2 hid hor how hoth=> ?_
 have hor' :K id=none∨nid y2=some id:=by
  rcases hor with hor|⟨l,c,ey⟩
  ·exact .inl hor
  ·exact .inr (by rw [ey]; rfl)
 have nik:k≠id:=fun e=>hgk ((nG k).1 (by rw [e]; exact hid))
 have ni4:i4≠id:=by
  rcases hor' with hor|hor
  ·exact fun e=>by rw [←e,k4] at hor; cases hor
  ·exact fun e=>(ho2.rv.nid hor).2.1 (by rw [←e]; exact h4)
 have m4:=(hoth i4 ni4).trans k4;have mk:=(hoth k nik).trans kk;refine ⟨gZ fun q hq=> ?_, ?_⟩
 ·simp only [List.mem_cons,List.not_mem_nil,or_false] at hq
  rcases hq with rfl|rfl
  ·rw [mk,kk]
  ·rw [m4,k4]
 simp only [go_sem];refine ⟨cO,fun _ _ e=>(by cases e), ?_⟩
 simp only [go_sem,mk,how.rd.fit,how.rd.cells];refine ⟨fun _ _ e=>(by cases e), ?_⟩
 refine .same (.refl _) ⟨y1,y',y3,y4,by rw [ah,hst],gV.bI (h0:=G) ?_ fun i hi=>(nG i).1 hi,hgk,fun i b hi hb=> ?_⟩
 ·refine hoK.revs (rs:=s.reviews++ [wG s o w]) (.inr ⟨id,hid,by rw [List.map_append]; exact how.same (ag _ _ nik.symm)⟩) (fun q hq=> ?_) fun q hq hne hz=> ?_
  ·have:id=q:=by have:=how.nid; rw [hq] at this; exact (Option.some.inj this).symm
   rw [←this]; exact hor'
  ·have n1:q≠k:=fun e=>hgk ((nG k).1 (by rw [←e]; exact hq))
   have n2:q≠id:=fun e=>by
    rcases hor' with h|h
    ·exact hne (by rw [e]; exact h)
    ·exact hz (by rw [e]; exact h)
   rw [ag _ _ n1,hoth q n2]
 ·have n2:i≠id:=fun e=>by
   have:=(nG id).1 hid;rw [←e,hb] at this; cases this
  rw [ag _ _ hi,hoth i n2];exact sK _ _ (hfr i b hi hb)
end Go.Proofs.YtnlbeamjpefpfaaGreatDoor
namespace Go.Bf
open Go Go.Ab Go.Proofs.YtnlbeamjpefpfaaGreatDoor
theorem A3 {s:an} {o:OpD} {w:Txt} (h:¬(gM s.cases o.case<s.cases.length∧o.kind≠6)):ij s o w=s:=by unfold ij; rw [if_neg h]
theorem HG {s:an} {o:OpD} {w:Txt} {j:Nat} (h1:gM s.cases o.case<s.cases.length) (h2:o.kind≠6) (e:gM s.cases o.case=j):ij s o w= {s with cases:=s.cases.modify j fun c=>iG s c o.subj w}:=by unfold ij; rw [if_pos ⟨h1,h2⟩,e]
end Go.Bf
namespace Go.Proofs.YtnlbeamjpefpfaaGreatDoor
open Go Go.Ab Go.Bf
set_option maxRecDepth 100000 in
theorem HH {g H:Heap} {k:Nat} {s:an} {j:Nat} (hG:GSt g H k s j) (o:OpD) (w:Txt) (hc:s.cases.length≤1000000) (hl:∀c∈s.cases,c.log.length≤1000000000) (hj:gM s.cases o.case<s.cases.length→o.kind≠6→j=gM s.cases o.case):
  ak Tryz.prog 76 [.ptr k 0,opA o, .s w] H fun r H' =>GSt g H' k (ij s o w) j:=by
 obtain ⟨G,sG,nG,oG⟩:=hG.base;obtain ⟨y1,y2,y3,y4,hk,ho,hgk,hfr⟩:=hG;have ho2:gV G H y1 y2 y3 y4 s j:=ho.bI fun i hi=>(nG i).2 hi
 obtain ⟨pid,pset,palg,ptgt,prules,pkids,pobls,hpp⟩:∃a b c d e f g,s.policy= .mk a b c d e f g:=by cases s.policy; exact ⟨_,_,_,_,_,_,_,rfl⟩
 have hst0:stC s y1 y2 y3 y4= [.v (.int .i64 s.tick),y1,y2,y3,y4, .s pid, .v (.bool pset), .v (.int .i64 palg),aU ptgt, .sl (prules.map aC) .no, .sl (pkids.map aK) .no,aA pobls, .v (.int .i64 s.version)]:=by simp [stC,hpp,fI,aX]
 rw [hst0] at hk;refine ak.body hU hm Tryz.func76 rfl (by kernel_rfl) 44 rfl [] rfl (Vz rfl) (fun hwf=> ?_)
 simp only [go_sem,opA,opC];intro i4 h4;have n4k:i4≠k:=fun e=>by rw [e,hk] at h4; cases h4
 obtain ⟨K,eK⟩:∃K,upd H i4 (some (.obj [.v (.int .i64 o.kind), .s o.subj, .s o.case, .s o.field, .s o.to, .v (.int .i64 o.val.kind), .v (.int .i64 o.val.n), .s o.val.s, .v (.int .i64 o.review), .s o.text, .s o.reason, .v (.bool o.glass)] 26))=K:=⟨_,rfl⟩;have sK:Ab.Sub H K:=by rw [←eK]; exact .ai h4
 have k4:K i4=some (.obj [.v (.int .i64 o.kind), .s o.subj, .s o.case, .s o.field, .s o.to, .v (.int .i64 o.val.kind), .v (.int .i64 o.val.n), .s o.val.s, .v (.int .i64 o.review), .s o.text, .s o.reason, .v (.bool o.glass)] 26):=by rw [←eK,ah]
 have kk:=sK _ _ hk;have hoK:gV G K y1 y2 y3 y4 s j:=ho2.keep fun id _ hne=>by rw [←eK]; exact ag _ _ fun e=>hne (by rw [e]; exact h4)
 have hfin:GSt g K k s j:=⟨y1,y2,y3,y4,by rw [hst0]; exact kk,hoK.bI fun i hi=>(nG i).1 hi,hgk,fun i b hi hb=>sK _ _ (hfr i b hi hb)⟩
 have hix:ak Tryz.prog 86 [y1, .fn 111 [.ptr i4 0]] K fun r h' =>r= .v (.int .i64 (ixD (fun c:aL=>c.id==o.case) s.cases))∧h' =K:=by
  obtain ⟨xs,hx,hn,hcs⟩:=hoK.cs.rd;exact sH y1 xs s.cases (fun c=>c.id==o.case) _ [.ptr i4 0] K hx hn (by omega) (w9.agg hn hcs) fun i a b=>HF (hcs i a b) k4
 have hcsK:=hoK.cs;have n4G:∀id,G id=none→K id≠none→id≠i4→H id=K id:=fun id _ _ h=>by rw [←eK,ag _ _ h]
 simp only [go_sem,aj,n4k.symm,hk];rw [eK];refine hix.pthen ?_
 by_cases hx:gM s.cases o.case<s.cases.length
 case neg=>
  have e1:ixD (fun c:aL=>c.id==o.case) s.cases= -1:=if_neg hx
  have d1:decide ((-1:Int)<0)=true:=rfl;rw [e1];simp only [go_sem,d1];exact .same (.refl _) (by rw [A3 fun h=>hx h.1]; exact hfin)
 have e1:ixD (fun c:aL=>c.id==o.case) s.cases=(gM s.cases o.case:Nat):=if_pos hx
 have d1:decide (((gM s.cases o.case:Nat):Int)<0)=false:=decide_eq_false (by omega)
 rw [e1];cases d6:(o.kind==6)
 case true=>
  have h6:o.kind=6:=by simpa using d6
  simp only [go_sem,d1,k4,d6];exact .same (.refl _) (by rw [A3 fun h=>h.2 h6]; exact hfin)
 have h6:o.kind≠6:=by simpa using d6
 have hjj:=hj hx h6;have hlo:=HG (w:=w) hx h6 hjj.symm;have hjc:j<s.cases.length:=by rw [hjj]; exact hx
 rw [←hjj] at d1⊢;rw [hlo];obtain ⟨xs,w1,hnx,hlw,hmy⟩:=hcsK;have hjx:j<xs.length:=by omega
 obtain ⟨f,l,ex,of,ol,hap,hys⟩:=hmy hjx hjc;obtain ⟨id1,hg1,o1⟩:=w1.ow (by intro e; rw [e] at hjx; cases hjx)
 have o1' :=o1;obtain ⟨cap,rest,ey,hid,hrl,hcap,hsz⟩:=o1';have lA:j*5=(aq (xs.take j)).length:=by rw [aW fun z hz=>hsz z (List.mem_of_mem_take hz),List.length_take]; omega
 have hidK:K id1=some (.obj (aq (xs.take j)++(bY s.cases[j] f l++(aq (xs.drop (j+1))++rest))) 78):=by
  rw [hid,zo hjx,ex];simp [bY,AV.cells]
 have n1k:id1≠k:=kD o1 kk (by decide)
 have n14:id1≠i4:=kD o1 k4 (by decide)
 have hll:=hl _ (VF hjc);have p4:=(bz (H:=K) (l:= [k,i4,id1]) (show i4∈ [k,i4,id1] by simp)).trans k4
 have pk:=(bz (H:=K) (l:= [k,i4,id1]) (show k∈ [k,i4,id1] by simp)).trans kk
 have p1:=(bz (H:=K) (l:= [k,i4,id1]) (show id1∈ [k,i4,id1] by simp)).trans hidK
 have hc4:(aq (xs.take j)++(bY s.cases[j] f l++(aq (xs.drop (j+1))++rest)))[j*5+4]? =some l:=by rw [lA,List.getElem?_append_right (by omega),Nat.add_sub_cancel_left]; rfl
 obtain ⟨CS,eCS⟩:∃CS,aq (xs.take j)++(bY s.cases[j] f l++(aq (xs.drop (j+1))++rest))=CS:=⟨_,rfl⟩;rw [eCS] at hc4 p1 hidK;simp only [go_sem,d1,k4,d6,kk];refine o1.idx (U:=U) (e:=78) j rfl hjx lY (by decide) ?_
 simp only [go_sem];refine .stage (pick K [k,i4,id1]) [0,1,2,3,4,5,6,7,8,9,10,11,12,13,14,15,16] [17] bt (by kernel_rfl) ?_
 simp only [go_sem,pk,p4,p1,hc4];have hap1:Rd K 3 (.sl [fZ ⟨s.tick,o.subj,w⟩] .full) [fZ ⟨s.tick,o.subj,w⟩]:= .sl (by intro z hz; rw [List.mem_singleton.1 hz]; rfl) .full
 refine OwE.app (U:=U) (tb:=82) ol (sG.trans sK) hap1 (by simp only [go_sem]) (by decide) (by simp only [go_sem,ne_eq,not_false_eq_true]) (by simp only [go_sem]) (by simp) (by simp only [go_sem,List.length_cons,List.length_nil,VA]; omega) fun id2 y' K2 g2 hor how hoth=> ?_
 have hor' :K id2=none∨nid l=some id2:=by
  rcases hor with hor|⟨l,c,ey⟩
  ·exact .inl hor
  ·exact .inr (by rw [ey]; rfl)
 have n2:∀ {q b t},K q=some (.obj b t)→t≠82→q≠id2:=fun {q b t} hq ht e=>by
  rcases hor' with h|h
  ·rw [e,h] at hq; cases hq
  ·exact kD (ol.nid h).2.2 hq ht e.symm
 have m4:=(hoth i4 (n2 k4 (by decide))).trans k4
 have mk:=(hoth k (n2 kk (by decide))).trans kk
 have m1:=(hoth id1 (n2 hidK (by decide))).trans hidK
 refine ⟨gZ fun q hq=> ?_, ?_⟩
 ·simp only [List.mem_cons,List.not_mem_nil,or_false] at hq
  rcases hq with rfl|rfl|rfl
  ·rw [mk,kk]
  ·rw [m4,k4]
  ·rw [m1,hidK]
 simp only [go_sem];refine ⟨cO,fun _ _ e=>(by cases e), ?_⟩
 simp only [go_sem,m1,how.rd.fit,how.rd.cells];have e5:List.take (j*5+4) CS++ [y']++List.drop (j*5+4+1) CS=aq (xs.take j)++(bY s.cases[j] f y' ++(aq (xs.drop (j+1))++rest)):=by
  have:=mY (A:=aq (xs.take j)++ [.s s.cases[j].id, .s s.cases[j].owner, .s s.cases[j].state,f]) (B:= [l]) (C:=aq (xs.drop (j+1))++rest) (X:= [y']) (k:=j*5+4) (m:=1) (by rw [lA]; simp) rfl rfl
  simp only [←eCS,bY,List.append_assoc,List.cons_append,List.nil_append] at this⊢;exact this
 rw [e5];refine ⟨by rw [←eCS]; simp only [VE,←lA,bY,List.length_cons,List.length_nil]; omega,(fun _ _ e=>by cases e), ?_⟩
 obtain ⟨F,eF⟩:∃F,upd K2 id1 (some (.obj (aq (xs.take j)++(bY s.cases[j] f y' ++(aq (xs.drop (j+1))++rest))) 78))=F:=⟨_,rfl⟩;have kF:∀q,q≠id1→q≠id2→F q=K q:=fun q a b=>by rw [←eF,ag _ _ a,hoth q b]
 have kF' :∀q,K q≠none→q≠id1→nid l≠some q→F q=K q:=fun q a b c=>kF q b fun e=>by
  rcases hor' with h|h
  ·exact a (by rw [e]; exact h)
  ·exact c (by rw [e]; exact h)
 have hF1:F id1=some (.obj (aq (xs.take j)++(bY s.cases[j] f y' ++(aq (xs.drop (j+1))++rest))) 78):=by rw [←eF,ah]
 have n12:id1≠id2:=n2 hidK (by decide)
 have hX5:Sized 5 (xs.set j (.agg (bY s.cases[j] f y'))):=fun z hz=>by
  rcases List.mem_or_eq_of_mem_set hz with hz|rfl
  ·exact hsz z hz
  ·rfl
 have hOw:Ow 78 F 5 id1 y1 (xs.set j (.agg (bY s.cases[j] f y'))):=⟨cap,rest,by rw [List.length_set]; exact ey,by rw [hF1,ru hjx]; simp [AV.cells],by rw [List.length_set]; exact hrl,by rw [List.length_set]; exact hcap,hX5⟩
 have hl' :OwE 82 G F 3 y' ((s.cases[j].log++ [(⟨s.tick,o.subj,w⟩:l7)]).map fZ):=by
  rw [List.map_append];exact .inr ⟨id2,g2,how.same (by rw [←eF,ag _ _ n12.symm])⟩
 have hny:∀q,nid y' =some q→q=id2:=fun q hq=>by have:=how.nid; rw [hq] at this; exact Option.some.inj this
 have nf1:nid f≠some id1:=fun e=>(hys y1 (by simp)).1 id1 e o1.nid
 have hof:OwE 111 G F 4 f (s.cases[j].fields.map bJ):=of.keep fun q e=>kF' q (of.nid e).2.1 (fun e' =>nf1 (by rw [←e']; exact e)) (hap q e)
 have hnid:∀ {y:AV},y∈ [y1,y2,y3,y4]→∀q,nid y=some q→K q≠none:=fun hy q e=>(hoK.mem hy e).2
 have hap2:∀ {y:AV},y∈ [y1,y2,y3,y4]→apart y' y:=fun {y} hy q e1 e2=>by
  have:=hny q e1;subst this;rcases hor' with h|h
  ·exact hnid hy _ e2 h
  ·exact (hys y hy).2 _ h e2
 have hkp:∀ {y:AV},y∈ [y2,y3,y4]→apart y1 y→∀q,nid y=some q→F q=K q:=fun {y} hy ha q e=>by
  have hy' :y∈ [y1,y2,y3,y4]:=List.mem_cons_of_mem _ hy;refine kF' q (hnid hy' q e) (fun e' =>ha id1 o1.nid (by rw [←e']; exact e)) fun e' =>(hys y hy').2 q e' e
 rw [eF];refine .same (.refl _) ⟨y1,y2,y3,y4, ?_,gV.bI (h0:=G) ?_ fun i hi=>(nG i).1 hi,hgk,fun i b hi hb=> ?_⟩
 ·rw [kF k n1k.symm (n2 kk (by decide)),kk]
  simp [stC,hpp,fI,aX]
 ·refine ⟨zE (X:= .agg (bY s.cases[j] f y')) (.inr ⟨id1,hg1,hOw⟩) hnx (fun q h1 h2 hq=>hlw q h1 h2 hq) fun hh=>⟨f,y',rfl,hof,hl',fun q e1 e2=> ?_,fun y hy=>⟨(hys y hy).1,hap2 hy⟩⟩,hoK.rv.keep (hkp (by simp) hoK.a12),hoK.nt.keep (hkp (by simp) hoK.a13),hoK.rl.keep (hkp (by simp) hoK.a14),hoK.a12,hoK.a13,hoK.a14,hoK.a23,hoK.a24,hoK.a34⟩
  have:=hny q e2;subst this;rcases hor' with h|h
  ·exact (of.nid e1).2.1 h
  ·exact hap _ e1 h
 ·have hGi:G i=some b:=by rw [oG i hi]; exact hb
  rw [kF i (fun e=>by rw [e,hg1] at hGi; cases hGi) (fun e=>by rw [e,g2] at hGi; cases hGi)]
  exact sK _ _ (hfr i b hi hb)
end Go.Proofs.YtnlbeamjpefpfaaGreatDoor
namespace Go.Bf
open Go Go.Ab Go.Proofs.YtnlbeamjpefpfaaGreatDoor
def qb (B:Nat) (s:an):Prop:=(∀c∈s.cases,c.log.length≤B)∧s.reviews.length≤B∧s.notices.length≤B
theorem qb.up {B C:Nat} {s:an} (h:qb B s) (hc:B≤C):qb C s:=⟨fun c hcc=>Nat.le_trans (h.1 c hcc) hc,Nat.le_trans h.2.1 hc,Nat.le_trans h.2.2 hc⟩
theorem E3 {B:Nat} {s:an} (o:OpD) (done:Bool) (x:cA) (h:qb B s):qb (B+1) (fq o done s x):=by
 unfold fq;split
 ·unfold ij
  split
  ·refine ⟨fun c hc=> ?_,Nat.le_succ_of_le h.2.1,Nat.le_succ_of_le h.2.2⟩
   rcases mem_modify hc with hc|⟨hi,rfl⟩
   ·exact Nat.le_succ_of_le (h.1 c hc)
   ·have:=h.1 _ (VF hi)
    simp only [iG,VE,List.length_singleton];omega
  ·exact h.up (by omega)
 ·split
  ·refine ⟨fun c hc=>Nat.le_succ_of_le (h.1 c hc), ?_,Nat.le_succ_of_le h.2.2⟩
   have:=h.2.1;simp only [dD,VE,List.length_singleton];omega
  ·split
   ·refine ⟨fun c hc=>Nat.le_succ_of_le (h.1 c hc),Nat.le_succ_of_le h.2.1, ?_⟩
    have:=h.2.2;simp only [VE,List.length_singleton];omega
   ·exact h.up (by omega)
theorem tO (o:OpD) (done:Bool):∀(l:List cA) {B:Nat} {s:an},qb B s→qb (B+l.length) (cY s o l done)
 | [],B,s,h=>h
 |x::l,B,s,h=>(tO o done l (E3 o done x h)).up (by rw [List.length_cons]; omega)
theorem Aq (s:an) (o:OpD) (done:Bool) {l:List cA} {i:Nat} (h:i<l.length):cY s o (l.take (i+1)) done=fq o done (cY s o (l.take i) done) l[i]:=by
 unfold cY;rw [List.take_succ_eq_append_getElem h,List.foldl_append];rfl
theorem tU (o:OpD) (done:Bool) (id:Txt):∀(l:List cA) (s:an),gM (cY s o l done).cases id=gM s.cases id∧(cY s o l done).cases.length=s.cases.length
 | [],s=>⟨rfl,rfl⟩
 |x::l,s=>by
  obtain ⟨a1,a2⟩:=Fh o done s x id;obtain ⟨b1,b2⟩:=tU o done id l (fq o done s x);exact ⟨b1.trans a1,b2.trans a2⟩
theorem EJ {o:OpD} {s:an} {x:cA} (h:x.kind=1):fq o true s x=ij s o x.arg:=by unfold fq; rw [if_pos ⟨h,rfl⟩]
theorem Co {o:OpD} {done:Bool} {s:an} {x:cA} (h:x.kind=3):fq o done s x=dD s o x.arg:=by unfold fq; rw [if_neg (by rw [h]; simp),if_pos h]
theorem Cp {o:OpD} {done:Bool} {s:an} {x:cA} (h:x.kind=4):fq o done s x= {s with notices:=s.notices++ [⟨s.tick,o.case,x.arg⟩]}:=by unfold fq; rw [if_neg (by rw [h]; simp),if_neg (by rw [h]; decide),if_pos h]
theorem Ar {o:OpD} {done:Bool} {s:an} {x:cA} (h1:¬(x.kind=1∧done=true)) (h3:x.kind≠3) (h4:x.kind≠4):fq o done s x=s:=by unfold fq; rw [if_neg h1,if_neg h3,if_neg h4]
end Go.Bf
namespace Go.Proofs.YtnlbeamjpefpfaaGreatDoor
open Go Go.Ab Go.Bf
set_option maxRecDepth 100000 in
theorem Cm {g H:Heap} {k:Nat} {s:an} {j:Nat} (hG:GSt g H k s j) (o:OpD) (hk64:i64 o.kind) (l:List cA) (hll:l.length≤100000000) (done:Bool) (hc:s.cases.length≤1000000) (hgr:qb 1000 s) (hj:done=true→gM s.cases o.case<s.cases.length→o.kind≠6→j=gM s.cases o.case):
  ak Tryz.prog 40 [.ptr k 0,opA o,aA l, .v (.bool done)] H fun r H' =>GSt g H' k (cY s o l done) j:=by
 have hkn:H k≠none:=by obtain ⟨y1,y2,y3,y4,hk,_⟩:=hG; rw [hk]; simp
 refine ak.body hU hm Tryz.func40 rfl (by kernel_rfl) 60 rfl [] rfl (Vz rfl) (fun hwf=> ?_)
 simp only [go_sem,opA,opC,aA];intro i5 h5;have n5k:i5≠k:=fun e=>hkn (by rw [←e]; exact h5)
 have hg5:g i5=none:=by
  obtain ⟨y1,y2,y3,y4,hk,ho,hgk,hfr⟩:=hG;cases hh:g i5 with
  |none=>rfl
  |some b=>have:=hfr i5 b n5k hh; rw [h5] at this; cases this
 have hG5:=hG.box h5 (.obj [.v (.int .i64 o.kind), .s o.subj, .s o.case, .s o.field, .s o.to, .v (.int .i64 o.val.kind), .v (.int .i64 o.val.n), .s o.val.s, .v (.int .i64 o.review), .s o.text, .s o.reason, .v (.bool o.glass)] 26);obtain ⟨g5,eg5⟩:∃g5,upd g i5 (some (.obj [.v (.int .i64 o.kind), .s o.subj, .s o.case, .s o.field, .s o.to, .v (.int .i64 o.val.kind), .v (.int .i64 o.val.n), .s o.val.s, .v (.int .i64 o.review), .s o.text, .s o.reason, .v (.bool o.glass)] 26))=g5:=⟨_,rfl⟩;have g55:g5 i5=some (.obj [.v (.int .i64 o.kind), .s o.subj, .s o.case, .s o.field, .s o.to, .v (.int .i64 o.val.kind), .v (.int .i64 o.val.n), .s o.val.s, .v (.int .i64 o.review), .s o.text, .s o.reason, .v (.bool o.glass)] 26):=by rw [←eg5,ah]
 rw [eg5] at hG5;have hback:∀ {H' :Heap} {s' :an},GSt g5 H' k s' j→GSt g H' k s' j:=fun {H' s'} h=>by
  rw [←eg5] at h;exact (h.unbox n5k hg5).1
 have hgk5:g5 k≠none:=by obtain ⟨_,_,_,_,_,_,h,_⟩:=hG5; exact h
 simp only [go_sem,VA];refine .intro (fun m ρ H2=>∃i:Nat,GSt g5 H2 k (cY s o (l.take i) done) j∧i≤l.length∧m=l.length - i∧lk ρ 0=some (.ptr k 0)∧lk ρ 3=some (.v (.bool done))∧lk ρ 5=some (.ptr i5 0)∧lk ρ 10=some (.sl (l.map bp) .no)∧lk ρ 11=some (.v (.int .i64 l.length))∧lk ρ 12=some (.v (.int .i64 i))) l.length ?_ ?_
 ·refine ⟨0,hG5,by omega,rfl, ?_, ?_, ?_, ?_, ?_, ?_⟩<;>simp only [go_sem]
 ·rintro m ρ H2 ⟨i,hS,hi,rfl,r0,r3,r5,r10,r11,r12⟩
  simp only [go_sem,r11,r12];refine .intro (fun e=> ?_) (fun e=> ?_)
  ·have hlt:i<l.length:=VH e
   have w1:=VG i (by omega)
   have hsn:=Aq s o done hlt;have hgi:=tO o done (l.take i) hgr;have hgi:qb 1000000000 (cY s o (l.take i) done):=hgi.up (by rw [List.length_take]; omega)
   obtain ⟨hix,hcl⟩:=tU o done o.case (l.take i) s;have ix:=fun k=>fc.eq (xs:=l.map bp) (sz:=3) i (by simpa using hlt) (by rw [VB]; rfl) k
   rw [VB] at ix;obtain ⟨x,ex⟩:∃x,l[i]=x:=⟨_,rfl⟩;rw [ex] at ix hsn;obtain ⟨t,et⟩:∃t,cY s o (l.take i) done=t:=⟨_,rfl⟩;rw [et] at hS hsn hgi hix hcl;have hjt:done=true→gM t.cases o.case<t.cases.length→o.kind≠6→j=gM t.cases o.case:=fun a b c=>by rw [hix] at b⊢; rw [hcl] at b; exact hj a b c
   simp only [bp] at ix;simp only [go_sem,r10,r12,ix];intro i9 h9;have kkn:H2 k≠none:=by obtain ⟨y1,y2,y3,y4,hk,_⟩:=hS; rw [hk]; simp
   have n9k:i9≠k:=fun e=>kkn (by rw [←e]; exact h9)
   have hg9:g5 i9=none:=by
    obtain ⟨y1,y2,y3,y4,hk,ho,hgk,hfr⟩:=hS;cases hh:g5 i9 with
    |none=>rfl
    |some b=>have:=hfr i9 b n9k hh; rw [h9] at this; cases this
   have n95:i9≠i5:=fun e=>by rw [e,g55] at hg9; cases hg9
   have k5:H2 i5=some (.obj [.v (.int .i64 o.kind), .s o.subj, .s o.case, .s o.field, .s o.to, .v (.int .i64 o.val.kind), .v (.int .i64 o.val.n), .s o.val.s, .v (.int .i64 o.review), .s o.text, .s o.reason, .v (.bool o.glass)] 26):=by obtain ⟨_,_,_,_,_,_,_,hfr⟩:=hS; exact hfr i5 _ n5k g55
   have hS9:=hS.box h9 (.obj [.v (.int .i64 x.on), .v (.int .i64 x.kind), .s x.arg] 64);have hb9:∀ {H' :Heap} {s' :an},GSt (upd g5 i9 (some (.obj [.v (.int .i64 x.on), .v (.int .i64 x.kind), .s x.arg] 64))) H' k s' j→GSt g5 H' k s' j:=fun {H' s'} h=>(h.unbox n9k hg9).1
   have hlog:=fun (hd:done=true)=>HH hS9 o x.arg (by rw [hcl]; exact hc) hgi.1 (hjt hd)
   have hopen:=Be hS9 o x.arg hk64 hgi.2.1;simp only [opA,opC] at hlog hopen;cases a1:(x.kind==1)
   case true=>
    have e1:x.kind=1:=by simpa using a1
    have a3:(x.kind==3)=false:=by rw [e1]; rfl
    have a4:(x.kind==4)=false:=by rw [e1]; rfl
    cases done
    ·simp only [go_sem,r3,r12,a1,a3,a4,w1]
     refine ⟨_, ?_,i+1,by rw [hsn,Ar (fun h=>by cases h.2) (by rw [e1]; decide) (by rw [e1]; decide)]; exact hb9 hS9,by omega,rfl, ?_, ?_, ?_, ?_, ?_, ?_⟩
     ·omega
     all_goals simp only [go_sem,r0,r3,r5,r10,r11]
    ·simp only [go_sem,r0,r3,r5,a1,aj,n95.symm,k5]
     refine (hlog rfl).mono fun r H3 h3=> ?_
     simp only [go_sem,r12,w1];refine ⟨_, ?_,i+1,by rw [hsn,EJ e1]; exact hb9 h3,by omega,rfl, ?_, ?_, ?_, ?_, ?_, ?_⟩
     ·omega
     all_goals simp only [go_sem,r0,r3,r5,r10,r11]
   have e1:¬(x.kind=1∧done=true):=fun h=>by rw [h.1] at a1; cases a1
   cases a3:(x.kind==3)
   case true=>
    have e3:x.kind=3:=by simpa using a3
    simp only [go_sem,r0,r5,a1,a3,aj,n95.symm,k5];refine hopen.mono fun r H3 h3=> ?_
    simp only [go_sem,r12,w1];refine ⟨_, ?_,i+1,by rw [hsn,Co e3]; exact hb9 h3,by omega,rfl, ?_, ?_, ?_, ?_, ?_, ?_⟩
    ·omega
    all_goals simp only [go_sem,r0,r3,r5,r10,r11]
   have e3:x.kind≠3:=by simpa using a3
   cases a4:(x.kind==4)
   case false=>
    have e4:x.kind≠4:=by simpa using a4
    simp only [go_sem,r12,a1,a3,a4,w1];refine ⟨_, ?_,i+1,by rw [hsn,Ar e1 e3 e4]; exact hb9 hS9,by omega,rfl, ?_, ?_, ?_, ?_, ?_, ?_⟩
    ·omega
    all_goals simp only [go_sem,r0,r3,r5,r10,r11]
   have e4:x.kind=4:=by simpa using a4
   rw [Cp e4] at hsn;obtain ⟨G,sG,nG,oG⟩:=hS9.base;obtain ⟨y1,y2,y3,y4,kk,ho,hgk,hfr⟩:=hS9;obtain ⟨K,eK⟩:∃K,upd H2 i9 (some (.obj [.v (.int .i64 x.on), .v (.int .i64 x.kind), .s x.arg] 64))=K:=⟨_,rfl⟩;have k9:K i9=some (.obj [.v (.int .i64 x.on), .v (.int .i64 x.kind), .s x.arg] 64):=by rw [←eK,ah]
   have k5' :K i5=some (.obj [.v (.int .i64 o.kind), .s o.subj, .s o.case, .s o.field, .s o.to, .v (.int .i64 o.val.kind), .v (.int .i64 o.val.n), .s o.val.s, .v (.int .i64 o.review), .s o.text, .s o.reason, .v (.bool o.glass)] 26):=by rw [←eK,ag _ _ n95.symm]; exact k5
   rw [eK] at sG kk ho hfr;have hoK:gV G K y1 y2 y3 y4 t j:=ho.bI fun i hi=>(nG i).2 hi
   obtain ⟨pid,pset,palg,ptgt,prules,pkids,pobls,hpp⟩:∃a b c d e f g,t.policy= .mk a b c d e f g:=by cases t.policy; exact ⟨_,_,_,_,_,_,_,rfl⟩
   have hst:∀z (n:List yU),stC {t with notices:=n} y1 y2 z y4= [.v (.int .i64 t.tick),y1,y2,z,y4, .s pid, .v (.bool pset), .v (.int .i64 palg),aU ptgt, .sl (prules.map aC) .no, .sl (pkids.map aK) .no,aA pobls, .v (.int .i64 t.version)]:=fun z n=>by simp [stC,hpp,fI,aX]
   have hst0:stC t y1 y2 y3 y4= [.v (.int .i64 t.tick),y1,y2,y3,y4, .s pid, .v (.bool pset), .v (.int .i64 palg),aU ptgt, .sl (prules.map aC) .no, .sl (pkids.map aK) .no,aA pobls, .v (.int .i64 t.version)]:=by simp [stC,hpp,fI,aX]
   rw [hst0] at kk;have p9:=(bz (H:=K) (l:= [k,i5,i9]) (show i9∈ [k,i5,i9] by simp)).trans k9
   have p5:=(bz (H:=K) (l:= [k,i5,i9]) (show i5∈ [k,i5,i9] by simp)).trans k5'
   have pk:=(bz (H:=K) (l:= [k,i5,i9]) (show k∈ [k,i5,i9] by simp)).trans kk
   simp only [go_sem,a1,a3,a4];rw [eK];refine .stage (pick K [k,i5,i9]) [0,1,2,3,4,5,6,7,8,9,10,11,12,13,14,15,16,17] [18] bt (by kernel_rfl) ?_
   simp only [go_sem,r0,r5,pk,p5,p9];have hap1:Rd K 3 (.sl [j4 ⟨t.tick,o.case,x.arg⟩] .full) [j4 ⟨t.tick,o.case,x.arg⟩]:= .sl (by intro z hz; rw [List.mem_singleton.1 hz]; rfl) .full
   have hnl:=hgi.2.2;refine OwE.app (U:=U) (tb:=84) hoK.nt sG hap1 (by simp only [go_sem]) (by decide) (by simp only [go_sem,ne_eq,not_false_eq_true]) (by simp only [go_sem]) (by simp) (by simp only [go_sem,List.length_cons,List.length_nil,VA]; omega) fun id y' K2 hid hor how hoth=> ?_
   have hor' :K id=none∨nid y3=some id:=by
    rcases hor with hor|⟨l,c,ey⟩
    ·exact .inl hor
    ·exact .inr (by rw [ey]; rfl)
   have n2:∀ {q b t},K q=some (.obj b t)→t≠84→q≠id:=fun {q b t} hq ht e=>by
    rcases hor' with h|h
    ·rw [e,h] at hq; cases hq
    ·exact kD (hoK.nt.nid h).2.2 hq ht e.symm
   have m9:=(hoth i9 (n2 k9 (by decide))).trans k9
   have m5:=(hoth i5 (n2 k5' (by decide))).trans k5'
   have nik:=n2 kk (by decide)
   have mk:=(hoth k nik).trans kk;refine ⟨gZ fun q hq=> ?_, ?_⟩
   ·simp only [List.mem_cons,List.not_mem_nil,or_false] at hq
    rcases hq with rfl|rfl|rfl
    ·rw [mk,kk]
    ·rw [m5,k5']
    ·rw [m9,k9]
   simp only [go_sem];refine ⟨cO,fun _ _ e=>(by cases e), ?_⟩
   simp only [go_sem,r12,mk,how.rd.fit,how.rd.cells];refine ⟨fun _ _ e=>(by cases e), ?_⟩
   simp only [go_sem,w1];obtain ⟨F,eF⟩:∃F,upd K2 k (some (.obj [.v (.int .i64 t.tick),y1,y2,y',y4, .s pid, .v (.bool pset), .v (.int .i64 palg),aU ptgt, .sl (prules.map aC) .no, .sl (pkids.map aK) .no,aA pobls, .v (.int .i64 t.version)] 39))=F:=⟨_,rfl⟩;have Fk:F k=(some (.obj [.v (.int .i64 t.tick),y1,y2,y',y4, .s pid, .v (.bool pset), .v (.int .i64 palg),aU ptgt, .sl (prules.map aC) .no, .sl (pkids.map aK) .no,aA pobls, .v (.int .i64 t.version)] 39)):=by rw [←eF,ah]
   have Fo:∀q,q≠k→F q=K2 q:=fun q hq=>by rw [←eF,ag _ _ hq]
   have hoz:OwE 84 G F 3 y' ((t.notices++ [(⟨t.tick,o.case,x.arg⟩:yU)]).map j4):=by
    rw [List.map_append];exact .inr ⟨id,hid,how.same (Fo id nik.symm)⟩
   have hop:gV G F y1 y2 y' y4 {t with notices:=t.notices++ [⟨t.tick,o.case,x.arg⟩]} j:=by
    refine gV.nots (h:=K) (h' :=F) hoK hoz (fun q hq=> ?_) fun q hq hne hz=> ?_
    ·have:id=q:=by have:=how.nid; rw [hq] at this; exact (Option.some.inj this).symm
     rw [←this]; exact hor'
    ·have n1:q≠k:=fun e=>hgk ((nG k).1 (by rw [←e]; exact hq))
     have n2:q≠id:=fun e=>by
      rcases hor' with h|h
      ·exact hne (by rw [e]; exact h)
      ·exact hz (by rw [e]; exact h)
     rw [Fo q n1,hoth q n2]
   have hgs:GSt (upd g5 i9 (some (.obj [.v (.int .i64 x.on), .v (.int .i64 x.kind), .s x.arg] 64))) F k {t with notices:=t.notices++ [⟨t.tick,o.case,x.arg⟩]} j:=by
    refine ⟨y1,y2,y',y4,by rw [Fk,hst],gV.bI hop fun i hi=>(nG i).1 hi,hgk,fun i b hi hb=> ?_⟩
    have n2:i≠id:=fun e=>by
     have:=(nG id).1 hid;rw [←e,hb] at this; cases this
    rw [Fo i hi,hoth i n2];exact hfr i b hi hb
   rw [←eF] at hgs;refine ⟨_, ?_,i+1,by rw [hsn]; exact hb9 hgs,by omega,rfl, ?_, ?_, ?_, ?_, ?_, ?_⟩
   ·omega
   all_goals simp only [go_sem,r0,r3,r5,r10,r11]
  ·have hge:i=l.length:=by have:=VD e; omega
   subst hge;rw [List.take_length] at hS;simp only [go_sem];exact .same (.refl _) (hback hS)
set_option maxRecDepth 100000 in
theorem JF (s:an) (hf:Few s) (h:Heap):ak Tryz.prog 35 [cP s] h fun r h' =>∃y1 y2 y3,r= .agg (stC s y1 y2 y3 (dH s.roles))∧gV h h' y1 y2 y3 (dH s.roles) s s.cases.length∧Ab.Sub h h' :=by
 have hst:=gv s;have hsc:∀y1 y2 y3,stC s y1 y2 y3 (dH s.roles)=stC s y1 y2 y3 (dH s.roles):=fun _ _ _=>rfl
 have hfc:=hf.cases;have hfg:=hf.log;have hfr:=hf.reviews;have hfn:=hf.notices;obtain ⟨tick,cs,rv,nt,ro,⟨pid,pset,palg,ptgt,prules,pkids,pobls⟩,ver⟩:=s;simp only at hfc hfg hfr hfn;rw [hst];simp only [sL,iO,o9,qi,dH,aX];refine ak.body hU hm Tryz.func35 rfl (by kernel_rfl) 35 rfl [.cell 2 39] rfl (Vz rfl) (fun hwf=> ?_)
 simp only [go_sem];intro i1 h1;simp only [go_sem];intro i2 h2;have n21:=aE h2;have n2:=au h2;simp only [go_sem];obtain ⟨H,eH⟩:∃H,upd (upd h i1 (some (.obj [.v (.int .i64 tick), .sl (cs.map bP) .no, .sl (rv.map fM) .no, .sl (nt.map j4) .no, .sl (ro.map dQ) .no, .s pid, .v (.bool pset), .v (.int .i64 palg),aU ptgt, .sl (prules.map aC) .no, .sl (pkids.map aK) .no,aA pobls, .v (.int .i64 ver)] 39))) i2 (some (.obj [.v (.int .i64 0), .sl [] .full, .sl [] .full, .sl [] .full, .sl [] .full, .s [], .v (.bool false), .v (.int .i64 0), .sl [] .full, .sl [] .full, .sl [] .full, .sl [] .full, .v (.int .i64 0)] 39))=H:=⟨_,rfl⟩;have hH:Ab.Sub h H:=by rw [←eH]; exact ((Sub.refl h).put h1 _).put n2 _
 have g1:H i1=some (.obj [.v (.int .i64 tick), .sl (cs.map bP) .no, .sl (rv.map fM) .no, .sl (nt.map j4) .no, .sl (ro.map dQ) .no, .s pid, .v (.bool pset), .v (.int .i64 palg),aU ptgt, .sl (prules.map aC) .no, .sl (pkids.map aK) .no,aA pobls, .v (.int .i64 ver)] 39):=by rw [←eH,ag _ _ n21.symm,ah]
 have g2:H i2=some (.obj [.v (.int .i64 0), .sl [] .full, .sl [] .full, .sl [] .full, .sl [] .full, .s [], .v (.bool false), .v (.int .i64 0), .sl [] .full, .sl [] .full, .sl [] .full, .sl [] .full, .v (.int .i64 0)] 39):=by rw [←eH,ah]
 rw [eH];clear eH;refine .stage (hm1 i1 (.obj [.v (.int .i64 tick), .sl (cs.map bP) .no, .sl (rv.map fM) .no, .sl (nt.map j4) .no, .sl (ro.map dQ) .no, .s pid, .v (.bool pset), .v (.int .i64 palg),aU ptgt, .sl (prules.map aC) .no, .sl (pkids.map aK) .no,aA pobls, .v (.int .i64 ver)] 39)) [0,1,3,4,6,7,2,9,5,8] [10,11,12,13,14] (.hm1 g1) (by kernel_rfl) ?_
 simp only [go_sem,fP];refine (tF _ (rv.map fM) H (eJ fM 7 (fun _=>rfl) _ _) (by simpa using hfr)).mono fun z2 H1 ⟨o2,s1⟩=> ?_
 refine ⟨.hm1 (s1 _ _ g1), ?_⟩;simp only [go_sem];refine (tE _ (nt.map j4) H1 (eJ j4 3 (fun _=>rfl) _ _) (by simpa using hfn)).mono fun z3 H2 ⟨o3,s2⟩=> ?_
 refine ⟨.hm1 (s2 _ _ (s1 _ _ g1)), ?_⟩;simp only [go_sem];refine (xM _ (cs.map bP) H2 (eJ bP 5 (fun _=>rfl) _ _) (by simpa using hfc)).mono fun z1 H3 ⟨o1,s3⟩=> ?_
 have s03:Ab.Sub H H3:=s1.trans (s2.trans s3);have q1' :=s03 _ _ g1;have q2' :=s03 _ _ g2;refine ⟨.hm1 q1',cO,(fun _ _ e=>by cases e), ?_⟩
 simp only [go_sem,q1',o1.rd.fit,o1.rd.cells,o2.rd.fit,o2.rd.cells,o3.rd.fit,o3.rd.cells];refine ⟨fun _ _ e=>(by cases e),fun _ _ e=>(by cases e),fun _ _ e=>(by cases e), ?_⟩
 obtain ⟨M,eM⟩:∃M,upd H3 i1 (some (.obj [.v (.int .i64 tick),z1,z2,z3, .sl (ro.map dQ) .no, .s pid, .v (.bool pset), .v (.int .i64 palg),aU ptgt, .sl (prules.map aC) .no, .sl (pkids.map aK) .no,aA pobls, .v (.int .i64 ver)] 39))=M:=⟨_,rfl⟩;have oM:∀q,q≠i1→M q=H3 q:=fun q hq=>by rw [←eM,ag _ _ hq]
 have m1:M i1=some (.obj [.v (.int .i64 tick),z1,z2,z3, .sl (ro.map dQ) .no, .s pid, .v (.bool pset), .v (.int .i64 palg),aU ptgt, .sl (prules.map aC) .no, .sl (pkids.map aK) .no,aA pobls, .v (.int .i64 ver)] 39):=by rw [←eM,ah]
 have m2:=(oM i2 n21).trans q2';have hM:Ab.Sub h M:=by rw [←eM]; exact (hH.trans s03).put h1 _
 have new:∀ {tb:TypeId} {z:AV} {xs:List AV} {n:Nat} {g:Heap},OwE tb g H3 n z xs→Ab.Sub H g→OwE tb h M n z xs:=fun w hg=>(w.less (hH.trans hg)).keep fun id e=>oM id (cH (w.nid e).1 (hg _ _ g1))
 have w1:=new o1 (s1.trans s2);have w2:=new (o2.sub (s2.trans s3)) (.refl _);have w3:=new (o3.sub s3) s1;have a12:apart z1 z2:=(dU o1 (o2.there s2.some)).symm;have a13:apart z1 z3:=(dU o1 (o3.there fun k hk=>hk)).symm
 have a23:apart z2 z3:=dU o3 (o2.there fun k hk=>hk)
 simp only [go_sem,o1.rd.len,VA];rw [eM];have h12:i1≠i2:=n21.symm;refine .intro (fun m ρ G=>∃i:Nat,Ab.Sub M G∧i≤cs.length∧m=cs.length - i∧lk ρ 1=some (.ptr i1 0)∧lk ρ 2=some (.ptr i2 0)∧lk ρ 18=some z1∧lk ρ 19=some (.v (.int .i64 cs.length))∧lk ρ 20=some (.v (.int .i64 i))) cs.length ?_ ?_
 ·refine ⟨0, .refl _,by omega,rfl, ?_, ?_, ?_, ?_, ?_⟩<;>simp only [go_sem]
 ·rintro m ρ G ⟨i,hs,hi,rfl,r1,r2,r18,r19,r20⟩
  have v1:=w1.sub hs;simp only [go_sem,r19,r20];refine .intro (fun e=> ?_) (fun e=> ?_)
  ·have hlt:i<cs.length:=VH e
   have w1' :IntKind.i64.wrap ((i:Int)+1)=((i+1:Nat):Int):=by rw [bu _ (by omega)]; omega
   have hfl:=hfg _ (VF hlt);have hxi:(cs.map bP)[i]'(by simpa using hlt)=bP cs[i]:=VB ..
   simp only [go_sem,r18,r20];refine v1.rd.idx (U:=U) (e:=78) i rfl (by simpa using hlt) lY (by decide) fun p hp1=> ?_
   have hld:=hp1.all (U:=U) (ty:=78) (by simp only [go_sem]) (by rw [lY,hxi]; rfl) (by simp only [go_sem]; rw [hxi]; rfl)
   obtain ⟨c,ec⟩:∃c,cs[i]=c:=⟨_,rfl⟩;rw [hxi,ec] at hld;rw [ec] at hfl hxi;simp only [bP,kC,fO,oU] at hld;simp only [go_sem,hld];intro i4 h4;have k1:=hs _ _ m1;have n41:i4≠i1:=cH h4 k1;obtain ⟨G4,eG4⟩:∃G4,upd G i4 (some (.obj [.s c.id, .s c.owner, .s c.state, .sl (c.fields.map bJ) .no, .sl (c.log.map fZ) .no] 78))=G4:=⟨_,rfl⟩;have sG:Ab.Sub G G4:=by rw [←eG4]; exact .ai h4
   have p1:=sG _ _ k1;have p4:G4 i4=some (.obj [.s c.id, .s c.owner, .s c.state, .sl (c.fields.map bJ) .no, .sl (c.log.map fZ) .no] 78):=by rw [←eG4,ah]
   simp only [go_sem];rw [eG4];refine .stage (hm2 i1 (.obj [.v (.int .i64 tick),z1,z2,z3, .sl (ro.map dQ) .no, .s pid, .v (.bool pset), .v (.int .i64 palg),aU ptgt, .sl (prules.map aC) .no, .sl (pkids.map aK) .no,aA pobls, .v (.int .i64 ver)] 39) i4 (.obj [.s c.id, .s c.owner, .s c.state, .sl (c.fields.map bJ) .no, .sl (c.log.map fZ) .no] 78)) [0,1,2,3,4,5,6,7] [8] (.hm2 p1 p4) (by kernel_rfl) ?_
   simp only [go_sem,r1,rD _ _ n41.symm,rE];refine (uv _ (c.log.map fZ) G4 (eJ fZ 3 (fun _=>rfl) _ _) (by simpa using hfl) (br (fun _=>rfl) _)).pthen ?_
   refine ⟨.hm2 p1 p4, ?_⟩;simp only [go_sem];obtain ⟨id1,hg1,u1⟩:=(v1.sub sG).ow (by intro e; rw [List.map_eq_nil_iff] at e; rw [e] at hlt; cases hlt)
   refine u1.idx (U:=U) (e:=78) i rfl (by simpa using hlt) lY (by decide) ?_
   simp only [go_sem];refine ⟨cO,(fun _ _ e=>by cases e), ?_⟩
   have u1' :=u1;obtain ⟨cap,rest,ey,hid,hr,hcap,hsz⟩:=u1';have hbd:i*5+5≤(aq (cs.map bP)++rest).length:=by
    rw [VE,aW hsz,VA]; omega
   have e5:List.take (i*5+4) (aq (cs.map bP)++rest)++ [.sl (c.log.map fZ) .no]++List.drop (i*5+4+1) (aq (cs.map bP)++rest)=aq (cs.map bP)++rest:=by
    refine (j5 hsz i (by simpa using hlt) 4 [.sl (c.log.map fZ) .no] (Vz rfl)).trans ?_
    rw [pn];rw [List.getElem?_eq_getElem (by simpa using hlt),hxi]; rfl
   simp only [go_sem,r20,hid];rw [e5,tc hid];refine ⟨by omega,(fun _ _ e=>by cases e), ?_⟩
   simp only [go_sem,w1'];refine ⟨_, ?_,i+1,hs.trans sG,by omega,rfl, ?_, ?_, ?_, ?_, ?_⟩
   ·omega
   all_goals simp only [go_sem,r1,r2,r18,r19]
  ·have hge:i=cs.length:=by have:=VD e; omega
   have k1:=hs _ _ m1;have k2:=hs _ _ m2;have n21' :i2≠i1:=n21;simp only [go_sem,r1,r2,k1,k2];have kp:∀b q,h q=none→M q≠none→q≠i2→upd G i2 b q=M q:=fun b q a c d=>by
    rw [ag _ _ d];cases hh:M q with
    |none=>exact (c hh).elim
    |some b=>exact hs _ _ hh
   have ne2:∀ {tb:TypeId} {z:AV} {xs:List AV} {n:Nat},OwE tb h M n z xs→tb≠39→∀q,nid z=some q→q≠i2:=fun w ht q e=>kD (w.nid e).2.2 m2 ht.symm
   refine .mk _ (.refl _) (.refl _) ⟨z1,z2,z3,by simp [stC,fI,aX]<;>rfl,⟨⟨cs.map bP,w1.keep fun q e=>kp _ q (w1.nid e).1 (w1.nid e).2.1 (ne2 w1 (by decide) q e),by simp,fun j a b _=>VB ..,fun a b=>absurd b (Nat.lt_irrefl _)⟩,w2.keep fun q e=>kp _ q (w2.nid e).1 (w2.nid e).2.1 (ne2 w2 (by decide) q e),w3.keep fun q e=>kp _ q (w3.nid e).1 (w3.nid e).2.1 (ne2 w3 (by decide) q e), .inl rfl,a12,a13,fun q _ e=>(by cases e),a23,fun q _ e=>(by cases e),fun q _ e=>(by cases e)⟩,(hM.trans hs).put n2 _⟩
end Go.Proofs.YtnlbeamjpefpfaaGreatDoor
namespace Go.Bf
open Go Go.Ab Go.Proofs.YtnlbeamjpefpfaaGreatDoor
def Iq (r:nY):List AV:= [.v (.int .i64 r.err),aR r.mark, .v (.bool r.glass), .v (.int .i64 r.val.kind), .v (.int .i64 r.val.n), .s r.val.s, .v (.bool r.hidden), .v (.int .i64 r.at_)]
def zk (d:Ep):List AV:=opC d.op++ [.v (.int .i64 d.version),aR d.mark, .v (.bool d.glass),aA d.obls]
def fY (x:an×nY×Ep×Int):AV:= .tup [cP x.1, .agg (Iq x.2.1), .agg (zk x.2.2.1), .v (.int .i64 x.2.2.2)]
theorem xW {cs ds:List aL} (h:ds.map (·.id)=cs.map (·.id)) (id:Txt):findD ds id=findD cs id:=by
 have e:∀l:List aL,findD l id=(l.map (·.id)).findIdx fun x=>geB x id:=fun l=>by
  unfold findD;rw [List.findIdx_map];rfl
 rw [e,e,h]
theorem Hg (id:Txt):geB id id=true:=by
 have:Op.bytesLess id id=false:=by simpa [lt] using lt_irrefl id
 simp [geB,this]
theorem EI {s:an} {o:OpD} (hr:bx s o=0):findD (cE aM s o).cases o.case=findD s.cases o.case:=by
 unfold cE;rw [if_pos hr];unfold doD
 by_cases k1:o.kind=1
 ·simp only [k1,if_true]
  obtain ⟨f,ef⟩:∃f,findD s.cases o.case=f:=⟨_,rfl⟩;have hf:f≤s.cases.length:=by rw [←ef]; exact List.findIdx_le_length
  rw [ef];unfold findD;refine (List.findIdx_eq (by simp; omega)).2 ⟨?_,fun j hj=> ?_⟩
  ·have:((List.take f s.cases++ [iG s ⟨o.case,o.subj,gp,[],[]⟩ o.subj [110,101,119]]++List.drop f s.cases)[f]?)=some (iG s ⟨o.case,o.subj,gp,[],[]⟩ o.subj [110,101,119]):=by
    rw [List.append_assoc,List.getElem?_append_right (by simp; omega)]
    simp [Nat.min_eq_left hf]
   rw [(List.getElem_eq_iff _).2 this];exact Hg _
  ·have hj2:j<s.cases.length:=by omega
   have:((List.take f s.cases++ [iG s ⟨o.case,o.subj,gp,[],[]⟩ o.subj [110,101,119]]++List.drop f s.cases)[j]?)=some s.cases[j]:=by
    rw [List.append_assoc,List.getElem?_append_left (by simp; omega),List.getElem?_take,if_pos hj,List.getElem?_eq_getElem hj2]
   rw [(List.getElem_eq_iff _).2 this];have h3:j<s.cases.findIdx fun c=>geB c.id o.case:=by show j<findD s.cases o.case; omega
   simpa using List.not_of_lt_findIdx h3
 ·by_cases k3:o.kind=3
  ·simp only [k3,show¬(3:Int)=1 by decide,if_false,if_true]
   exact xW (jE (f:=fun c=>iG s {c with fields:=eU c.fields o.field o.val} o.subj [119,114,105,116,101]) (g:=fun c:aL=>c.id) fun c=>rfl) _
  ·by_cases k4:o.kind=4
   ·simp only [k4,show¬(4:Int)=1 by decide,show¬(4:Int)=3 by decide,if_false,if_true]
    exact xW (jE (f:=fun c=>iG s {c with state:=o.to} o.subj o.to) (g:=fun c:aL=>c.id) fun c=>rfl) _
   ·simp only [k1,k3,k4,if_false]
    split
    ·rfl
    ·split
     ·split<;>rfl
     ·split
      ·split<;>rfl
      ·split<;>rfl
theorem Jx {k:Nat} {s:an} {o:OpD} (h:cX k s) (hr:bx s o=0) (hx:gM (cE aM s o).cases o.case<(cE aM s o).cases.length):findD s.cases o.case=gM (cE aM s o).cases o.case:=by
 rw [←EI hr];exact CJ (nF o h).asc hx
theorem FC {t:Txt} (h:(aM t).2.1=0):(aM t).2.2=0:=by
 unfold aM at h⊢;cases hl:qF t with
 |bad e a=>
  rw [hl] at h;simp only at h;have:=(vM hl).1;omega
 |ok ts=>
  rw [hl] at h;simp only [we] at h⊢;split at h
  ·rename_i hb; rw [if_pos hb]
  ·rename_i hb; exact (hb h).elim
end Go.Bf
namespace Go.Proofs.YtnlbeamjpefpfaaGreatDoor
open Go Go.Ab Go.Bf
theorem FH (c:aL):cF (bP c)=true:=by
 simp [bP,kC,cF,gH,fO,oU,br (f:=bJ) (fun _=>rfl),br (f:=fZ) (fun _=>rfl)]
theorem L5 {g h:Heap} (s:an):Frz g h (cP s) (cP s):=by
 have:=sC (g:=g) (h:=h) (s:=s) (y1:=iO s.cases) (y2:=o9 s.reviews) (y3:=qi s.notices) (y4:=dH s.roles) (.pure (by simp only [iO,cF]; exact br FH _)) (.pure (by simp only [o9,cF]; exact br (fun _=>rfl) _)) (.pure (by simp only [qi,cF]; exact br (fun _=>rfl) _)) (.pure (by simp only [dH,cF]; exact br (fun _=>rfl) _))
 exact this
theorem He {g h:Heap} (l:List cA) (q:Perm):Frz g h (.sl (l.map bp) q) (aA l):= .sl _ _ _ rfl (fun _ _ _=>rfl) fun i h1 h2 j h3 h4=>by
 refine .pure ?_;have:cF (l.map bp)[i]=true:=by rw [VB]; rfl
 exact lU this _ (VF h3)
theorem xY {g h:Heap} {x:AV} {S:an} (r:nY) (d:Ep) (e:Int) (a:Frz g h x (cP S)) (q:Perm):Frz g h (.tup [x, .agg (Iq r), .agg (opC d.op++ [.v (.int .i64 d.version),aR d.mark, .v (.bool d.glass), .sl (d.obls.map bp) q]), .v (.int .i64 e)]) (fY (S,r,d,e)):=by
 refine .tup _ _ rfl fun i h1 h2=> ?_
 rcases i with _|_|_|_|i
 ·exact a
 ·exact .pure rfl
 ·refine .agg _ _ (by simp [zk]) fun j h3 h4=> ?_
  rcases j with _|_|_|_|_|_|_|_|_|_|_|_|_|_|_|_|j
  ·exact .pure rfl
  ·exact .pure rfl
  ·exact .pure rfl
  ·exact .pure rfl
  ·exact .pure rfl
  ·exact .pure rfl
  ·exact .pure rfl
  ·exact .pure rfl
  ·exact .pure rfl
  ·exact .pure rfl
  ·exact .pure rfl
  ·exact .pure rfl
  ·exact .pure rfl
  ·exact .pure rfl
  ·exact .pure rfl
  ·exact He d.obls q
  ·simp [opC] at h3; omega
 ·exact .pure rfl
 ·simp at h1; omega
theorem GSt.put {g H:Heap} {k:Nat} {s:an} {j:Nat} (hG:GSt g H k s j) {i:Nat} (hi:i≠k) (hgi:g i≠none) (b:Blk):GSt (upd g i (some b)) (upd H i (some b)) k s j:=by
 obtain ⟨y1,y2,y3,y4,hk,ho,hgk,hfr⟩:=hG;have hn:∀q,g q=none→q≠i:=fun q hq e=>hgi (by rw [←e]; exact hq)
 refine ⟨y1,y2,y3,y4,by rw [ag _ _ hi.symm]; exact hk,(ho.more (g:=upd g i (some b)) fun q hq _=>by rw [ag _ _ (hn q hq)]; exact hq).keep fun q hq _=>ag _ _ fun e=> ?_,by rw [ag _ _ hi.symm]; exact hgk,fun q c hq hc=> ?_⟩
 ·rw [e,ah] at hq; cases hq
 ·by_cases e:q=i
  ·subst e; rw [ah] at hc⊢; exact hc
  ·rw [ag _ _ e] at hc⊢; exact hfr q c hq hc
theorem GSt.at {g H:Heap} {k:Nat} {s:an} {j:Nat} (hG:GSt g H k s j) {i:Nat} {b:Blk} (hi:i≠k) (hb:g i=some b):H i=some b:=by
 obtain ⟨_,_,_,_,_,_,_,hfr⟩:=hG;exact hfr i b hi hb
theorem GSt.sub {f g H:Heap} {k:Nat} {s:an} {j:Nat} (hG:GSt g H k s j) (hs:Ab.Sub f g) (hk:f k=none):Ab.Sub f H:=fun i b hi=>by
 obtain ⟨_,_,_,_,_,_,_,hfr⟩:=hG;exact hfr i b (fun e=>by rw [e,hk] at hi; cases hi) (hs i b hi)
theorem GSt.same {g H H' :Heap} {k:Nat} {s:an} {j:Nat} (hG:GSt g H k s j) (hs:Ab.Sub H H'):GSt g H' k s j:=by
 obtain ⟨y1,y2,y3,y4,hk,ho,hgk,hfr⟩:=hG;exact ⟨y1,y2,y3,y4,hs _ _ hk,ho.keep fun q _ hne=>by
  cases hh:H q with
  |none=>exact (hne hh).elim
  |some b=>exact hs _ _ hh,hgk,fun i b hi hb=>hs _ _ (hfr i b hi hb)⟩
theorem pz {s:an} {pid:Txt} {pset:Bool} {palg:Int} {ptgt:fT} {prules:List cQ} {pkids:List bB} {pobls:List cA} (hpp:s.policy= .mk pid pset palg ptgt prules pkids pobls) (y1 y2 y3 y4:AV):stC s y1 y2 y3 y4= [.v (.int .i64 s.tick),y1,y2,y3,y4, .s pid, .v (.bool pset), .v (.int .i64 palg), .sl (ptgt.map cN) .no, .sl (prules.map aC) .no, .sl (pkids.map aK) .no, .sl (pobls.map bp) .no, .v (.int .i64 s.version)]:=by
 simp [stC,hpp,fI,aX,aU,aA]
theorem Ii (p:bB):∃a b c d e f g,p= .mk a b c d e f g:=by cases p; exact ⟨_,_,_,_,_,_,_,rfl⟩
set_option maxRecDepth 100000 in
theorem jC {k:Nat} (s:an) (hG:kX k s) (hk:k≤1000) (o:OpD) (ho:B2 o) (h:Heap) (he:qs h):ak Tryz.prog 13 [cP s,opA o] h fun r h' =>r=fY (bw s o)∧h' =h:=
 ak.freeze fun g hg _=>by
 replace he:=he.sub hg;obtain ⟨pid,pset,palg,ptgt,prules,pkids,pobls,hpp⟩:∃a b c d e f g,s.policy= .mk a b c d e f g:=by cases s.policy; exact ⟨_,_,_,_,_,_,_,rfl⟩
 have hst:cP s= .agg [.v (.int .i64 s.tick), .sl (s.cases.map bP) .no, .sl (s.reviews.map fM) .no, .sl (s.notices.map j4) .no, .sl (s.roles.map dQ) .no, .s pid, .v (.bool pset), .v (.int .i64 palg), .sl (ptgt.map cN) .no, .sl (prules.map aC) .no, .sl (pkids.map aK) .no, .sl (pobls.map bp) .no, .v (.int .i64 s.version)]:=by
  simp [cP,fI,hpp,iO,o9,qi,dH,aX,aU,aA]
 rw [hst];refine ak.of_wp hU Tryz.func13 rfl (by kernel_rfl) 131 rfl [.cell 4 39, .cell 5 46, .cell 6 48, .tmp 7] rfl (Vz rfl) ?_
 refine .one hU hm ?_;simp -implicitDefEqProofs only [go_sem,opA,opC];intro i2 h2;simp -implicitDefEqProofs only [go_sem];obtain ⟨H2,e2⟩:∃H2,upd g i2 (some (.obj [.v (.int .i64 s.tick), .sl (s.cases.map bP) .no, .sl (s.reviews.map fM) .no, .sl (s.notices.map j4) .no, .sl (s.roles.map dQ) .no, .s pid, .v (.bool pset), .v (.int .i64 palg), .sl (ptgt.map cN) .no, .sl (prules.map aC) .no, .sl (pkids.map aK) .no, .sl (pobls.map bp) .no, .v (.int .i64 s.version)] 39))=H2:=⟨_,rfl⟩;have s2:Ab.Sub g H2:=by rw [←e2]; exact .ai h2
 have b2:H2 i2=some (.obj [.v (.int .i64 s.tick), .sl (s.cases.map bP) .no, .sl (s.reviews.map fM) .no, .sl (s.notices.map j4) .no, .sl (s.roles.map dQ) .no, .s pid, .v (.bool pset), .v (.int .i64 palg), .sl (ptgt.map cN) .no, .sl (prules.map aC) .no, .sl (pkids.map aK) .no, .sl (pobls.map bp) .no, .v (.int .i64 s.version)] 39):=by rw [←e2,ah]
 have q2:g i2=none:=h2;have sg:Ab.Sub g H2:=s2;rw [e2];clear e2;intro i3 h3;simp -implicitDefEqProofs only [go_sem];obtain ⟨H3,e3⟩:∃H3,upd H2 i3 (some (.obj [.v (.int .i64 o.kind), .s o.subj, .s o.case, .s o.field, .s o.to, .v (.int .i64 o.val.kind), .v (.int .i64 o.val.n), .s o.val.s, .v (.int .i64 o.review), .s o.text, .s o.reason, .v (.bool o.glass)] 26))=H3:=⟨_,rfl⟩;have s3:Ab.Sub H2 H3:=by rw [←e3]; exact .ai h3
 have n3_2:i3≠i2:=fun e=>by rw [e,b2] at h3; cases h3
 replace b2:=s3 _ _ b2;have b3:H3 i3=some (.obj [.v (.int .i64 o.kind), .s o.subj, .s o.case, .s o.field, .s o.to, .v (.int .i64 o.val.kind), .v (.int .i64 o.val.n), .s o.val.s, .v (.int .i64 o.review), .s o.text, .s o.reason, .v (.bool o.glass)] 26):=by rw [←e3,ah]
 have q3:g i3=none:=sg.none h3;have sg:Ab.Sub g H3:=sg.trans s3;rw [e3];clear e3;intro i4 h4;simp -implicitDefEqProofs only [go_sem];obtain ⟨H4,e4⟩:∃H4,upd H3 i4 (some (.obj [.v (.int .i64 0), .sl [] .full, .sl [] .full, .sl [] .full, .sl [] .full, .s [], .v (.bool false), .v (.int .i64 0), .sl [] .full, .sl [] .full, .sl [] .full, .sl [] .full, .v (.int .i64 0)] 39))=H4:=⟨_,rfl⟩;have s4:Ab.Sub H3 H4:=by rw [←e4]; exact .ai h4
 have n4_2:i4≠i2:=fun e=>by rw [e,b2] at h4; cases h4
 have n4_3:i4≠i3:=fun e=>by rw [e,b3] at h4; cases h4
 replace b2:=s4 _ _ b2;replace b3:=s4 _ _ b3;have b4:H4 i4=some (.obj [.v (.int .i64 0), .sl [] .full, .sl [] .full, .sl [] .full, .sl [] .full, .s [], .v (.bool false), .v (.int .i64 0), .sl [] .full, .sl [] .full, .sl [] .full, .sl [] .full, .v (.int .i64 0)] 39):=by rw [←e4,ah]
 have q4:g i4=none:=sg.none h4;have sg:Ab.Sub g H4:=sg.trans s4;rw [e4];clear e4;intro i5 h5;simp -implicitDefEqProofs only [go_sem];obtain ⟨H5,e5⟩:∃H5,upd H4 i5 (some (.obj [.v (.int .i64 0), .v (.complex .f64 0 0), .v (.bool false), .v (.int .i64 0), .v (.int .i64 0), .s [], .v (.bool false), .v (.int .i64 0)] 46))=H5:=⟨_,rfl⟩;have s5:Ab.Sub H4 H5:=by rw [←e5]; exact .ai h5
 have n5_2:i5≠i2:=fun e=>by rw [e,b2] at h5; cases h5
 have n5_3:i5≠i3:=fun e=>by rw [e,b3] at h5; cases h5
 have n5_4:i5≠i4:=fun e=>by rw [e,b4] at h5; cases h5
 replace b2:=s5 _ _ b2;replace b3:=s5 _ _ b3;replace b4:=s5 _ _ b4;have b5:H5 i5=some (.obj [.v (.int .i64 0), .v (.complex .f64 0 0), .v (.bool false), .v (.int .i64 0), .v (.int .i64 0), .s [], .v (.bool false), .v (.int .i64 0)] 46):=by rw [←e5,ah]
 have q5:g i5=none:=sg.none h5;have sg:Ab.Sub g H5:=sg.trans s5;rw [e5];clear e5;intro i6 h6;simp -implicitDefEqProofs only [go_sem];obtain ⟨H6,e6⟩:∃H6,upd H5 i6 (some (.obj [.v (.int .i64 0), .s [], .s [], .s [], .s [], .v (.int .i64 0), .v (.int .i64 0), .s [], .v (.int .i64 0), .s [], .s [], .v (.bool false), .v (.int .i64 0), .v (.complex .f64 0 0), .v (.bool false), .sl [] .full] 48))=H6:=⟨_,rfl⟩;have s6:Ab.Sub H5 H6:=by rw [←e6]; exact .ai h6
 have n6_2:i6≠i2:=fun e=>by rw [e,b2] at h6; cases h6
 have n6_3:i6≠i3:=fun e=>by rw [e,b3] at h6; cases h6
 have n6_4:i6≠i4:=fun e=>by rw [e,b4] at h6; cases h6
 have n6_5:i6≠i5:=fun e=>by rw [e,b5] at h6; cases h6
 replace b2:=s6 _ _ b2;replace b3:=s6 _ _ b3;replace b4:=s6 _ _ b4;replace b5:=s6 _ _ b5;have b6:H6 i6=some (.obj [.v (.int .i64 0), .s [], .s [], .s [], .s [], .v (.int .i64 0), .v (.int .i64 0), .s [], .v (.int .i64 0), .s [], .s [], .v (.bool false), .v (.int .i64 0), .v (.complex .f64 0 0), .v (.bool false), .sl [] .full] 48):=by rw [←e6,ah]
 have q6:g i6=none:=sg.none h6;have sg:Ab.Sub g H6:=sg.trans s6;rw [e6];clear e6;refine WP.IB hU hm 0 (fun (_:Nat) (ρ:Env) (H' :Heap)=>∃(e a:Int),Ab.Sub g H'∧H' i2=some (.obj [.v (.int .i64 s.tick), .sl (s.cases.map bP) .no, .sl (s.reviews.map fM) .no, .sl (s.notices.map j4) .no, .sl (s.roles.map dQ) .no, .s pid, .v (.bool pset), .v (.int .i64 palg), .sl (ptgt.map cN) .no, .sl (prules.map aC) .no, .sl (pkids.map aK) .no, .sl (pobls.map bp) .no, .v (.int .i64 s.version)] 39)∧H' i4=some (.obj [.v (.int .i64 0), .sl [] .full, .sl [] .full, .sl [] .full, .sl [] .full, .s [], .v (.bool false), .v (.int .i64 0), .sl [] .full, .sl [] .full, .sl [] .full, .sl [] .full, .v (.int .i64 0)] 39)∧H' i5=some (.obj [.v (.int .i64 0), .v (.complex .f64 0 0), .v (.bool false), .v (.int .i64 0), .v (.int .i64 0), .s [], .v (.bool false), .v (.int .i64 0)] 46)∧H' i6=some (.obj [.v (.int .i64 0), .s [], .s [], .s [], .s [], .v (.int .i64 0), .v (.int .i64 0), .s [], .v (.int .i64 0), .s [], .s [], .v (.bool false), .v (.int .i64 0), .v (.complex .f64 0 0), .v (.bool false), .sl [] .full] 48)∧lk ρ 2=some (.ptr i2 0)∧lk ρ 4=some (.ptr i4 0)∧lk ρ 5=some (.ptr i5 0)∧lk ρ 6=some (.ptr i6 0)∧lk ρ 12=some (.v (.int .i64 e))∧lk ρ 13=some (.v (.int .i64 a))∧bw s o=(s,⟨e,naM,false,ay,false,a⟩,uS,e)) rfl ?_ ?_
 ·rintro m ρ H' ⟨e,a,sg',b2,b4,b5,b6,r2,r4,r5,r6,r12,r13,hgd⟩
  refine .vc hU hm ?_;simp -implicitDefEqProofs only [go_sem,r2,r4,r5,r6,r12,r13,b2,b4,b5,b6,aj,n5_4,n5_4.symm,n6_4,n6_4.symm,n6_5,n6_5.symm];refine .mk _ (.refl _) (.refl _) ⟨((sg'.put q4 _).put q5 _).put q6 _,_, ?_,rfl⟩;rw [hgd];exact xY (S:=s) ⟨e,naM,false,ay,false,a⟩ uS e (by rw [←hst]; exact L5 s) .full
 intro _;refine .one hU hm ?_;simp -implicitDefEqProofs only [go_sem];intro i8 h8;simp -implicitDefEqProofs only [go_sem];obtain ⟨H8,e8⟩:∃H8,upd H6 i8 (some (.obj [.v (.complex .f64 0 0), .sl [] .full] 57))=H8:=⟨_,rfl⟩;have s8:Ab.Sub H6 H8:=by rw [←e8]; exact .ai h8
 have n8_2:i8≠i2:=fun e=>by rw [e,b2] at h8; cases h8
 have n8_3:i8≠i3:=fun e=>by rw [e,b3] at h8; cases h8
 have n8_4:i8≠i4:=fun e=>by rw [e,b4] at h8; cases h8
 have n8_5:i8≠i5:=fun e=>by rw [e,b5] at h8; cases h8
 have n8_6:i8≠i6:=fun e=>by rw [e,b6] at h8; cases h8
 replace b2:=s8 _ _ b2;replace b3:=s8 _ _ b3;replace b4:=s8 _ _ b4;replace b5:=s8 _ _ b5;replace b6:=s8 _ _ b6;have b8:H8 i8=some (.obj [.v (.complex .f64 0 0), .sl [] .full] 57):=by rw [←e8,ah]
 have q8:g i8=none:=sg.none h8;have sg:Ab.Sub g H8:=sg.trans s8;rw [e8];clear e8;refine .one hU hm ?_;simp -implicitDefEqProofs only [go_sem];intro i9 h9;simp -implicitDefEqProofs only [go_sem];obtain ⟨H9,e9⟩:∃H9,upd H8 i9 (some (.obj [.v (.int .i64 0), .v (.complex .f64 0 0), .v (.bool false), .v (.int .i64 0), .v (.int .i64 0), .s [], .v (.bool false), .v (.int .i64 0)] 46))=H9:=⟨_,rfl⟩;have s9:Ab.Sub H8 H9:=by rw [←e9]; exact .ai h9
 have n9_2:i9≠i2:=fun e=>by rw [e,b2] at h9; cases h9
 have n9_3:i9≠i3:=fun e=>by rw [e,b3] at h9; cases h9
 have n9_4:i9≠i4:=fun e=>by rw [e,b4] at h9; cases h9
 have n9_5:i9≠i5:=fun e=>by rw [e,b5] at h9; cases h9
 have n9_6:i9≠i6:=fun e=>by rw [e,b6] at h9; cases h9
 have n9_8:i9≠i8:=fun e=>by rw [e,b8] at h9; cases h9
 replace b2:=s9 _ _ b2;replace b3:=s9 _ _ b3;replace b4:=s9 _ _ b4;replace b5:=s9 _ _ b5;replace b6:=s9 _ _ b6;replace b8:=s9 _ _ b8;have b9:H9 i9=some (.obj [.v (.int .i64 0), .v (.complex .f64 0 0), .v (.bool false), .v (.int .i64 0), .v (.int .i64 0), .s [], .v (.bool false), .v (.int .i64 0)] 46):=by rw [←e9,ah]
 have q9:g i9=none:=sg.none h9;have sg:Ab.Sub g H9:=sg.trans s9;rw [e9];clear e9;refine .one hU hm ?_;simp -implicitDefEqProofs only [go_sem];intro i10 h10;simp -implicitDefEqProofs only [go_sem];obtain ⟨H10,e10⟩:∃H10,upd H9 i10 (some (.obj [.v (.int .i64 0), .sl [] .full, .sl [] .full, .sl [] .full, .sl [] .full, .s [], .v (.bool false), .v (.int .i64 0), .sl [] .full, .sl [] .full, .sl [] .full, .sl [] .full, .v (.int .i64 0)] 39))=H10:=⟨_,rfl⟩;have s10:Ab.Sub H9 H10:=by rw [←e10]; exact .ai h10
 have n10_2:i10≠i2:=fun e=>by rw [e,b2] at h10; cases h10
 have n10_3:i10≠i3:=fun e=>by rw [e,b3] at h10; cases h10
 have n10_4:i10≠i4:=fun e=>by rw [e,b4] at h10; cases h10
 have n10_5:i10≠i5:=fun e=>by rw [e,b5] at h10; cases h10
 have n10_6:i10≠i6:=fun e=>by rw [e,b6] at h10; cases h10
 have n10_8:i10≠i8:=fun e=>by rw [e,b8] at h10; cases h10
 have n10_9:i10≠i9:=fun e=>by rw [e,b9] at h10; cases h10
 replace b2:=s10 _ _ b2;replace b3:=s10 _ _ b3;replace b4:=s10 _ _ b4;replace b5:=s10 _ _ b5;replace b6:=s10 _ _ b6;replace b8:=s10 _ _ b8;replace b9:=s10 _ _ b9;have b10:H10 i10=some (.obj [.v (.int .i64 0), .sl [] .full, .sl [] .full, .sl [] .full, .sl [] .full, .s [], .v (.bool false), .v (.int .i64 0), .sl [] .full, .sl [] .full, .sl [] .full, .sl [] .full, .v (.int .i64 0)] 39):=by rw [←e10,ah]
 have q10:g i10=none:=sg.none h10;have sg:Ab.Sub g H10:=sg.trans s10;rw [e10];clear e10;refine .one hU hm ?_;simp -implicitDefEqProofs only [go_sem];have hrd:=fun G=>BB (rdS G s) o hG.few ho.2.2.2 hG.Dn
 have hpa:=fun (G:Heap) (hs:Ab.Sub g G)=>wg o.text G (he.sub hs)
 rw [hst] at hrd;simp only [opA,opC] at hrd;refine .one hU hm ?_;simp -implicitDefEqProofs only [go_sem,b2,b3];refine (hrd _).pthen ?_;simp -implicitDefEqProofs only [go_sem];refine .cut (fun ρ H' =>H' =H10∧lk ρ 2=some (.ptr i2 0)∧lk ρ 3=some (.ptr i3 0)∧lk ρ 4=some (.ptr i4 0)∧lk ρ 5=some (.ptr i5 0)∧lk ρ 6=some (.ptr i6 0)∧lk ρ 8=some (.ptr i8 0)∧lk ρ 9=some (.ptr i9 0)∧lk ρ 10=some (.ptr i10 0)∧lk ρ 11=some (.v (.bool false))∧lk ρ 12=some (.v (.int .i64 (hD s o).1))∧lk ρ 13=some (.v (.int .i64 (hD s o).2))) ?_ ?_
 ·refine .vc hU hm ?_
  cases dr:(bx s o==0)
  ·have er:bx s o≠0:=by simpa using dr
   have ep:hD s o=(bx s o,0):=by unfold hD; rw [if_neg fun hh=>er hh.1]
   simp -implicitDefEqProofs only [go_sem,dr];refine ⟨rfl, ?_, ?_, ?_, ?_, ?_, ?_, ?_, ?_, ?_, ?_, ?_⟩<;>simp -implicitDefEqProofs only [go_sem,ep]
  have er:bx s o=0:=by simpa using dr
  cases d7:(o.kind==7)
  ·have e7:o.kind≠7:=by simpa using d7
   have ep:hD s o=(bx s o,0):=by unfold hD; rw [if_neg fun hh=>e7 hh.2]
   simp -implicitDefEqProofs only [go_sem,b3,dr,d7];refine ⟨rfl, ?_, ?_, ?_, ?_, ?_, ?_, ?_, ?_, ?_, ?_, ?_⟩<;>simp -implicitDefEqProofs only [go_sem,ep]
  ·have e7:o.kind=7:=by simpa using d7
   have ep:hD s o=((aM o.text).2.1,(aM o.text).2.2):=by unfold hD; rw [if_pos ⟨er,e7⟩]
   simp -implicitDefEqProofs only [go_sem,b3,dr,d7];refine (hpa _ sg).pthen ?_;obtain ⟨⟨pp,e,a⟩,epp⟩:∃x,aM o.text=x:=⟨_,rfl⟩;rw [epp] at ep;simp -implicitDefEqProofs only [go_sem,jj,epp];refine ⟨rfl, ?_, ?_, ?_, ?_, ?_, ?_, ?_, ?_, ?_, ?_, ?_⟩<;>simp -implicitDefEqProofs only [go_sem,ep]
 rintro ρ H' ⟨rfl,r2,r3,r4,r5,r6,r8,r9,r10,r11,r12,r13⟩
 refine .one hU hm ?_;cases de:((hD s o).1 !=0)
 case true=>
  have ee:(hD s o).1≠0:=by simpa using de
  simp -implicitDefEqProofs only [go_sem,r2,r4,r5,r6,r12,r13,de];exact ⟨0,(hD s o).1,(hD s o).2,sg,b2,b4,b5,b6,rfl,rfl,by unfold bw; rw [if_pos ee]⟩
 have ee:(hD s o).1=0:=by simpa using de
 simp -implicitDefEqProofs only [go_sem,r12,de];obtain ⟨hr0,hform,hpar⟩:=wz ee;have hfg:=Gw (Eu hG.tocX hform);have hask:=fun G=>LG (rdS G s) o hG.few ho.1
 have hdec:=fun G=>AT s.policy hG.pol (fy s o) hfg G
 have hm6:=zm (fy s o) s.policy;have hol:=GW (fy s o) hG.lB;have hmk:eE s o=dO (fy s o) s.policy:=rfl;obtain ⟨⟨m,ob⟩,em⟩:∃x,dO (fy s o) s.policy=x:=⟨_,rfl⟩;rw [em] at hdec hm6 hol hmk;simp only at hm6 hol;rw [hpp] at hdec;simp only [aK,aU,aA,aX,bE,rsA,aR] at hdec;rw [hst] at hask;simp only [opA,opC,bE] at hask;have p2:=(bz (H:=H') (l:= [i2,i3]) (show i2∈ [i2,i3] by simp)).trans b2
 have p3:=(bz (H:=H') (l:= [i2,i3]) (show i3∈ [i2,i3] by simp)).trans b3
 refine .one hU hm ?_;simp -implicitDefEqProofs only [go_sem];refine .calls (pick H' [i2,i3]) [0,1,2,3,4,5,6,7,8,9,10] bt (by kernel_rfl) rfl ?_
 simp -implicitDefEqProofs only [go_sem,r2,r3,p2,p3];refine (hask _).pthen ?_;refine ⟨bt, ?_⟩;simp -implicitDefEqProofs only [go_sem];refine (hdec _).pthen ?_;refine ⟨bt, ?_⟩;simp -implicitDefEqProofs only [go_sem,r8,b8];refine ⟨bt.put (by simp [pick,n8_2,n8_3]) _, ?_⟩
 obtain ⟨H11,eH11⟩:∃H11,upd H' i8 (some (.obj [.v (.complex .f64 (hbit m.1) (hbit m.2)), .sl (ob.map bp) .no] 57))=H11:=⟨_,rfl⟩;replace b2:H11 i2=some (.obj [.v (.int .i64 s.tick), .sl (s.cases.map bP) .no, .sl (s.reviews.map fM) .no, .sl (s.notices.map j4) .no, .sl (s.roles.map dQ) .no, .s pid, .v (.bool pset), .v (.int .i64 palg), .sl (ptgt.map cN) .no, .sl (prules.map aC) .no, .sl (pkids.map aK) .no, .sl (pobls.map bp) .no, .v (.int .i64 s.version)] 39):=by rw [←eH11,ag _ _ n8_2.symm]; exact b2
 replace b3:H11 i3=some (.obj [.v (.int .i64 o.kind), .s o.subj, .s o.case, .s o.field, .s o.to, .v (.int .i64 o.val.kind), .v (.int .i64 o.val.n), .s o.val.s, .v (.int .i64 o.review), .s o.text, .s o.reason, .v (.bool o.glass)] 26):=by rw [←eH11,ag _ _ n8_3.symm]; exact b3
 replace b4:H11 i4=some (.obj [.v (.int .i64 0), .sl [] .full, .sl [] .full, .sl [] .full, .sl [] .full, .s [], .v (.bool false), .v (.int .i64 0), .sl [] .full, .sl [] .full, .sl [] .full, .sl [] .full, .v (.int .i64 0)] 39):=by rw [←eH11,ag _ _ n8_4.symm]; exact b4
 replace b5:H11 i5=some (.obj [.v (.int .i64 0), .v (.complex .f64 0 0), .v (.bool false), .v (.int .i64 0), .v (.int .i64 0), .s [], .v (.bool false), .v (.int .i64 0)] 46):=by rw [←eH11,ag _ _ n8_5.symm]; exact b5
 replace b6:H11 i6=some (.obj [.v (.int .i64 0), .s [], .s [], .s [], .s [], .v (.int .i64 0), .v (.int .i64 0), .s [], .v (.int .i64 0), .s [], .s [], .v (.bool false), .v (.int .i64 0), .v (.complex .f64 0 0), .v (.bool false), .sl [] .full] 48):=by rw [←eH11,ag _ _ n8_6.symm]; exact b6
 replace b9:H11 i9=some (.obj [.v (.int .i64 0), .v (.complex .f64 0 0), .v (.bool false), .v (.int .i64 0), .v (.int .i64 0), .s [], .v (.bool false), .v (.int .i64 0)] 46):=by rw [←eH11,ag _ _ n9_8]; exact b9
 replace b10:H11 i10=some (.obj [.v (.int .i64 0), .sl [] .full, .sl [] .full, .sl [] .full, .sl [] .full, .s [], .v (.bool false), .v (.int .i64 0), .sl [] .full, .sl [] .full, .sl [] .full, .sl [] .full, .v (.int .i64 0)] 39):=by rw [←eH11,ag _ _ n10_8]; exact b10
 replace b8:H11 i8=some (.obj [.v (.complex .f64 (hbit m.1) (hbit m.2)), .sl (ob.map bp) .no] 57):=by rw [←eH11,ah]
 replace sg:Ab.Sub g H11:=by rw [←eH11]; exact sg.put q8 _
 rw [eH11];clear eH11;have hbr:=fun G=>Ex s o m hm6.m9 (by have:=hG.nr; omega) (by have:=hG.roles; omega) hG.tick hG.ticks G
 rw [hst] at hbr;simp only [opA,opC,aR] at hbr;obtain ⟨gl,egl⟩:∃gl,pJ s o m=gl:=⟨_,rfl⟩;have hgl:dF s o=gl:=by unfold dF; rw [hmk]; exact egl
 rw [egl] at hbr;have p2:=(bz (H:=H11) (l:= [i2,i3,i8]) (show i2∈ [i2,i3,i8] by simp)).trans b2
 have p3:=(bz (H:=H11) (l:= [i2,i3,i8]) (show i3∈ [i2,i3,i8] by simp)).trans b3
 have p8:=(bz (H:=H11) (l:= [i2,i3,i8]) (show i8∈ [i2,i3,i8] by simp)).trans b8
 refine .one hU hm ?_;simp -implicitDefEqProofs only [go_sem];refine .stage (pick H11 [i2,i3,i8]) [0,1,2,3,4,5,7,6] [8,9,10] bt (by kernel_rfl) ?_
 simp -implicitDefEqProofs only [go_sem,r2,r3,r8,r9,p2,p3,p8];refine (hbr _).pthen ?_;refine ⟨bt,cO,fun _ _ e=>(by cases e), ?_⟩
 simp -implicitDefEqProofs only [go_sem,r9,b9];refine ⟨fun _ _ e=>(by cases e),fun _ _ e=>(by cases e), ?_⟩
 obtain ⟨H12,eH12⟩:∃H12,upd H11 i9 (some (.obj [.v (.int .i64 0), .v (.complex .f64 (hbit m.1) (hbit m.2)), .v (.bool gl), .v (.int .i64 0), .v (.int .i64 0), .s [], .v (.bool false), .v (.int .i64 0)] 46))=H12:=⟨_,rfl⟩;replace b2:H12 i2=some (.obj [.v (.int .i64 s.tick), .sl (s.cases.map bP) .no, .sl (s.reviews.map fM) .no, .sl (s.notices.map j4) .no, .sl (s.roles.map dQ) .no, .s pid, .v (.bool pset), .v (.int .i64 palg), .sl (ptgt.map cN) .no, .sl (prules.map aC) .no, .sl (pkids.map aK) .no, .sl (pobls.map bp) .no, .v (.int .i64 s.version)] 39):=by rw [←eH12,ag _ _ n9_2.symm]; exact b2
 replace b3:H12 i3=some (.obj [.v (.int .i64 o.kind), .s o.subj, .s o.case, .s o.field, .s o.to, .v (.int .i64 o.val.kind), .v (.int .i64 o.val.n), .s o.val.s, .v (.int .i64 o.review), .s o.text, .s o.reason, .v (.bool o.glass)] 26):=by rw [←eH12,ag _ _ n9_3.symm]; exact b3
 replace b4:H12 i4=some (.obj [.v (.int .i64 0), .sl [] .full, .sl [] .full, .sl [] .full, .sl [] .full, .s [], .v (.bool false), .v (.int .i64 0), .sl [] .full, .sl [] .full, .sl [] .full, .sl [] .full, .v (.int .i64 0)] 39):=by rw [←eH12,ag _ _ n9_4.symm]; exact b4
 replace b5:H12 i5=some (.obj [.v (.int .i64 0), .v (.complex .f64 0 0), .v (.bool false), .v (.int .i64 0), .v (.int .i64 0), .s [], .v (.bool false), .v (.int .i64 0)] 46):=by rw [←eH12,ag _ _ n9_5.symm]; exact b5
 replace b6:H12 i6=some (.obj [.v (.int .i64 0), .s [], .s [], .s [], .s [], .v (.int .i64 0), .v (.int .i64 0), .s [], .v (.int .i64 0), .s [], .s [], .v (.bool false), .v (.int .i64 0), .v (.complex .f64 0 0), .v (.bool false), .sl [] .full] 48):=by rw [←eH12,ag _ _ n9_6.symm]; exact b6
 replace b8:H12 i8=some (.obj [.v (.complex .f64 (hbit m.1) (hbit m.2)), .sl (ob.map bp) .no] 57):=by rw [←eH12,ag _ _ n9_8.symm]; exact b8
 replace b10:H12 i10=some (.obj [.v (.int .i64 0), .sl [] .full, .sl [] .full, .sl [] .full, .sl [] .full, .s [], .v (.bool false), .v (.int .i64 0), .sl [] .full, .sl [] .full, .sl [] .full, .sl [] .full, .v (.int .i64 0)] 39):=by rw [←eH12,ag _ _ n10_9]; exact b10
 replace b9:H12 i9=some (.obj [.v (.int .i64 0), .v (.complex .f64 (hbit m.1) (hbit m.2)), .v (.bool gl), .v (.int .i64 0), .v (.int .i64 0), .s [], .v (.bool false), .v (.int .i64 0)] 46):=by rw [←eH12,ah]
 replace sg:Ab.Sub g H12:=by rw [←eH12]; exact sg.put q9 _
 rw [eH12];clear eH12;obtain ⟨dn,edn⟩:∃dn,(decide (m=aN)||gl)=dn:=⟨_,rfl⟩
 have hdn:nV s o=dn:=by unfold nV; rw [hmk,hgl]; exact edn
 have pe:=(nb hm6.m9).pe;refine .cut (fun ρ H' =>H' =H12∧lk ρ 2=some (.ptr i2 0)∧lk ρ 3=some (.ptr i3 0)∧lk ρ 4=some (.ptr i4 0)∧lk ρ 5=some (.ptr i5 0)∧lk ρ 6=some (.ptr i6 0)∧lk ρ 8=some (.ptr i8 0)∧lk ρ 9=some (.ptr i9 0)∧lk ρ 10=some (.ptr i10 0)∧lk ρ 11=some (.v (.bool dn))∧lk ρ 13=some (.v (.int .i64 (hD s o).2))) ?_ ?_
 ·refine .vc hU hm ?_
  cases dp:(m==aN)
  ·have e1:decide (m=aN)=false:=decide_eq_false (by simpa using dp)
   rw [e1,Bool.false_or] at edn;simp -implicitDefEqProofs only [go_sem,r8,r9,b8,b9,pe,dp];refine ⟨rfl, ?_, ?_, ?_, ?_, ?_, ?_, ?_, ?_, ?_, ?_⟩<;>simp -implicitDefEqProofs only [go_sem,r2,r3,r4,r5,r6,r8,r9,r10,r13,edn]
  ·have e1:decide (m=aN)=true:=decide_eq_true (by simpa using dp)
   rw [e1,Bool.true_or] at edn;simp -implicitDefEqProofs only [go_sem,r8,b8,pe,dp];refine ⟨rfl, ?_, ?_, ?_, ?_, ?_, ?_, ?_, ?_, ?_, ?_⟩<;>simp -implicitDefEqProofs only [go_sem,r2,r3,r4,r5,r6,r8,r9,r10,r13,edn]
 clear r2 r3 r4 r5 r6 r8 r9 r10 r11 r12 r13
 rintro ρ H' ⟨rfl,r2,r3,r4,r5,r6,r8,r9,r10,r11,r13⟩
 have how:=fun G=>JF s hG.few G
 rw [hst] at how;refine .one hU hm ?_;simp -implicitDefEqProofs only [go_sem,r2,b2];refine (how _).mono fun r H13 ⟨y1,y2,y3,er,hown,hs13⟩=> ?_
 subst er;rw [pz hpp];simp only [dH];simp -implicitDefEqProofs only [go_sem,r10,hs13 _ _ b10];obtain ⟨H14,e14⟩:∃H14,upd H13 i10 (some (.obj [.v (.int .i64 s.tick),y1,y2,y3, .sl (s.roles.map dQ) .no, .s pid, .v (.bool pset), .v (.int .i64 palg), .sl (ptgt.map cN) .no, .sl (prules.map aC) .no, .sl (pkids.map aK) .no, .sl (pobls.map bp) .no, .v (.int .i64 s.version)] 39))=H14:=⟨_,rfl⟩;have hS:GSt H' H14 i10 s s.cases.length:=⟨y1,y2,y3,dH s.roles,by rw [←e14,ah,pz hpp]; rfl,hown.keep (fun q hq _=>by rw [←e14]; exact ag _ _ fun e=>by rw [e,b10] at hq; cases hq),by rw [b10]; simp,fun i b hi hb=>by rw [←e14,ag _ _ hi]; exact hs13 _ _ hb⟩
 rw [e14];clear e14;have sGB:=sg;have hroom:s.reviews.length≤1000:=hG.nrev;refine .cut (fun ρ H2=>GSt H' H2 i10 (if gl=true then dD s o o.reason else s) s.cases.length∧lk ρ 2=some (.ptr i2 0)∧lk ρ 3=some (.ptr i3 0)∧lk ρ 4=some (.ptr i4 0)∧lk ρ 5=some (.ptr i5 0)∧lk ρ 6=some (.ptr i6 0)∧lk ρ 8=some (.ptr i8 0)∧lk ρ 9=some (.ptr i9 0)∧lk ρ 10=some (.ptr i10 0)∧lk ρ 11=some (.v (.bool dn))∧lk ρ 13=some (.v (.int .i64 (hD s o).2))) ?_ ?_
 ·refine .vc hU hm ?_
  have c9:=hS.at n10_9.symm b9;have c3:=hS.at n10_3.symm b3;have hop:=Be hS o o.reason ho.1 (by omega)
  simp only [opA,opC] at hop;cases gl
  ·simp -implicitDefEqProofs only [go_sem,r9,c9]
   refine ⟨hS, ?_, ?_, ?_, ?_, ?_, ?_, ?_, ?_, ?_, ?_⟩<;>simp -implicitDefEqProofs only [go_sem,r2,r3,r4,r5,r6,r8,r9,r10,r11,r13]
  ·simp -implicitDefEqProofs only [go_sem,r3,r9,r10,c9,c3]
   refine hop.mono fun r H3 h3=> ?_
   simp -implicitDefEqProofs only [go_sem];refine ⟨h3, ?_, ?_, ?_, ?_, ?_, ?_, ?_, ?_, ?_, ?_⟩<;>simp -implicitDefEqProofs only [go_sem,r2,r3,r4,r5,r6,r8,r9,r10,r11,r13]
 clear hS r2 r3 r4 r5 r6 r8 r9 r10 r11 r13
 rintro ρ H2 ⟨hS,r2,r3,r4,r5,r6,r8,r9,r10,r11,r13⟩
 have hbd:cr s o=cY (if dn=true then cE aM (if gl=true then dD s o o.reason else s) o else (if gl=true then dD s o o.reason else s)) o ob dn:=by
  unfold cr;rw [hgl,hdn,hmk]
 have hO1:cX k (if gl=true then dD s o o.reason else s):=by
  split
  ·exact zD o _ hG.tocX (by have:=hG.nr; omega)
  ·exact hG.tocX
 have hc1:(if gl=true then dD s o o.reason else s).cases=s.cases:=by split<;>rfl
 have hp1:(if gl=true then dD s o o.reason else s).policy= .mk pid pset palg ptgt prules pkids pobls:=by split<;>exact hpp
 have hg1:qb 999 (if gl=true then dD s o o.reason else s):=by
  have h1:=hG.nr;have h2:=hG.nn;have h3:=fun c hc=>(hG.case c hc).log2
  split
  ·exact ⟨fun c hc=>by have:=h3 c hc; omega,by simp only [dD,VE,List.length_singleton]; omega,by simp only [dD]; omega⟩
  ·exact ⟨fun c hc=>by have:=h3 c hc; omega,by omega,by omega⟩
 have hr1:bx (if gl=true then dD s o o.reason else s) o=0:=by
  split
  ·rename_i hgt
   have hgo:=vu hform (AJ (hgl.trans hgt));rw [←hr0];unfold bx;have k5:o.kind≠5:=by omega
   have k6:o.kind≠6:=by omega
   have k8:o.kind≠8:=by omega
   simp only [k5,k6,k8,if_false];rfl
  ·exact hr0
 obtain ⟨s1,es1⟩:∃s1,(if gl=true then dD s o o.reason else s)=s1:=⟨_,rfl⟩
 rw [es1] at hS hbd hO1 hc1 hp1 hg1 hr1;have hre:lD s o=⟨if dn=true then 0 else 12,m,gl,if (dn && o.kind==2 && !jg ob o.field)=true then eD (bn s.cases o.case).fields o.field else ay,dn && o.kind==2 && jg ob o.field,0⟩:=by
  unfold lD;rw [hgl,hdn,hmk]
 have hve:=hO1.ver;have b9n:H' i9≠none:=by rw [b9]; simp
 refine .cut (fun ρ H3=>lk ρ 2=some (.ptr i2 0)∧lk ρ 3=some (.ptr i3 0)∧lk ρ 4=some (.ptr i4 0)∧lk ρ 5=some (.ptr i5 0)∧lk ρ 6=some (.ptr i6 0)∧lk ρ 8=some (.ptr i8 0)∧lk ρ 9=some (.ptr i9 0)∧lk ρ 10=some (.ptr i10 0)∧lk ρ 11=some (.v (.bool dn))∧lk ρ 13=some (.v (.int .i64 (hD s o).2))∧∃(GB:Heap) (j:Nat),GSt GB H3 i10 (if dn=true then cE aM s1 o else s1) j∧Ab.Sub g GB∧(dn=true→gM (if dn=true then cE aM s1 o else s1).cases o.case<(if dn=true then cE aM s1 o else s1).cases.length→o.kind≠6→j=gM (if dn=true then cE aM s1 o else s1).cases o.case)∧GB i2=some (.obj [.v (.int .i64 s.tick), .sl (s.cases.map bP) .no, .sl (s.reviews.map fM) .no, .sl (s.notices.map j4) .no, .sl (s.roles.map dQ) .no, .s pid, .v (.bool pset), .v (.int .i64 palg), .sl (ptgt.map cN) .no, .sl (prules.map aC) .no, .sl (pkids.map aK) .no, .sl (pobls.map bp) .no, .v (.int .i64 s.version)] 39)∧GB i3=some (.obj [.v (.int .i64 o.kind), .s o.subj, .s o.case, .s o.field, .s o.to, .v (.int .i64 o.val.kind), .v (.int .i64 o.val.n), .s o.val.s, .v (.int .i64 o.review), .s o.text, .s o.reason, .v (.bool o.glass)] 26)∧GB i4=some (.obj [.v (.int .i64 0), .sl [] .full, .sl [] .full, .sl [] .full, .sl [] .full, .s [], .v (.bool false), .v (.int .i64 0), .sl [] .full, .sl [] .full, .sl [] .full, .sl [] .full, .v (.int .i64 0)] 39)∧GB i5=some (.obj [.v (.int .i64 0), .v (.complex .f64 0 0), .v (.bool false), .v (.int .i64 0), .v (.int .i64 0), .s [], .v (.bool false), .v (.int .i64 0)] 46)∧GB i6=some (.obj [.v (.int .i64 0), .s [], .s [], .s [], .s [], .v (.int .i64 0), .v (.int .i64 0), .s [], .v (.int .i64 0), .s [], .s [], .v (.bool false), .v (.int .i64 0), .v (.complex .f64 0 0), .v (.bool false), .sl [] .full] 48)∧GB i8=some (.obj [.v (.complex .f64 (hbit m.1) (hbit m.2)), .sl (ob.map bp) .no] 57)∧GB i9=some (.obj [.v (.int .i64 (if dn=true then 0 else 12)), .v (.complex .f64 (hbit m.1) (hbit m.2)), .v (.bool gl), .v (.int .i64 (if (dn && o.kind==2 && !jg ob o.field)=true then eD (bn s.cases o.case).fields o.field else ay).kind), .v (.int .i64 (if (dn && o.kind==2 && !jg ob o.field)=true then eD (bn s.cases o.case).fields o.field else ay).n), .s (if (dn && o.kind==2 && !jg ob o.field)=true then eD (bn s.cases o.case).fields o.field else ay).s, .v (.bool (dn && o.kind==2 && jg ob o.field)), .v (.int .i64 0)] 46)) ?_ ?_
 ·refine .vc hU hm ?_
  have c9:=hS.at n10_9.symm b9;have c3:=hS.at n10_3.symm b3;have c8:=hS.at n10_8.symm b8;have c2:=hS.at n10_2.symm b2;cases dn
  ·simp -implicitDefEqProofs only [go_sem,r9,r11,c9]
   refine ⟨?_, ?_, ?_, ?_, ?_, ?_, ?_, ?_, ?_, ?_,upd H' i9 _,s.cases.length,hS.put n10_9.symm b9n _,sGB.put q9 _,fun e=>(by cases e),by rw [ag _ _ n9_2.symm]; exact b2,by rw [ag _ _ n9_3.symm]; exact b3,by rw [ag _ _ n9_4.symm]; exact b4,by rw [ag _ _ n9_5.symm]; exact b5,by rw [ag _ _ n9_6.symm]; exact b6,by rw [ag _ _ n9_8.symm]; exact b8,ah ..⟩<;>simp -implicitDefEqProofs only [go_sem,r2,r3,r4,r5,r6,r8,r9,r10,r11,r13]
  ·obtain ⟨z1,z2,z3,z4,hk10,hrd⟩:=hS.rd
   have sH2:Ab.Sub g H2:=hS.sub sGB q10;have hdo:=GN hrd o hO1.few hO1.lB ho.2.2.2 hO1.Dn ⟨hve.1,by omega⟩ (he.sub sH2)
   have hjj:=fun hx (_:o.kind≠6)=>Jx (o:=o) hO1 hr1 hx
   rw [pz hp1] at hk10 hdo;simp only [opA,opC] at hdo;simp -implicitDefEqProofs only [go_sem,r3,r10,r11,hk10,c3];refine hdo.mono fun r H3 ⟨hs3,j,hOS,hj⟩=> ?_
   have hj:=hj hr1;obtain ⟨x1,x2,x3,x4,er,hOP⟩:=hOS.parts;subst er;obtain ⟨did,dset,dalg,dtgt,drules,dkids,dobls,hpd⟩:=Ii (cE aM s1 o).policy;rw [pz hpd];have k10:=hs3 _ _ hk10;obtain ⟨H4,e4⟩:∃H4,upd H3 i10 (some (.obj [.v (.int .i64 (cE aM s1 o).tick),x1,x2,x3,x4, .s did, .v (.bool dset), .v (.int .i64 dalg), .sl (dtgt.map cN) .no, .sl (drules.map aC) .no, .sl (dkids.map aK) .no, .sl (dobls.map bp) .no, .v (.int .i64 (cE aM s1 o).version)] 39))=H4:=⟨_,rfl⟩;have hS4:GSt H' H4 i10 (cE aM s1 o) j:=by
    obtain ⟨_,_,_,_,_,_,hgk,hfr⟩:=hS;refine ⟨x1,x2,x3,x4,by rw [←e4,ah,pz hpd],(hOP.keep fun q hq _=>by rw [←e4]; exact ag _ _ fun e=>by rw [e,hk10] at hq; cases hq).bI fun q hq=> ?_,hgk,fun i b hi hb=>by rw [←e4,ag _ _ hi]; exact hs3 _ _ (hfr i b hi hb)⟩
    cases hh:H' q with
    |none=>rfl
    |some b=>
     by_cases e:q=i10
     ·rw [e,hk10] at hq; cases hq
     ·rw [hfr q b e hh] at hq; cases hq
   have d9:=hS4.at n10_9.symm b9;have d3:=hS4.at n10_3.symm b3;have d8:=hS4.at n10_8.symm b8;have d2:=hS4.at n10_2.symm b2;have hjx:true=true→gM (cE aM s1 o).cases o.case<(cE aM s1 o).cases.length→o.kind≠6→j=gM (cE aM s1 o).cases o.case:=fun _ hx h6=>hj.trans (hjj hx h6)
   have hhi:=fun G=>Hi ob (by omega) o.field G
   simp only [aA] at hhi;have hca:=fun G=>qX (rdS G s) o.case hG.few
   rw [hst] at hca;have hcf:(bn s.cases o.case).fields.length≤1000000000:=by
    unfold bn;split
    ·by_cases hlt:findD s.cases o.case<s.cases.length
     ·rw [show s.cases.getD (findD s.cases o.case) lG=s.cases[findD s.cases o.case] by simp [List.getD,List.getElem?_eq_getElem hlt]]
      have:=(hG.case _ (VF hlt)).nfields;omega
     ·rw [show s.cases.getD (findD s.cases o.case) lG=lG by simp [List.getD,List.getElem?_eq_none (Nat.le_of_not_lt hlt)]]
      exact Nat.zero_le _
    ·exact Nat.zero_le _
   have hfd:=fun G=>Az (rdC G (bn s.cases o.case)) o.field hcf
   simp only [bP,kC,fO,oU] at hca hfd;simp -implicitDefEqProofs only [go_sem,r3,r10,k10];rw [e4];clear e4;cases d7:(o.kind==2)
   ·simp -implicitDefEqProofs only [go_sem,r3,r9,d9,d3,d7,n9_3.symm]
    refine ⟨?_, ?_, ?_, ?_, ?_, ?_, ?_, ?_, ?_, ?_,upd H' i9 _,j,hS4.put n10_9.symm b9n _,sGB.put q9 _,(fun _=>hjx rfl),by rw [ag _ _ n9_2.symm]; exact b2,by rw [ag _ _ n9_3.symm]; exact b3,by rw [ag _ _ n9_4.symm]; exact b4,by rw [ag _ _ n9_5.symm]; exact b5,by rw [ag _ _ n9_6.symm]; exact b6,by rw [ag _ _ n9_8.symm]; exact b8,ah ..⟩<;>simp -implicitDefEqProofs only [go_sem,r2,r3,r4,r5,r6,r8,r9,r10,r11,r13]
   ·simp -implicitDefEqProofs only [go_sem,r3,r8,d3,d8,d7]
    refine (hhi _).pthen ?_;cases hh:jg ob o.field
    ·simp -implicitDefEqProofs only [go_sem,r2,r3,r9,d9,d3,d2,d7,n9_2.symm,n9_3.symm]
     refine (hca _).pthen ?_;simp -implicitDefEqProofs only [go_sem];intro i14 h14;have t9:i14≠i9:=fun e=>by rw [e,ah] at h14; cases h14
     have t3:i14≠i3:=fun e=>by rw [e,ag _ _ n9_3.symm,d3] at h14; cases h14
     simp -implicitDefEqProofs only [go_sem,r3,d3,n9_3.symm,t3.symm];refine (hfd _).pthen ?_;simp -implicitDefEqProofs only [go_sem,r9,t9.symm,aV];refine ⟨?_, ?_, ?_, ?_, ?_, ?_, ?_, ?_, ?_, ?_,upd (upd H' i9 _) i9 _,j,((hS4.put n10_9.symm b9n _).same (.ai h14)).put n10_9.symm (by rw [ah]; simp) _,(sGB.put q9 _).put q9 _,(fun _=>hjx rfl),by rw [ag _ _ n9_2.symm,ag _ _ n9_2.symm]; exact b2,by rw [ag _ _ n9_3.symm,ag _ _ n9_3.symm]; exact b3,by rw [ag _ _ n9_4.symm,ag _ _ n9_4.symm]; exact b4,by rw [ag _ _ n9_5.symm,ag _ _ n9_5.symm]; exact b5,by rw [ag _ _ n9_6.symm,ag _ _ n9_6.symm]; exact b6,by rw [ag _ _ n9_8.symm,ag _ _ n9_8.symm]; exact b8,ah ..⟩<;>simp -implicitDefEqProofs only [go_sem,r2,r3,r4,r5,r6,r8,r9,r10,r11,r13]
    ·simp -implicitDefEqProofs only [go_sem,r3,r9,d9,d3,d7,n9_3.symm]
     refine ⟨?_, ?_, ?_, ?_, ?_, ?_, ?_, ?_, ?_, ?_,upd H' i9 _,j,hS4.put n10_9.symm b9n _,sGB.put q9 _,(fun _=>hjx rfl),by rw [ag _ _ n9_2.symm]; exact b2,by rw [ag _ _ n9_3.symm]; exact b3,by rw [ag _ _ n9_4.symm]; exact b4,by rw [ag _ _ n9_5.symm]; exact b5,by rw [ag _ _ n9_6.symm]; exact b6,by rw [ag _ _ n9_8.symm]; exact b8,ah ..⟩<;>simp -implicitDefEqProofs only [go_sem,r2,r3,r4,r5,r6,r8,r9,r10,r11,r13]
 clear hS b2 b3 b4 b5 b6 b8 b9 b10 r2 r3 r4 r5 r6 r8 r9 r10 r11 r13
 rintro ρ H3 ⟨r2,r3,r4,r5,r6,r8,r9,r10,r11,r13,GB,j,hS,sG2,hjx,b2,b3,b4,b5,b6,b8,b9⟩
 have hO2:cX (k+1) (if dn=true then cE aM s1 o else s1):=by
  split
  ·exact nF o hO1
  ·exact {hO1 with ver:=⟨hO1.ver.1,by have:=hO1.ver.2; omega⟩}
 obtain ⟨s2,es2⟩:∃s2,(if dn=true then cE aM s1 o else s1)=s2:=⟨_,rfl⟩
 rw [es2] at hS hjx hbd hO2;have hdu:=Cm hS o ho.1 ob (by omega) dn (by have:=hO2.ncases; omega) ⟨fun c hc=>by have:=(hO2.case c hc).log2; omega,hO2.nrev,hO2.nnot⟩ hjx
 rw [←hbd] at hdu;simp only [opA,opC,aA] at hdu;have c3:=hS.at n10_3.symm b3;have c8:=hS.at n10_8.symm b8;refine .one hU hm ?_;simp -implicitDefEqProofs only [go_sem,r3,r8,r10,r11,c3,c8];refine hdu.mono fun r H4 h4=> ?_
 simp -implicitDefEqProofs only [go_sem];clear c3 c8 hdu hS;have hat:(hD s o).2=0:=by
  unfold hD at ee⊢;split
  ·rename_i hc; rw [if_pos hc] at ee; exact FC ee
  ·rfl
 have hbl:(cr s o).cases.length≤1000000:=by
  rw [hbd,vi];have:=hO2.ncases;omega
 obtain ⟨x1,x2,x3,x4,k10,hOP,_,_⟩:=id h4;have hov:=HW hOP.rd hbl;obtain ⟨did,dset,dalg,dtgt,drules,dkids,dobls,hpd⟩:=Ii (cr s o).policy;have hfz:∀H5,(∀q,GB q=none→H5 q=H4 q)→Frz g H5 (.agg (stC (cr s o) x1 x2 x3 x4)) (cP (cr s o)):=fun H5 hq=>((hOP.keep fun q hg _=>hq q hg).bI fun q hg=>by
  cases hh:g q with
  |none=>rfl
  |some b=>rw [sG2 _ _ hh] at hg; cases hg).frz
 rw [pz hpd] at k10 hov hfz;have c2:=h4.at n10_2.symm b2;have c3:=h4.at n10_3.symm b3;have c4:=h4.at n10_4.symm b4;have c5:=h4.at n10_5.symm b5;have c6:=h4.at n10_6.symm b6;have c8:=h4.at n10_8.symm b8;have c9:=h4.at n10_9.symm b9;have sg4:Ab.Sub g H4:=h4.sub sG2 q10;refine .one hU hm ?_;simp -implicitDefEqProofs only [go_sem,r10,k10];refine hov.pthen ?_;cases dov:lS (cr s o)
 case true=>
  simp -implicitDefEqProofs only [go_sem,r2,r4,r5,r6,r13];exact ⟨0,6,0,sg4,c2,c4,c5,c6,rfl,by rw [hat],by unfold bw; rw [if_neg (by rw [ee]; simp),if_pos dov]⟩
 have hgd:bw s o=(cr s o,⟨if dn=true then 0 else 12,m,gl,if (dn && o.kind==2 && !jg ob o.field)=true then eD (bn s.cases o.case).fields o.field else ay,dn && o.kind==2 && jg ob o.field,0⟩,⟨o,s.version,m,gl,ob⟩,0):=by
  unfold bw;rw [if_neg (by rw [ee]; simp),if_neg (by rw [dov]; decide),hre,hmk,hgl]
 simp -implicitDefEqProofs only [go_sem];have p2:=(bz (H:=H4) (l:= [i2,i3,i8,i9,i10]) (show i2∈ [i2,i3,i8,i9,i10] by simp)).trans c2
 have p3:=(bz (H:=H4) (l:= [i2,i3,i8,i9,i10]) (show i3∈ [i2,i3,i8,i9,i10] by simp)).trans c3
 have p8:=(bz (H:=H4) (l:= [i2,i3,i8,i9,i10]) (show i8∈ [i2,i3,i8,i9,i10] by simp)).trans c8
 have p9:=(bz (H:=H4) (l:= [i2,i3,i8,i9,i10]) (show i9∈ [i2,i3,i8,i9,i10] by simp)).trans c9
 have p10:=(bz (H:=H4) (l:= [i2,i3,i8,i9,i10]) (show i10∈ [i2,i3,i8,i9,i10] by simp)).trans k10
 have t4:pick H4 [i2,i3,i8,i9,i10] i4=none:=by simp [pick,n4_2,n4_3,n8_4.symm,n9_4.symm,n10_4.symm]
 have t5:pick H4 [i2,i3,i8,i9,i10] i5=none:=by simp [pick,n5_2,n5_3,n8_5.symm,n9_5.symm,n10_5.symm]
 have t6:pick H4 [i2,i3,i8,i9,i10] i6=none:=by simp [pick,n6_2,n6_3,n8_6.symm,n9_6.symm,n10_6.symm]
 refine .one hU hm ?_;simp -implicitDefEqProofs only [go_sem];refine .calls (pick H4 [i2,i3,i8,i9,i10]) [0,1,2,3,4,5,6,7,8,9,10,11,12,13,14,15] bt (by kernel_rfl) rfl ?_
 simp -implicitDefEqProofs only [go_sem,r2,r3,r4,r5,r6,r8,r9,r10,p2,p3,p8,p9,p10,c4,c5,c6,n5_4,n5_4.symm,n6_4,n6_4.symm,n6_5,n6_5.symm];refine ⟨bt.put t4 _,(bt.put t4 _).put t5 _,((bt.put t4 _).put t5 _).put t6 _, ?_⟩;refine .mk _ (.refl _) (.refl _) ⟨((sg4.put q4 _).put q5 _).put q6 _,_, ?_,rfl⟩;rw [hgd,←pz hpd];exact xY (S:=cr s o) ⟨if dn=true then 0 else 12,m,gl,if (dn && o.kind==2 && !jg ob o.field)=true then eD (bn s.cases o.case).fields o.field else ay,dn && o.kind==2 && jg ob o.field,0⟩ ⟨o,s.version,m,gl,ob⟩ 0 (by
  rw [pz hpd];exact hfz _ fun q hq=>by
   have x6:q≠i6:=fun e=>by rw [e,b6] at hq; cases hq
   have x5:q≠i5:=fun e=>by rw [e,b5] at hq; cases hq
   have x4:q≠i4:=fun e=>by rw [e,b4] at hq; cases hq
   rw [ag _ _ x6,ag _ _ x5,ag _ _ x4]) .no
theorem Iz:kX 1 qk:=by have h:=di qw qx; rw [K1] at h; exact h
theorem C9:kX 2 j6:=by have h:=di Cl Iz; rw [K6] at h; exact h
theorem MD:kX 3 qn:=by have h:=di A9 C9; rw [K7] at h; exact h
set_option maxRecDepth 100000 in
theorem zq (h:Heap) (he:qs h):ak Tryz.prog 16 [] h fun r h' =>r= .v (.bool true)∧h' =h:=by
 have hh1:=fun (G:Heap) (hG:Ab.Sub h G)=>jC qH qx (by decide) qw ⟨⟨by decide,by decide⟩,⟨by decide,by decide⟩,⟨by decide,by decide⟩,⟨by decide,by decide⟩⟩ G (he.sub hG)
 have hh2:=fun (G:Heap) (hG:Ab.Sub h G)=>jC qk Iz (by decide) Cl ⟨⟨by decide,by decide⟩,⟨by decide,by decide⟩,⟨by decide,by decide⟩,⟨by decide,by decide⟩⟩ G (he.sub hG)
 have hh3:=fun (G:Heap) (hG:Ab.Sub h G)=>jC j6 C9 (by decide) Fv ⟨⟨by decide,by decide⟩,⟨by decide,by decide⟩,⟨by decide,by decide⟩,⟨by decide,by decide⟩⟩ G (he.sub hG)
 have hh4:=fun (G:Heap) (hG:Ab.Sub h G)=>jC j6 C9 (by decide) A9 ⟨⟨by decide,by decide⟩,⟨by decide,by decide⟩,⟨by decide,by decide⟩,⟨by decide,by decide⟩⟩ G (he.sub hG)
 have e1:fY (bw qH qw)= .tup [cP qk, .agg [.v (.int .i64 0), .v (.complex .f64 4607182418800017408 0), .v (.bool false), .v (.int .i64 0), .v (.int .i64 0), .s [], .v (.bool false), .v (.int .i64 0)], .agg (zk ⟨qw,0,aN,false,[]⟩), .v (.int .i64 0)]:=by rw [K1]; rfl
 have e2:fY (bw qk Cl)= .tup [cP j6, .agg [.v (.int .i64 0), .v (.complex .f64 4607182418800017408 0), .v (.bool false), .v (.int .i64 0), .v (.int .i64 0), .s [], .v (.bool false), .v (.int .i64 0)], .agg (zk ⟨Cl,0,aN,false,[]⟩), .v (.int .i64 0)]:=by rw [K6]; rfl
 have e3:fY (bw j6 Fv)= .tup [cP j6, .agg [.v (.int .i64 12), .v (.complex .f64 0 4607182418800017408), .v (.bool false), .v (.int .i64 0), .v (.int .i64 0), .s [], .v (.bool false), .v (.int .i64 0)], .agg (zk ⟨Fv,1,bR,false,[]⟩), .v (.int .i64 0)]:=by rw [Pj]; rfl
 have e4:fY (bw j6 A9)= .tup [cP qn, .agg [.v (.int .i64 0), .v (.complex .f64 0 4607182418800017408), .v (.bool true), .v (.int .i64 0), .v (.int .i64 0), .s [], .v (.bool false), .v (.int .i64 0)], .agg (zk ⟨A9,1,bR,true,[]⟩), .v (.int .i64 0)]:=by rw [K7]; rfl
 rw [e1] at hh1;rw [e2] at hh2;rw [e3] at hh3;rw [e4] at hh4;simp only [zk,opC,aR,aA,List.map_nil,List.cons_append,List.nil_append] at hh1 hh2 hh3 hh4;have es1:cP qk= .agg [.v (.int .i64 0), .sl [] .no, .sl [] .no, .sl [] .no,dH qk.roles, .s gp, .v (.bool false), .v (.int .i64 6), .sl [] .no, .sl [] .no, .sl [] .no, .sl [] .no, .v (.int .i64 0)]:=rfl;have es2:cP j6= .agg [.v (.int .i64 0), .sl [] .no, .sl [] .no, .sl [] .no,dH j6.roles, .s [112], .v (.bool false), .v (.int .i64 5), .sl [] .no, .sl [] .no, .sl [] .no, .sl [] .no, .v (.int .i64 1)]:=rfl;have es3:cP qn= .agg [.v (.int .i64 0),iO qn.cases, .sl [fM wI] .no, .sl [] .no,dH qn.roles, .s [112], .v (.bool false), .v (.int .i64 5), .sl [] .no, .sl [] .no, .sl [] .no, .sl [] .no, .v (.int .i64 1)]:=rfl;have hc:=fun (G:Heap)=>qX (rdS G qn) cT MD.few
 rw [es3] at hc;refine ak.body hU hm Tryz.func16 rfl (by kernel_rfl) 100 rfl [.tmp 0] rfl (Vz rfl) (fun hwf=> ?_)
 simp only [go_sem];refine (HL _ he).pthen ?_;simp only [go_sem];refine (show ak Tryz.prog _ [cP qH,opA qw] _ _ from hh1 _ (.refl _)).pthen ?_
 rw [es1];simp only [go_sem];intro i1 h1;simp only [go_sem];intro i2 h2;have n21:=aE h2;simp only [go_sem];intro i3 h3;have n32:=aE h3;have n31:=aE (au h3);simp only [go_sem,aj,n21,n21.symm,n31,n31.symm,n32,n32.symm];refine inH fun H1 w1=> ?_
 have t2:=au h2;have t3:=au (au h3);have s1:Ab.Sub h H1:=by rw [w1]; exact (((((Ab.Sub.ai h1).put t2 _).put t3 _).put h1 _).put t2 _).put t3 _
 have g1:H1 i1=some (.obj [.v (.int .i64 0), .sl [] .no, .sl [] .no, .sl [] .no,dH qk.roles, .s gp, .v (.bool false), .v (.int .i64 6), .sl [] .no, .sl [] .no, .sl [] .no, .sl [] .no, .v (.int .i64 0)] 39):=by rw [w1,ag _ _ n31.symm,ag _ _ n21.symm,ah]
 clear w1;refine (show ak Tryz.prog _ [.agg [.v (.int .i64 0), .sl [] .no, .sl [] .no, .sl [] .no,dH qk.roles, .s gp, .v (.bool false), .v (.int .i64 6), .sl [] .no, .sl [] .no, .sl [] .no, .sl [] .no, .v (.int .i64 0)],opA Cl] _ _ from hh2 _ s1).pthen ?_
 rw [es2];simp only [go_sem];intro i5 h5;have n51:i5≠i1:=fun e=>by rw [e,g1] at h5; cases h5
 simp only [go_sem];intro i6 h6;have n65:=aE h6;have t6:=au h6;have n61:i6≠i1:=fun e=>by rw [e,g1] at t6; cases t6
 simp only [go_sem,g1,aj,n51,n51.symm,n61,n61.symm,n65,n65.symm];refine inH fun H2 w2=> ?_
 have s2:Ab.Sub h H2:=by rw [w2]; exact ((((s1.put (s1.none h5) _).put (s1.none t6) _).put h1 _).put (s1.none h5) _).put (s1.none t6) _
 have g2:H2 i1=some (.obj [.v (.int .i64 0), .sl [] .no, .sl [] .no, .sl [] .no,dH j6.roles, .s [112], .v (.bool false), .v (.int .i64 5), .sl [] .no, .sl [] .no, .sl [] .no, .sl [] .no, .v (.int .i64 1)] 39):=by rw [w2,ag _ _ n61.symm,ag _ _ n51.symm,ah]
 clear w2 g1 s1;refine (show ak Tryz.prog _ [.agg [.v (.int .i64 0), .sl [] .no, .sl [] .no, .sl [] .no,dH j6.roles, .s [112], .v (.bool false), .v (.int .i64 5), .sl [] .no, .sl [] .no, .sl [] .no, .sl [] .no, .v (.int .i64 1)],opA Fv] _ _ from hh3 _ s2).pthen ?_
 rw [es2];simp only [go_sem];intro i8 h8;have n81:i8≠i1:=fun e=>by rw [e,g2] at h8; cases h8
 simp only [go_sem];intro i9 h9;have n98:=aE h9;have t9:=au h9;have n91:i9≠i1:=fun e=>by rw [e,g2] at t9; cases t9
 simp only [go_sem];intro i10 h10;have na9:=aE h10;have na8:=aE (au h10);have t10:=au (au h10);have na1:i10≠i1:=fun e=>by rw [e,g2] at t10; cases t10
 simp only [go_sem,g2,aj,n81.symm,n91.symm,n98,n98.symm,na1.symm,na8,na8.symm,na9,na9.symm];refine inH fun H3 w3=> ?_
 have s3:Ab.Sub h H3:=by rw [w3]; exact (((((s2.put (s2.none h8) _).put (s2.none t9) _).put (s2.none t10) _).put (s2.none h8) _).put (s2.none t9) _).put (s2.none t10) _
 have g3:H3 i1=some (.obj [.v (.int .i64 0), .sl [] .no, .sl [] .no, .sl [] .no,dH j6.roles, .s [112], .v (.bool false), .v (.int .i64 5), .sl [] .no, .sl [] .no, .sl [] .no, .sl [] .no, .v (.int .i64 1)] 39):=by rw [w3,ag _ _ na1.symm,ag _ _ n91.symm,ag _ _ n81.symm,ag _ _ na1.symm,ag _ _ n91.symm,ag _ _ n81.symm,g2]
 have g3a:H3 i9=some (.obj [.v (.int .i64 12), .v (.complex .f64 0 4607182418800017408), .v (.bool false), .v (.int .i64 0), .v (.int .i64 0), .s [], .v (.bool false), .v (.int .i64 0)] 46):=by rw [w3,ag _ _ na9.symm,ah]
 clear w3 g2 s2;refine (show ak Tryz.prog _ [.agg [.v (.int .i64 0), .sl [] .no, .sl [] .no, .sl [] .no,dH j6.roles, .s [112], .v (.bool false), .v (.int .i64 5), .sl [] .no, .sl [] .no, .sl [] .no, .sl [] .no, .v (.int .i64 1)],opA A9] _ _ from hh4 _ s3).pthen ?_
 rw [es3];simp only [go_sem];intro ic hc1;have nc1:ic≠i1:=fun e=>by rw [e,g3] at hc1; cases hc1
 have nc9:ic≠i9:=fun e=>by rw [e,g3a] at hc1; cases hc1
 simp only [go_sem];intro id hd1;have ndc:=aE hd1;have td:=au hd1;have nd1:id≠i1:=fun e=>by rw [e,g3] at td; cases td
 have nd9:id≠i9:=fun e=>by rw [e,g3a] at td; cases td
 simp only [go_sem];intro ie he1;have ned:=aE he1;have nec:=aE (au he1);have te:=au (au he1);have ne1:ie≠i1:=fun e=>by rw [e,g3] at te; cases te
 have ne9:ie≠i9:=fun e=>by rw [e,g3a] at te; cases te
 simp only [go_sem,aj,ndc,ndc.symm,ned,ned.symm,nec,nec.symm];refine inH fun H4 w4=> ?_
 have s4:Ab.Sub h H4:=by rw [w4]; exact (((((s3.put (s3.none hc1) _).put (s3.none td) _).put (s3.none te) _).put (s3.none hc1) _).put (s3.none td) _).put (s3.none te) _
 have g4a:H4 i9=some (.obj [.v (.int .i64 12), .v (.complex .f64 0 4607182418800017408), .v (.bool false), .v (.int .i64 0), .v (.int .i64 0), .s [], .v (.bool false), .v (.int .i64 0)] 46):=by rw [w4,ag _ _ ne9.symm,ag _ _ nd9.symm,ag _ _ nc9.symm,ag _ _ ne9.symm,ag _ _ nd9.symm,ag _ _ nc9.symm,g3a]
 have g4t:H4 ic=some (.obj [.v (.int .i64 0),iO qn.cases, .sl [fM wI] .no, .sl [] .no,dH qn.roles, .s [112], .v (.bool false), .v (.int .i64 5), .sl [] .no, .sl [] .no, .sl [] .no, .sl [] .no, .v (.int .i64 1)] 39):=by rw [w4,ag _ _ nec.symm,ag _ _ ndc.symm,ah]
 have g4b:H4 id=some (.obj [.v (.int .i64 0), .v (.complex .f64 0 4607182418800017408), .v (.bool true), .v (.int .i64 0), .v (.int .i64 0), .s [], .v (.bool false), .v (.int .i64 0)] 46):=by rw [w4,ag _ _ ned.symm,ah]
 have g4d:H4 ie=some (.obj (zk ⟨A9,1,bR,true,[]⟩) 48):=by rw [w4,ah]; rfl
 clear w4 g3 g3a s3;refine (hc _).pthen ?_;rw [show bH qn.cases cT=true from by kernel_rfl]
 simp only [go_sem,bP,kC,fO,oU];intro ik hk1;have nki:∀ {i:Nat} {b:Blk},H4 i=some b→i≠ik:=fun hh e=>by rw [←e,hh] at hk1; cases hk1
 have qd:eqC (.v (.complex .f64 0 4607182418800017408)) (.v (.complex .f64 0 4607182418800017408))=true:=rfl;have qr:fM wI= .agg [.v (.int .i64 1), .v (.int .i64 0), .s [97,110,110], .s [99], .s [110,101,119], .s [102,105,114,101], .v (.bool true)]:=rfl;simp only [zk,opC,aR,aA,List.cons_append,List.nil_append] at g4d;have ix:=fun (K:AV→Prop)=>fc.eq (xs:= [fM wI]) (sz:=7) 0 (by decide) rfl K
 simp only [qr,Int.natCast_zero,List.getElem_cons_zero] at ix;simp only [go_sem,aj,nki g4a,nki g4t,nki g4b,nki g4d,g4a,g4t,g4b,g4d,qd,qr,ix];exact .mk _ (.refl _) (s4.trans (.ai hk1)) ⟨rfl,rfl⟩
theorem mB (s:an) (r:nY) (d:Ep) (e:Int):fY (s,r,d,e)= .tup [cP s, .agg [.v (.int .i64 r.err), .v (.complex .f64 (hbit r.mark.1) (hbit r.mark.2)), .v (.bool r.glass), .v (.int .i64 r.val.kind), .v (.int .i64 r.val.n), .s r.val.s, .v (.bool r.hidden), .v (.int .i64 r.at_)], .agg [.v (.int .i64 d.op.kind), .s d.op.subj, .s d.op.case, .s d.op.field, .s d.op.to, .v (.int .i64 d.op.val.kind), .v (.int .i64 d.op.val.n), .s d.op.val.s, .v (.int .i64 d.op.review), .s d.op.text, .s d.op.reason, .v (.bool d.op.glass), .v (.int .i64 d.version), .v (.complex .f64 (hbit d.mark.1) (hbit d.mark.2)), .v (.bool d.glass), .sl (d.obls.map bp) .no], .v (.int .i64 e)]:=rfl
theorem O2 {P:Program} {U:TypeId→TI} {n:Nat} {c:Code} {K:Exit→Env→Heap→Prop} {ρ:Env} {h:Heap} (hh:∀H2,H2=h→qR P U n c ρ H2 K):qR P U n c ρ h K:=hh h rfl
end Go.Proofs.YtnlbeamjpefpfaaGreatDoor
namespace Go.Bf
open Go Go.Ab Go.Proofs.YtnlbeamjpefpfaaGreatDoor
def fN (l:List OpD):an:=l.foldl (fun s o=>(bw s o).1) qH
theorem zg (l:List OpD) (o:OpD):fN (l++ [o])=(bw (fN l) o).1:=by simp [fN]
theorem AE:∀(l:List OpD) (k:Nat) (s:an),kX k s→kX (k+l.length) (l.foldl (fun s o=>(bw s o).1) s)
 | [],k,s,h=>h
 |o::l,k,s,h=>by
  have:=AE l (k+1) _ (di o h);simpa [Nat.add_assoc,Nat.add_comm 1] using this
theorem vb (l:List OpD):kX l.length (fN l):=by simpa [fN] using AE l 0 qH qx
end Go.Bf
namespace Go.Proofs.YtnlbeamjpefpfaaGreatDoor
open Go Go.Ab Go.Bf
theorem Gp (l0:List OpD) (h640:∀o∈l0,B2 o) (n:Nat) (hn:n≤100) (h:Heap) (he:qs h):ak Tryz.prog 11 [.sl (l0.map opA) .no, .v (.int .i64 n)] h fun r h' =>r=cP (fN (mJ l0 n))∧h' =h:=by
 have hop:=fun (G:Heap)=>Mv l0 n (by omega) G
 have h64:∀o∈mJ l0 n,B2 o:=Pc h640;have hll:(mJ l0 n).length≤n:=by simp [mJ]; omega
 obtain ⟨l,el⟩:∃l,mJ l0 n=l:=⟨_,rfl⟩;rw [el] at hop h64 hll;rw [el];refine ak.body hU hm Tryz.func11 rfl (by kernel_rfl) 27 rfl [.cell 4 39] rfl (Vz rfl) (fun hwf=> ?_)
 simp -implicitDefEqProofs only [go_sem];intro i4 h4;simp -implicitDefEqProofs only [go_sem];refine (HL _ (he.sub (.ai h4))).pthen ?_;rw [gv qH];simp -implicitDefEqProofs only [go_sem,show sL qH= [.v (.int .i64 0), .sl [] .no, .sl [] .no, .sl [] .no, .sl [] .no, .s [111,112,101,110], .v (.bool false), .v (.int .i64 6), .sl [] .no, .sl [] .no, .sl [] .no, .sl [] .no, .v (.int .i64 0)] from rfl]
 intro i5 h5;have n54:=aE h5;have k5:=au h5;simp -implicitDefEqProofs only [go_sem];refine (hop _).pthen ?_;simp -implicitDefEqProofs only [go_sem,VA];refine .intro (fun m ρ H=>∃(i:Nat),H i5=some (.obj (sL (fN (l.take i))) 39)∧(∃b,H i4=some (.obj b 39)∧b.length=13)∧Ab.Sub h H∧i≤l.length∧m=l.length - i∧lk ρ 4=some (.ptr i4 0)∧lk ρ 5=some (.ptr i5 0)∧lk ρ 11=some (.sl (l.map opA) .no)∧lk ρ 12=some (.v (.int .i64 l.length))∧lk ρ 13=some (.v (.int .i64 i))) l.length ?_ ?_
 ·refine ⟨0,by rw [ah]; rfl,⟨_,by rw [ag _ _ n54.symm,ah],rfl⟩,(Ab.Sub.ai h4).put k5 _,by omega,rfl, ?_, ?_, ?_, ?_, ?_⟩
  all_goals simp -implicitDefEqProofs only [go_sem]
 ·rintro m ρ H ⟨i,g5,⟨b4,g4,hb4⟩,hs,hi,rfl,r4,r5,r11,r12,r13⟩
  have w1:=VG i (by omega)
  cases e1:decide ((i:Int)<(l.length:Int))
  ·have:l.take i=l:=List.take_of_length_le (by have:=VD e1; omega)
   rw [this] at g5;obtain ⟨s,es⟩:∃s,fN l=s:=⟨_,rfl⟩;rw [es] at g5⊢;have hsr:=gv s;obtain ⟨tick,cs,rv,nt,ro,⟨pid,pset,palg,ptgt,prules,pkids,pobls⟩,ver⟩:=s;simp only [sL] at g5 hsr;simp -implicitDefEqProofs only [go_sem,r4,r5,r12,r13,e1,g5,g4];refine ⟨by omega, .mk _ (.refl _) (hs.put h4 _) ⟨hsr.symm,rfl⟩⟩
  ·have hlt:i<l.length:=VH e1
   obtain ⟨p,ep⟩:∃p,l[i]=p:=⟨_,rfl⟩;have p64:=h64 p (by rw [←ep]; exact VF _)
   have ix:=fun k=>fc.eq (xs:=l.map opA) (sz:=12) i (by simpa using hlt) (by rw [VB]; rfl) k
   rw [VB,ep] at ix;have htk:l.take (i+1)=l.take i++ [p]:=by rw [List.take_succ_eq_append_getElem hlt,ep]
   have hG:=vb (l.take i);have hgd:=fun (G:Heap) (hG' :Ab.Sub h G)=>jC (fN (l.take i)) hG (by rw [List.length_take]; omega) p p64 G (he.sub hG')
   have hnx:(bw (fN (l.take i)) p).1=fN (l.take (i+1)):=by rw [htk,zg]
   obtain ⟨s,es⟩:∃s,fN (l.take i)=s:=⟨_,rfl⟩;obtain ⟨t,et⟩:∃t,fN (l.take (i+1))=t:=⟨_,rfl⟩;rw [es] at g5 hgd hnx;rw [et] at hnx;have eg:bw s p=(t,(bw s p).2.1,(bw s p).2.2.1,(bw s p).2.2.2):=by rw [←hnx]
   rw [eg,mB,gv,gv] at hgd;obtain ⟨tick,cs,rv,nt,ro,⟨pid,pset,palg,ptgt,prules,pkids,pobls⟩,ver⟩:=s;obtain ⟨tick',cs',rv',nt',ro',⟨pid',pset',palg',ptgt',prules',pkids',pobls'⟩,ver'⟩:=t;simp only [sL] at g5;simp only [sL,opA,opC] at hgd;simp only [opA,opC] at ix;simp -implicitDefEqProofs only [go_sem,r11,r12,r13,e1,ix];intro i7 h7;have n75:i7≠i5:=fun e=>by rw [e,g5] at h7; cases h7
   have n74:i7≠i4:=fun e=>by rw [e,g4] at h7; cases h7
   simp -implicitDefEqProofs only [go_sem,aj,n75.symm,r5,g5];refine (hgd _ (hs.trans (.ai h7))).pthen ?_;simp -implicitDefEqProofs only [go_sem,aj,n75.symm,r5,r13,g5,w1];refine ⟨_, ?_,i+1,by rw [ah,et]; rfl,⟨b4,by rw [ag _ _ n54.symm,ag _ _ n74.symm]; exact g4,hb4⟩,(hs.put (hs.none h7) _).put k5 _,by omega,rfl, ?_, ?_, ?_, ?_, ?_⟩
   ·omega
   all_goals simp -implicitDefEqProofs only [go_sem,r4,r5,r11,r12]
theorem Gq (l0:List OpD) (h640:∀o∈l0,B2 o) (n:Nat) (hn:n≤100) (p:Perm) (h:Heap) (he:qs h):ak Tryz.prog 11 [.sl (l0.map opA) p, .v (.int .i64 n)] h fun r h' =>r=cP (fN (mJ l0 n))∧h' =h:=
 (Gp l0 h640 n hn h he).weak rfl fun i h1 h2=>by
  rcases i with _|_|i
  ·exact .sl _ _
  ·exact .refl _
  ·simp at h1; omega
def roN:OpD:=⟨1,l9,cT,[],[],ay,0,[],[],false⟩
end Go.Proofs.YtnlbeamjpefpfaaGreatDoor
