/- The law EngineFull: pack 6 of its texts. -/
import Derived.Test.YtcochaoekecfdaaGreatDoorPk1
import Derived.Test.YtcochaoekecfdaaGreatDoorPk2
import Derived.Test.YtcochaoekecfdaaGreatDoorPk3
import Derived.Test.YtcochaoekecfdaaGreatDoorPk4
import Derived.Test.YtcochaoekecfdaaGreatDoorPk5
set_option linter.unusedSimpArgs false
set_option linter.unusedVariables false
set_option maxRecDepth 100000
namespace Go.Bf
open Go Go.Ab Go.Proofs.YtcochaoekecfdaaGreatDoor
def jM(l:List aT)(p:Perm):AV:=.sl (l.map aQ) p
theorem M9.na:M9 naM:=acr
theorem B1(l:List aT)(i:Nat)(h:i<l.length):(l.take (i+1)).foldl nU naM=nU ((l.take i).foldl nU naM) l[i]:=by
 grind [List.take_succ_eq_append_getElem]
theorem ID{l:List aT}{q:aT→Bool}(hq:∀m,q m=decide (m≠naM))(h:l.findIdx q<l.length):firstM l=l[l.findIdx q]:=by
 unfold firstM;have e:q=fun m=>decide (m≠naM):=funext hq
 subst e;rw[show l.find? (fun m=>decide (m≠naM))=some l[l.findIdx fun m=>decide (m≠naM)]from List.find?_eq_some_iff_getElem.2 ⟨List.findIdx_getElem (w:=h),_,h,rfl,fun j hj=>acp⟩]
 rfl
theorem IE{l:List aT}{q:aT→Bool}(hq:∀m,q m=decide (m≠naM))(h:¬l.findIdx q<l.length):firstM l=naM:=by
 unfold firstM;rw[List.find?_eq_none.2 fun x hx=>acp]
 rfl
def wD(j m:aT):aT:=if j=naM then m else if m≠naM then oQ else j
theorem LO{l:List aT}{i:Nat}(h:i<l.length)(j:aT):nZ (l.drop i) j=if zo l[i]=false then oQ else nZ (l.drop (i+1)) (wD j l[i]):=by
 rw[List.drop_eq_getElem_cons h];rfl
end Go.Bf
namespace Go.Proofs.YtcochaoekecfdaaGreatDoor
open Go Go.Ab Go.Bf
theorem UL:(U 34).sz=1:=acF
theorem I8(ms:List aT)(hl:ms.length≤1000000000)(q:aT→Bool)(g:FuncId)(cap:List AV)(p:Perm)(h:Heap)(hp:∀m∈ms,ai Tryz.prog g (aQ m::cap) h fun r h' =>r= .b (q m)∧h' =h):
  ai Tryz.prog 305 [jM ms p,.fn g cap] h fun r h' =>r= .i (ixD q ms)∧h' =h:=by
 refine acn Tryz.func305 19 [.tmp 4] fun hwf=>?_
 simp only[go_sem,jM,acd];refine .intro (fun m ρ h' =>h' =h∧∃i:Nat,i≤ms.length∧m=ms.length - i∧(∀j (hj:j<i) (h2:j<ms.length),q ms[j]=false)∧lk ρ 0=some (.sl (ms.map aQ) p)∧lk ρ 1=some (.fn g cap)∧lk ρ 7=some (.i ms.length)∧lk ρ 8=some (.i i)) ms.length ?_ ?_
 ·refine⟨rfl,0,aco,rfl,fun j hj=>aco,?_,?_,?_,?_⟩<;>simp only[go_sem]
 ·rintro m ρ h' ⟨rfl,i,hi,rfl,hc,r0,r1,r7,r8⟩
  simp only[go_sem,r7,r8];refine .intro (fun e=>?_) (fun e=>?_)
  ·have hlt:i<ms.length:=ack e
   have w1:IntKind.i64.wrap ((i:Int)+1)=((i+1:Nat):Int):=acE;have ix:=fun k=>fc.eq (xs:=ms.map aQ) (sz:=1) i acp acz k
   rw[ace]at ix;have hg:=hp ms[i] (aci hlt);have hci:=fun(d:q ms[i]=false)=>(fun j (hj:j<i+1) (h2:j<ms.length)=>(by
    grind:q ms[j]=false))
   have hat:=fun(d:q ms[i]=true)=>nI hlt d fun j hj=>hc j hj aco
   obtain⟨m,em⟩:∃m,ms[i]=m:=⟨_,rfl⟩;rw[em]at ix hg hci hat;simp only[aQ]at ix;simp only[go_sem,r0,r1,r8,ix];refine(show ai Tryz.prog g (.v (.complex .f64 (hbit m.1) (hbit m.2))::cap) _ _ from hg).pthen ?_
   cases d1:q m
   ·simp only[go_sem,r8,w1]
    refine⟨_,?_,rfl,i+1,aco,rfl,hci d1,?_,?_,?_,?_⟩
    ·omega
    all_goals simp only[go_sem,r0,r1,r7]
   ·simp only[go_sem]
    exact .same (.refl _) ⟨agp,rfl⟩
  ·have hge:i=ms.length:=by grind
   simp only[go_sem];exact .same (.refl _) ⟨acT,rfl⟩
theorem FG(ms:List aT)(hl:ms.length≤1000000000)(hmm:∀m∈ms,M9 m)(x:aT)(hx:M9 x)(p:Perm)(h:Heap):
  ai Tryz.prog 320 [jM ms p,aQ x] h fun r h' =>r= .i (ixD (fun y=>x==y) ms)∧h' =h:=by
 refine acn Tryz.func320 19 [.tmp 4] fun hwf=>?_
 simp only[go_sem,jM,acd];refine .intro (fun m ρ h' =>h' =h∧∃i:Nat,i≤ms.length∧m=ms.length - i∧(∀j (hj:j<i) (h2:j<ms.length),(x==ms[j])=false)∧lk ρ 0=some (.sl (ms.map aQ) p)∧lk ρ 1=some (aQ x)∧lk ρ 7=some (.i ms.length)∧lk ρ 8=some (.i i)) ms.length ?_ ?_
 ·refine⟨rfl,0,aco,rfl,fun j hj=>aco,?_,?_,?_,?_⟩<;>simp only[go_sem]
 ·rintro m ρ h' ⟨rfl,i,hi,rfl,hc,r0,r1,r7,r8⟩
  simp only[go_sem,r7,r8];refine .intro (fun e=>?_) (fun e=>?_)
  ·have hlt:i<ms.length:=ack e
   have w1:IntKind.i64.wrap ((i:Int)+1)=((i+1:Nat):Int):=acE;have ix:=fun k=>fc.eq (xs:=ms.map aQ) (sz:=1) i acp acz k
   rw[ace]at ix;have hm9:=hmm ms[i] (aci hlt);have hci:=fun(d:(x==ms[i])=false)=>(fun j (hj:j<i+1) (h2:j<ms.length)=>(by
    grind:(x==ms[j])=false))
   have hat:=fun(d:(x==ms[i])=true)=>nI (q:=fun y=>x==y) hlt d fun j hj=>hc j hj aco
   obtain⟨m,em⟩:∃m,ms[i]=m:=⟨_,rfl⟩;rw[em]at ix hm9 hci hat;simp only[aQ]at ix r1;have ne:=yJ hx hm9;cases d1:(x==m)
   ·simp only[go_sem,r0,r1,r8,ix,ne,d1,w1]
    refine⟨_,?_,rfl,i+1,aco,rfl,hci d1,?_,?_,?_,?_⟩
    ·omega
    all_goals simp only[go_sem,r0,r1,r7,aQ]
   ·simp only[go_sem,r0,r1,r8,ix,ne,d1]
    exact .same (.refl _) ⟨agp,rfl⟩
  ·have hge:i=ms.length:=by grind
   simp only[go_sem];exact .same (.refl _) ⟨acT,rfl⟩
theorem Fz(ms:List aT)(hl:ms.length≤1000000000)(hmm:∀m∈ms,M9 m)(x:aT)(hx:M9 x)(p:Perm)(h:Heap):
  ai Tryz.prog 309 [jM ms p,aQ x] h fun r h' =>r= .b (decide (x∈ms))∧h' =h:=by
 refine acn Tryz.func309 9 [.tmp 4] fun hwf=>?_
 simp only[go_sem];refine(FG ms hl hmm x hx p _).pthen ?_;simp only[go_sem];exact .same (.refl _) ⟨by rw[uA,show(ms.any fun y=>x==y)=decide (x∈ms) by grind];rfl,rfl⟩
theorem ES(m:aT)(hmm:M9 m)(h:Heap):ai Tryz.prog 306 [aQ m] h fun r h' =>r= .b (!(m==naM))∧h' =h:=by
 have n:=(nb hmm).nna;refine acn Tryz.func306 5 [.tmp 2] fun hwf=>?_
 simp only[go_sem,aQ,n];exact acD
theorem Ox(m:aT)(hmm:M9 m)(h:Heap):ai Tryz.prog 307 [aQ m] h fun r h' =>r= .b (zo m)∧h' =h:=by
 obtain⟨n1,n2,n3,_⟩:=nb hmm;refine acn Tryz.func307 13 [.tmp 2] fun hwf=>?_
 have es:zo m=(m==naM||(m==bl||m==cI)):=by
  unfold zo
  grind
 rw[es];cases d1:(m==naM)<;>cases d2:(m==bl)<;>cases d3:(m==cI)
 all_goals
  simp only[go_sem,aQ,n1,n2,n3,d1,d2,d3];exact acD
theorem KZ(ms:List aT)(hl:ms.length≤1000000000)(hmm:∀m∈ms,M9 m)(p:Perm)(h:Heap):ai Tryz.prog 279 [jM ms p] h fun r h' =>r=aQ (firstM ms)∧h' =h:=by
 refine acn Tryz.func279 12 [.tmp 2] fun hwf=>?_
 simp only[go_sem,jM];refine(I8 ms hl (fun m=> !(m==naM)) _ [] p _ fun m h=>ES m (hmm m h) _).pthen ?_
 have hq:∀m:aT,(!(m==naM))=decide (m≠naM):=fun m=>acp
 by_cases hx:ms.findIdx (fun m=> !(m==naM))<ms.length
 ·obtain⟨i,ei⟩:∃i,ms.findIdx (fun m=> !(m==naM))=i:=⟨_,rfl⟩
  have ef:=ID hq hx;have e1:ixD (fun m=> !(m==naM)) ms=(i:Nat):=by rw[ixD,ei];omega
  simp only[ei]at ef;have d1:decide ((0:Int)≤((i:Nat):Int))=true:=decide_eq_true aco;have ix:=fun k=>fc.eq (xs:=ms.map aQ) (sz:=1) i acp acz k
  rw[ace,←ef]at ix;rw[e1];simp only[go_sem,d1,ix];exact acD
 ·have e1:ixD (fun m=> !(m==naM)) ms= -1:=by simp_all [ixD,if_neg]
  have d1:decide ((0:Int)≤ -1)=false:=rfl;rw[e1];simp only[go_sem,d1];exact .same (.refl _) ⟨by rw[IE hq hx];rfl,rfl⟩
theorem Mp(j m:aT)(hj:M9 j)(hmm:M9 m)(h:Heap):ai Tryz.prog 308 [.i 4,aQ j,aQ m] h fun r h' =>r=aQ (wD j m)∧h' =h:=by
 have n1:=(nb hj).na;have n2:=(nb hmm).nna;refine acn Tryz.func308 31 [.tmp 6] fun hwf=>?_
 cases d1:(j==naM)
 case true=>
  simp only[go_sem,aQ,n1,d1];exact .same (.refl _) ⟨by rw[wD,if_pos acp];rfl,rfl⟩
 cases d2:(m==naM)
 ·simp only[go_sem,aQ,n1,n2,d1,d2]
  exact .same (.refl _) ⟨by rw[wD,if_neg acp,if_pos acp];rfl,rfl⟩
 ·simp only[go_sem,aQ,n1,n2,d1,d2]
  exact .same (.refl _) ⟨by rw[wD,if_neg acp,if_neg acp];rfl,rfl⟩
theorem M9.step{j m:aT}(hj:M9 j)(hmm:M9 m):M9 (wD j m):=by
 unfold wD
 repeat' split
 ·omega
 ·decide
 omega
theorem N9(ms:List aT)(hl:ms.length≤1000000000)(hmm:∀m∈ms,M9 m)(p:Perm)(h:Heap):ai Tryz.prog 280 [jM ms p] h fun r h' =>r=aQ (nZ ms naM)∧h' =h:=by
 refine acn Tryz.func280 20 [.tmp 2] fun hwf=>?_
 simp only[go_sem,jM,acd];refine .intro (fun m ρ h' =>h' =h∧∃(i:Nat) (j:aT),i≤ms.length∧m=ms.length - i∧M9 j∧nZ (ms.drop i) j=nZ ms naM∧lk ρ 3=some (aQ j)∧lk ρ 6=some (.sl (ms.map aQ) p)∧lk ρ 7=some (.i ms.length)∧lk ρ 8=some (.i i)) ms.length ?_ ?_
 ·refine⟨rfl,0,naM,aco,rfl,.na,rfl,?_,?_,?_,?_⟩<;>simp only[go_sem,aQ,naM,hbit]
 ·rintro m ρ h' ⟨rfl,i,j,hi,rfl,hj,ho,r3,r6,r7,r8⟩
  simp only[go_sem,r7,r8];refine .intro (fun e=>?_) (fun e=>?_)
  ·have hlt:i<ms.length:=ack e
   have w1:IntKind.i64.wrap ((i:Int)+1)=((i+1:Nat):Int):=acE;have ix:=fun k=>fc.eq (xs:=ms.map aQ) (sz:=1) i acp acz k
   rw[ace]at ix;have hm9:=hmm ms[i] (aci hlt);rw[LO hlt]at ho;obtain⟨m,em⟩:∃m,ms[i]=m:=⟨_,rfl⟩;rw[em]at ix hm9 ho;have hsu:=fun G=>Ox m hm9 G
   have hst:=fun G=>Mp j m hj hm9 G
   simp only[aQ]at ix hsu hst r3;simp only[go_sem,r6,r8,ix];refine(hsu _).pthen ?_;cases d1:zo m
   ·rw[if_pos d1]at ho
    simp only[go_sem];exact .same (.refl _) ⟨by rw[←ho];rfl,rfl⟩
   ·rw[if_neg acp]at ho
    simp only[go_sem,r3];refine(hst _).pthen ?_;simp only[go_sem,r8,w1];refine⟨_,?_,rfl,i+1,wD j m,aco,rfl,M9.step hj hm9,ho,?_,?_,?_,?_⟩
    ·omega
    all_goals simp only[go_sem,r6,r7,aQ]
  ·have hge:i=ms.length:=by grind
   subst hge;rw[List.drop_length]at ho;simp only[go_sem,r3];exact .same (.refl _) ⟨by rw[←ho];rfl,rfl⟩
theorem Bm(ms:List aT)(hl:ms.length≤1000000000)(hmm:∀m∈ms,M9 m)(a b:aT)(hb:M9 b)(p:Perm)(h:Heap):ai Tryz.prog 281 [jM ms p,aQ a,aQ b] h fun r h' =>r=aQ (if b∈ms then b else a)∧h' =h:=by
 refine acn Tryz.func281 12 [.tmp 6] fun hwf=>?_
 simp only[go_sem];refine(Fz ms hl hmm b hb p _).pthen ?_
 by_cases d:b∈ms
 ·simp only[go_sem,decide_eq_true d,if_pos d]
  exact acD
 ·simp only[go_sem,decide_eq_false d,if_neg d]
  exact acD
theorem Qe(alg:Int)(ha:1≤alg∧alg≤6)(ms:List aT)(hl:ms.length≤1000000000)(hmm:∀m∈ms,M6 m)(p:Perm)(h:Heap):ai Tryz.prog 247 [.i alg,jM ms p] h fun r h' =>r= .tup [aQ (gS alg ms),.i 0]∧h' =h:=by
 have hm9:=fun m h=>(hmm m h).m9
 refine acn Tryz.func247 49 [.tmp 4,.tmp 5] fun hwf=>?_
 simp only[go_sem,jM,acd];refine .intro (fun m ρ h' =>h' =h∧∃i:Nat,i≤ms.length∧m=ms.length - i∧M9 ((ms.take i).foldl nU naM)∧lk ρ 0=some (.i alg)∧lk ρ 1=some (.sl (ms.map aQ) p)∧lk ρ 6=some (aQ ((ms.take i).foldl nU naM))∧lk ρ 9=some (.sl (ms.map aQ) p)∧lk ρ 10=some (.i ms.length)∧lk ρ 11=some (.i i)) ms.length ?_ ?_
 ·refine⟨rfl,0,aco,rfl,.na,?_,?_,?_,?_,?_,?_⟩<;>simp only[go_sem,aQ,naM,hbit,List.take_zero,List.foldl_nil]
 ·rintro m ρ h' ⟨rfl,i,hi,rfl,hj,r0,r1,r6,r9,r10,r11⟩
  obtain⟨j,ej⟩:∃j,(ms.take i).foldl nU naM=j:=⟨_,rfl⟩;rw[ej]at hj r6;simp only[go_sem,r10,r11];refine .intro (fun e=>?_) (fun e=>?_)
  ·have hlt:i<ms.length:=ack e
   have w1:IntKind.i64.wrap ((i:Int)+1)=((i+1:Nat):Int):=acE;have ix:=fun k=>fc.eq (xs:=ms.map aQ) (sz:=1) i acp acz k
   rw[ace]at ix;have hm6:=hmm ms[i] (aci hlt);have hsn:=B1 ms i hlt;rw[ej]at hsn;obtain⟨m,em⟩:∃m,ms[i]=m:=⟨_,rfl⟩;rw[em]at ix hm6 hsn;have hri:=fun G=>B4 m hm6 G
   have hjo:=fun G=>NP j m hj hm6.m9 G
   simp only[aQ]at ix hri hjo r6;simp only[go_sem,r9,r11,ix];refine(hri _).pthen ?_;simp only[go_sem,r6];refine(hjo _).pthen ?_;simp only[go_sem,r11,w1];refine⟨_,?_,rfl,i+1,aco,rfl,by grind [M9.join],?_,?_,?_,?_,?_,?_⟩
   ·omega
   all_goals simp only[go_sem,r0,r1,r9,r10,aQ,hsn]
  ·have hge:i=ms.length:=by grind
   subst hge;rw[List.take_length]at ej;have ej' :xe ms=j:=ej;have hov:=fun G=>Hx j hj G
   have htu:=fun(x:aT) (G:Heap)=>OA x G
   have hov2:=fun G=>Hx (Ey j) ⟨hj.2,hj.1⟩ G
   have h1:=KZ ms hl hm9 p;have h2:=N9 ms hl hm9 p;have h3:=Bm ms hl hm9 cI bl acr p;have h4:=Bm ms hl hm9 bl cI acr p;simp only[jM]at h1 h2 h3 h4;rcases(show alg=1∨alg=2∨alg=3∨alg=4∨alg=5∨alg=6 by omega)with rfl|rfl|rfl|rfl|rfl|rfl
   ·simp only[go_sem,r0,r6]
    refine(hov _).pthen ?_;simp only[go_sem];exact .same (.refl _) ⟨by simp only[gS,ej',if_true];rfl,rfl⟩
   ·simp only[go_sem,r0,r6]
    refine(htu _ _).pthen ?_;simp only[go_sem];refine(hov2 _).pthen ?_;simp only[go_sem];refine(htu _ _).pthen ?_;simp only[go_sem];exact .same (.refl _) ⟨by simp only[gS,ej'];rfl,rfl⟩
   ·simp only[go_sem,r0,r1]
    refine(h1 _).pthen ?_;exact ag2
   ·simp only[go_sem,r0,r1]
    refine(h2 _).pthen ?_;exact ag2
   ·simp only[go_sem,r0,r1]
    refine(h3 _).pthen ?_;exact aip
   ·simp only[go_sem,r0,r1]
    refine(h4 _).pthen ?_;exact aip
end Go.Proofs.YtcochaoekecfdaaGreatDoor
namespace Go.Bf
open Go Go.Ab Go.Proofs.YtcochaoekecfdaaGreatDoor
def rsA(r:jE):AV:=.agg [aQ r.1,ay r.2]
theorem Is(l:List cD)(m:aT)(i:Nat)(h:i<l.length):ew (l.take (i+1)) m=ew (l.take i) m++(if(l[i].on==1 && m==bl||l[i].on==2 && m==cI)=true then [l[i]]else []):=by
 grind [ew,List.take_succ_eq_append_getElem]
theorem qS(l:List cD)(m:aT){L:List AV}(hL:L=l.map aW)(q:Perm):Weak (.agg [aQ m,.sl L q]) (rsA (m,l)):=by
 subst hL;refine .agg _ _ rfl fun i a b=>?_
 rcases i with _|_|i
 ·exact adK
 ·exact ae2
 grind
theorem yP(alg:Int)(m:aT)(l:List jE)(i:Nat)(h:i<l.length)(h3:alg≠3):eD alg m (l.take (i+1))=eD alg m (l.take i)++(if(l[i].1==m)=true then l[i].2 else []):=by
 unfold eD;rw[if_neg h3,if_neg h3,List.take_succ_eq_append_getElem h,List.filter_append,List.map_append,List.flatten_append]
 grind
theorem yO{m:aT}{l:List jE}(h:∀x∈l,(x.1==m)=false):eD 3 m l= []:=by
 unfold eD;rw[if_pos rfl,List.find?_eq_none.2 fun x hx=>acp]
 rfl
theorem wu{m:aT}{l:List jE}(i:Nat)(h:i<l.length)(h1:(l[i].1==m)=true)(h2:∀j (hj:j<i),((l[j]'aco).1==m)=false):eD 3 m l=l[i].2:=by
 unfold eD;rw[if_pos rfl,show(l.find? fun x=>x.1==m)=some l[i]from List.find?_eq_some_iff_getElem.2 ⟨h1,i,h,rfl,fun j hj=>acp⟩]
 rfl
end Go.Bf
namespace Go.Proofs.YtcochaoekecfdaaGreatDoor
open Go Go.Ab Go.Bf
theorem UM:(U 158).sz=3:=acF
theorem UN:(U 119).sz=2:=acF
theorem ry(l:List cD)(hl:l.length≤1000000)(m:aT)(hpd:m=bl∨m=cI)(h:Heap):ai Tryz.prog 249 [ay l,aQ m] h fun r h' =>r=ay (ew l m)∧h' =h:=by
 have h9:M9 m:=by rcases hpd with rfl|rfl<;>decide
 have pe:=(nb h9).pe;have de:=(nb h9).de;have uO:=UM;obtain⟨b,b1,b2⟩:∃b,(m==bl)=b∧(m==cI)= !b:=by
  rcases hpd with rfl|rfl
  ·exact⟨true,acr,acr⟩
  ·exact⟨false,acr,acr⟩
 refine acn Tryz.func249 36 [.tmp 4] fun hwf=>?_
 simp only[go_sem,ay,aQ,acd];refine .intro (fun q ρ H=>∃(i:Nat) (y:AV),Acc U 158 h H y ((ew (l.take i) m).map aW)∧i≤l.length∧q=l.length - i∧lk ρ 1=some (.v (.complex .f64 (hbit m.1) (hbit m.2)))∧lk ρ 5=some y∧lk ρ 8=some (.sl (l.map aW) .no)∧lk ρ 9=some (.i l.length)∧lk ρ 10=some (.i i)) l.length ?_ ?_
 ·refine⟨0,.sl [] .full,by simpa[ew]using Acc.full (.refl _),aco,rfl,?_,?_,?_,?_,?_⟩<;>simp only[go_sem]
 ·rintro q ρ H ⟨i,y,hy,hi,rfl,r1,r5,r8,r9,r10⟩
  obtain⟨qy,eqy⟩:=hy.row;subst eqy;simp only[go_sem,r9,r10];refine .intro (fun e=>?_) (fun e=>?_)
  ·have hlt:i<l.length:=ack e
   have w1:=acj i aco;have hsn:=Is l m i hlt;have ix:=fun k=>fc.eq (xs:=l.map aW) (sz:=3) i acN acz k
   rw[ace]at ix;obtain⟨o,eo⟩:∃o,l[i]=o:=⟨_,rfl⟩;rw[eo]at ix hsn;simp only[aW]at ix;simp only[go_sem,r8,r10,ix];intro i7 h7;cases b
   ·cases a3:(o.on==2)
    ·cases a1:(o.on==1)
     ·simp only[go_sem,r10,a1,a3,w1]
      exact agT
     ·simp only[go_sem,r1,r10,a1,a3,b1,pe,w1]
      exact agT
    ·cases a1:(o.on==1)
     ·simp only[go_sem,r1,r5,a1,a3,b2,de]
      exact agI
     ·simp only[go_sem,r1,r5,a1,a3,b1,b2,pe,de]
      exact agI
   ·cases a1:(o.on==1)
    ·cases a3:(o.on==2)
     ·simp only[go_sem,r10,a1,a3,w1]
      exact agT
     ·simp only[go_sem,r1,r10,a1,a3,b2,de,w1]
      exact agT
    ·cases a3:(o.on==2)
     ·simp only[go_sem,r1,r5,a1,b1,pe]
      exact agI
     ·simp only[go_sem,r1,r5,a1,b1,pe]
      exact agI
  ·have hge:i=l.length:=by have:=acg e;omega
   subst hge;rw[List.take_length]at hy;simp only[go_sem,r5];exact .mk (ay (ew l m)) (by rw[List.take_length];exact .sl _ _) hy.1 ⟨rfl,rfl⟩
theorem tri{t:Nat}(h:t≤2):t=0∨t=1∨t=2:=aco
theorem It(r:cN)(hr:r.obls.length≤1000000)(t c:Nat)(ht:t≤2)(hc:c≤2)(h:Heap):ai Tryz.prog 245 [aA r,.i t,.i c] h fun x h' =>x=rsA (mV r t c)∧h' =h:=by
 obtain⟨id,deny,tgt,cond,obls⟩:=r;simp only at hr;have hdp:=fun G=>ry obls hr bl (.inl rfl) G
 have hdd:=fun G=>ry obls hr cI (.inr rfl) G
 have hip:=fun G=>yp bl acr G
 have hid:=fun G=>yp cI acr G
 simp only[aQ,bl,cI,hbit,ay]at hdp hdd hip hid;refine acn Tryz.func245 38 [.cell 6 119] fun hwf=>?_
 simp only[go_sem,aA];intro i3 h3;simp only[go_sem];intro i6 h6;have n63:=aH h6;have n6:=aC h6;have hs:∀x y,Ab.Sub h (upd (upd h i3 x) i6 y):=fun x y=>((Sub.refl h).put h3 x).put n6 y
 have hs2:∀x y z,Ab.Sub h (upd (upd (upd h i3 x) i6 y) i6 z):=fun x y z=>(hs x y).put n6 z
 cases deny
 ·rcases tri ht with rfl|rfl|rfl
  ·exact aho
  ·exact ahF
  ·rcases tri hc with rfl|rfl|rfl
   ·exact aho
   ·exact ahF
   ·simp only[go_sem,aj,n63.symm,ay]
    refine(hdp _).pthen ?_;simp only[go_sem];exact .mk (rsA (bl,ew obls bl)) (qS _ bl rfl _) (hs _ _) ⟨rfl,rfl⟩
 ·rcases tri ht with rfl|rfl|rfl
  ·exact aho
  ·exact ahG
  ·rcases tri hc with rfl|rfl|rfl
   ·exact aho
   ·exact ahG
   ·simp only[go_sem,aj,n63.symm,ay]
    refine(hdd _).pthen ?_;simp only[go_sem];exact .mk (rsA (cI,ew obls cI)) (qS _ cI rfl _) (hs _ _) ⟨rfl,rfl⟩
theorem LD(gs:List bp)(t:fO):mG gs t≤2:=(tC (zH gs) t 2).1
theorem KB(gs:List bp)(l:List aM):qp gs l≤2:=by
 grind [qp]
theorem Iv(r:cN)(hr:Ee r)(gs:List bp)(hf:rI gs)(h:Heap):ai Tryz.prog 211 [aA r,bJ gs] h fun x h' =>x=rsA (gY gs r)∧h' =h:=by
 have hob:=(kj hr.2.2.2).1;have hmt:=fun G=>LF r.tgt (Ck hr.2.1) gs hf G
 have hcd:=fun G=>Nq r.cond hr.2.2.1 gs hf G
 have hef:=fun G=>It r aco (mG gs r.tgt) (qp gs r.cond) (LD _ _) (KB _ _) G
 simp only[aA,bJ]at hmt hcd hef;refine acn Tryz.func211 15 [.cell 4 119] fun hwf=>?_
 simp only[go_sem,aA,bJ];intro i2 h2;simp only[go_sem];intro i4 h4;have n42:=aH h4;have n4:=aC h4;obtain⟨H,eH⟩:∃H,upd (upd h i2 (some (.obj [.s r.id,.b r.deny,aS r.tgt,dL r.cond,ay r.obls] 224))) i4 (some (.obj [.v (.complex .f64 0 0),.sl [] .full] 119))=H:=⟨_,rfl⟩;have hH:Ab.Sub h H:=by rw[←eH];exact((Sub.refl h).put h2 _).put n4 _
 have g2:H i2=some (.obj [.s r.id,.b r.deny,aS r.tgt,dL r.cond,ay r.obls] 224):=af5;have g4:H i4=some (.obj [.v (.complex .f64 0 0),.sl [] .full] 119):=adR;simp only[go_sem];rw[eH];clear eH;refine .calls (hm1 i2 (.obj [.s r.id,.b r.deny,aS r.tgt,dL r.cond,ay r.obls] 224)) [0,1,2,3,5,6,7,4,8,9,10] (.hm1 g2) acs rfl ?_;simp only[go_sem,fW];refine(hmt _).pthen ?_;refine⟨.hm1 g2,?_⟩;simp only[go_sem];refine(hcd _).pthen ?_;refine⟨.hm1 g2,?_⟩;simp only[go_sem];refine(hef _).pthen ?_;refine⟨.hm1 g2,?_⟩;simp only[go_sem,rsA,ay,aQ,g4];refine⟨.hm1 (by rw[ag _ _ n42.symm];exact g2),?_⟩
 exact .mk _ (.refl _) (hH.put n4 _) ⟨rfl,rfl⟩
theorem Ba(l:List jE):Sized 2 (l.map rsA):=br (f:=rsA) (fun _=>rfl) l
theorem FI{id:Txt}{set:Bool}{alg:Int}(ha:1≤alg∧alg≤6){tgt:fO}{rules:List cN}{kids:List bB}{obls:List cD}(ho:obls.length≤1000000)(t:Nat)(ht:t=1∨t=2)(parts:List jE)(hp:∀x∈parts,M6 x.1)(hn:parts.length≤32){B:Nat}(hB:B≤10000000)(hpb:∀x∈parts,x.2.length≤B)(q:Perm)(h:Heap):
  ai Tryz.prog 212 [aK (.mk id set alg tgt rules kids obls),.i t,.sl (parts.map rsA) q] h fun r h' =>r=rsA (pL alg obls t parts)∧h' =h:=by
 have hm6:∀m∈parts.map (·.1),M6 m:=fun m hm=>by
  obtain⟨x,hx,rfl⟩:=List.mem_map.1 hm;exact hp x hx
 have hc6:M6 (gS alg (parts.map (·.1))):=GI hm6
 have uR:=UN;have uO:=UM;have uM:=UL;have hall:=fun(p:Perm) (G:Heap)=>Qe alg ha (parts.map (·.1)) (by rw[acd];omega) hm6 p G
 simp only[jM]at hall;refine acn Tryz.func212 84 [.cell 6 119] fun hwf=>?_
 simp only[go_sem,aK];intro i3 h3;simp only[go_sem];intro i6 h6;have n63:=aH h6;have n6' :=aC h6;obtain⟨H0,eH⟩:∃H0,upd (upd h i3 (some (.obj [.s id,.b set,.i alg,aS tgt,.sl (rules.map aA) .no,.sl (cy kids) .no,ay obls] 65))) i6 (some (.obj [.v (.complex .f64 0 0),.sl [] .full] 119))=H0:=⟨_,rfl⟩;have hH0:Ab.Sub h H0:=afm;have g3:H0 i3=some (.obj [.s id,.b set,.i alg,aS tgt,.sl (rules.map aA) .no,.sl (cy kids) .no,ay obls] 65):=by rw[←eH,ag _ _ n63.symm,ah]
 have g6:H0 i6=some (.obj [.v (.complex .f64 0 0),.sl [] .full] 119):=adR;simp only[go_sem,acd];rw[eH];clear eH;refine .intro (fun m ρ H=>∃(i:Nat) (y:AV),Acc U 34 H0 H y (((parts.map (·.1)).take i).map aQ)∧i≤parts.length∧m=parts.length - i∧lk ρ 1=some (.i t)∧lk ρ 2=some (.sl (parts.map rsA) q)∧lk ρ 3=some (.ptr i3 0)∧lk ρ 6=some (.ptr i6 0)∧lk ρ 7=some y∧lk ρ 15=some (.sl (parts.map rsA) q)∧lk ρ 16=some (.i parts.length)∧lk ρ 17=some (.i i)) parts.length ?_ ?_
 ·refine⟨0,.sl [] .full,.full (.refl _),aco,rfl,?_,?_,?_,?_,?_,?_,?_,?_⟩<;>simp only[go_sem]
 ·rintro m ρ H ⟨i,y,hy,hi,rfl,r1,r2,r3,r6,r7,r15,r16,r17⟩
  obtain⟨qy,eqy⟩:=hy.row;subst eqy;simp only[go_sem,r16,r17];refine .intro (fun e=>?_) (fun e=>?_)
  ·have hlt:i<parts.length:=ack e
   have w1:=acj i aco;have hsn:((parts.map (·.1)).take (i+1)).map aQ=((parts.map (·.1)).take i).map aQ++ [aQ parts[i].1]:=by
    rw[List.take_succ_eq_append_getElem acN,List.map_append,ace];rfl
   have ix:=fun k=>fc.eq (xs:=parts.map rsA) (sz:=2) i acN acz k
   rw[ace]at ix;obtain⟨x,ex⟩:∃x,parts[i]=x:=⟨_,rfl⟩;rw[ex]at ix hsn;simp only[rsA,aQ,ay]at ix;simp only[go_sem,r15,r17,ix];intro i9 h9;simp only[go_sem,r7];refine(hy.sub (.ak h9)).app (zs:=[aQ x.1]) (by rw[uM];decide) acu (fun k hk=>hk) (by rw[uM];exact br (f:=aQ) (fun _=>rfl) _) (by rw[uM];intro z hz;rw[List.mem_singleton.1 hz];rfl) acI fun y' H' hy' kp=>?_
   simp only[go_sem,r17,w1];refine⟨_,?_,i+1,y',by rw[hsn];exact hy',aco,rfl,?_,?_,?_,?_,?_,?_,?_,?_⟩
   ·omega
   all_goals simp only[go_sem,r1,r2,r3,r6,r15,r16]
  ·have hge:i=parts.length:=by have:=acg e;omega
   subst hge;have htl:(parts.map (·.1)).take parts.length=parts.map (·.1):=List.take_of_length_le acw
   rw[htl]at hy;have k3:=hy.1 _ _ g3;have k6:=hy.1 _ _ g6;have hsH:=hH0.trans hy.1;have hjp:pL alg obls t parts=if t=0 then(naM,[])else if t=1 then(gK (gS alg (parts.map (·.1))),[])else if gS alg (parts.map (·.1))≠bl∧gS alg (parts.map (·.1))≠cI then(gS alg (parts.map (·.1)),[])
     else(gS alg (parts.map (·.1)),eD alg (gS alg (parts.map (·.1))) parts++ew obls (gS alg (parts.map (·.1)))):=rfl
   have hple:(eD alg (gS alg (parts.map (·.1))) parts).length≤32*B+B:=tX hpb hn
   have hal:=fun G=>hall qy G
   obtain⟨m,em⟩:∃m,gS alg (parts.map (·.1))=m:=⟨_,rfl⟩
   rw[em]at hc6 hjp hal hple;have hin:=fun G=>yp m hc6.m9 G
   have npe:=(nb hc6.m9).npe;have nde:=(nb hc6.m9).nde;simp only[aQ]at hal hin;rw[htl]at r7;simp only[go_sem,r3,r7,k3];refine(hal _).pthen ?_;rcases ht with rfl|rfl
   ·simp only[go_sem,r1]
    refine(hin _).pthen ?_;simp only[go_sem,r6,k6];exact .mk (rsA (gK m,[])) (qS [] (gK m) rfl _) (hsH.put n6' _) ⟨by rw[hjp];rfl,rfl⟩
   have k6H:=k6;cases dp:(m==bl)
   case true=>
    have e1:m=bl:=by simpa using dp
    have hne:¬(m≠bl∧m≠cI):=fun hh=>hh.1 e1
    have hdu:=fun G=>ry obls ho m (.inl e1) G
    simp only[ay,aQ]at hdu;simp only[go_sem,r1,npe,dp];exact agx
   case false=>
    cases dd:(m==cI)
    case true=>
     have e1:m=cI:=by simpa using dd
     have hne:¬(m≠bl∧m≠cI):=fun hh=>hh.2 e1
     have hdu:=fun G=>ry obls ho m (.inr e1) G
     simp only[ay,aQ]at hdu;simp only[go_sem,r1,npe,nde,dp,dd];exact agx
    case false=>
     have e1:m≠bl:=by simpa using dp
     have e2:m≠cI:=by simpa using dd
     simp only[go_sem,r1,r6,npe,nde,dp,dd,k6];exact .mk (rsA (m,[])) (qS [] m rfl _) (hsH.put n6' _) ⟨by rw[hjp,if_neg acr,if_neg acr,if_pos ⟨e1,e2⟩],rfl⟩
theorem Ay:∀(n d:Nat),d+n=5→∀(p:bB),mH d p→∀(gs:List bp),rI gs→∀(h:Heap),ai Tryz.prog 172 [aK p,bJ gs] h fun r h' =>r=rsA (fu gs p)∧h' =h
 |0,d,hd,.mk id set alg tgt rules kids obls,hE,gs,hf,h=>by
  simp only[mH]at hE;omega
 |n+1,d,hd,.mk id set alg tgt rules kids obls,hE,gs,hf,h=>by
  have ih:=Ay n (d+1) aco;simp only[mH,qH]at hE;obtain⟨_,_,ha1,ha2,_,_,hT,hO,hR,hK,hRE,hKE⟩:=hE;have hob:=(kj hO).1;have hmt:=fun G=>LF tgt (Ck hT) gs hf G
  have hev:fu gs (.mk id set alg tgt rules kids obls)=if mG gs tgt=0 then(naM,[])else pL alg obls (mG gs tgt) (rules.map (gY gs)++kids.map (fu gs)):=by simp only[fu,tu]
  have hjo:=fun(ht:mG gs tgt=1∨mG gs tgt=2) (q:Perm) (G:Heap)=>FI (id:=id) (set:=set) (alg:=alg) ⟨ha1,ha2⟩ (tgt:=tgt) (rules:=rules) (kids:=kids) (obls:=obls) aco (mG gs tgt) ht (rules.map (gY gs)++kids.map (fu gs)) (fun x hx=>by
   rcases List.mem_append.1 hx with hx|hx
   ·obtain⟨r,_,rfl⟩:=List.mem_map.1 hx;exact AB _ _ _
   ·obtain⟨r,_,rfl⟩:=List.mem_map.1 hx;exact wZ gs r) ac5 (B:=10000000) (Nat.le_refl _) (fun x hx=>by
   rcases List.mem_append.1 hx with hx|hx
   ·obtain⟨r,hr,rfl⟩:=List.mem_map.1 hx
    have h1:=AA r (mG gs r.tgt) (qp gs r.cond);have h2:=(kj (hRE r hr).2.2.2).1
    show(mV r (mG gs r.tgt) (qp gs r.cond)).2.length≤_
    omega
   ·obtain⟨r,hr,rfl⟩:=List.mem_map.1 hx
    have h1:=BS gs n (d+1) r aco (hKE r hr);have h2:oB n≤oB 4:=by
     have:n≤4:=aco;rcases(show n=0∨n=1∨n=2∨n=3∨n=4 by omega)with rfl|rfl|rfl|rfl|rfl<;>decide
    exact Nat.le_trans h1 (Nat.le_trans h2 acr)) q G
  have hrl:=fun(r:cN) (hr:Ee r) (G:Heap)=>Iv r hr gs hf G
  have hml:=LD gs tgt;obtain⟨t,et⟩:∃t,mG gs tgt=t:=⟨_,rfl⟩;rw[et]at hmt hjo hev hml;simp only[aK,bJ,aP,aS,ay]at hmt hjo hrl;have uR:=UN;refine acn Tryz.func172 50 [.cell 4 119] fun hwf=>?_
  simp only[go_sem,aK,bJ,aP,aS,ay];intro i2 h2;simp only[go_sem];intro i4 h4;have n42:=aH h4;have n4' :=aC h4;obtain⟨H0,eH⟩:∃H0,upd (upd h i2 (some (.obj [.s id,.b set,.i alg,.sl (tgt.map bP) .no,.sl (rules.map aA) .no,.sl (kids.map aK) .no,.sl (obls.map aW) .no] 65))) i4 (some (.obj [.v (.complex .f64 0 0),.sl [] .full] 119))=H0:=⟨_,rfl⟩;have hH0:Ab.Sub h H0:=afl;have g2:H0 i2=some (.obj [.s id,.b set,.i alg,.sl (tgt.map bP) .no,.sl (rules.map aA) .no,.sl (kids.map aK) .no,.sl (obls.map aW) .no] 65):=af5;have g4:H0 i4=some (.obj [.v (.complex .f64 0 0),.sl [] .full] 119):=adR;simp only[go_sem,aj,n42.symm];rw[eH];clear eH;refine(hmt _).pthen ?_;cases dt:((t:Int)==0)
  case true=>
   have e0:t=0:=by have:(t:Int)=0:=(by simpa using dt);omega
   simp only[go_sem,dt,g4];exact .mk (rsA (naM,[])) (qS [] naM rfl _) (hH0.put n4' _) ⟨by rw[hev,if_pos e0],rfl⟩
  have ht0:t≠0:=by rintro rfl;simp at dt
  have ht12:t=1∨t=2:=aco;rw[if_neg ht0]at hev;simp only[go_sem,dt,g2,acd];refine .intro (fun m ρ H=>∃(i:Nat) (y:AV),Acc U 119 H0 H y (((rules.map (gY gs)).take i).map rsA)∧i≤rules.length∧m=rules.length - i∧lk ρ 1=some (.sl (gs.map kX) .no)∧lk ρ 2=some (.ptr i2 0)∧lk ρ 4=some (.ptr i4 0)∧lk ρ 5=some (.i t)∧lk ρ 6=some y∧lk ρ 19=some (.sl (rules.map aA) .no)∧lk ρ 20=some (.i rules.length)∧lk ρ 21=some (.i i)) rules.length ?_ ?_
  ·refine⟨0,.sl [] .full,.full (.refl _),aco,rfl,?_,?_,?_,?_,?_,?_,?_,?_⟩<;>simp only[go_sem]
  ·rintro m ρ H ⟨i,y,hy,hi,rfl,r1,r2,r4,r5,r6,r19,r20,r21⟩
   obtain⟨qy,eqy⟩:=hy.row;subst eqy;simp only[go_sem,r20,r21];refine .intro (fun e=>?_) (fun e=>?_)
   ·have hlt:i<rules.length:=ack e
    have w1:=acj i aco;have hsn:((rules.map (gY gs)).take (i+1)).map rsA=((rules.map (gY gs)).take i).map rsA++ [rsA (gY gs rules[i])]:=by
     rw[List.take_succ_eq_append_getElem acN,List.map_append,ace];rfl
    have ix:=fun k=>fc.eq (xs:=rules.map aA) (sz:=5) i acN acz k
    rw[ace]at ix;have hre:=hRE _ (aci hlt);obtain⟨x,ex⟩:∃x,rules[i]=x:=⟨_,rfl⟩;rw[ex]at ix hsn hre;have hr1:=hrl x hre;simp only[aA,aS,ay]at ix hr1;simp only[go_sem,r19,r21,ix];intro i8 h8;simp only[go_sem,r1,r6];refine(hr1 _).pthen ?_;simp only[go_sem,rsA,aQ,ay];refine(hy.sub (.ak h8)).app (zs:=[rsA (gY gs x)]) (by rw[uR];decide) acu (fun k hk=>hk) (by rw[uR];exact Ba _) aeW acI fun y' H' hy' kp=>?_
    simp only[go_sem,r21,w1];refine⟨_,?_,i+1,y',by rw[hsn];exact hy',aco,rfl,?_,?_,?_,?_,?_,?_,?_,?_⟩
    ·omega
    all_goals simp only[go_sem,r1,r2,r4,r5,r19,r20]
   ·have hge:i=rules.length:=by have:=acg e;omega
    subst hge;have htl:(rules.map (gY gs)).take rules.length=rules.map (gY gs):=List.take_of_length_le acw;rw[htl]at hy r6;have k2:=hy.1 _ _ g2;simp only[go_sem,r2,k2,acd];refine .intro (fun m ρ H=>∃(i:Nat) (y:AV),Acc U 119 H0 H y ((rules.map (gY gs)++(kids.map (fu gs)).take i).map rsA)∧i≤kids.length∧m=kids.length - i∧lk ρ 1=some (.sl (gs.map kX) .no)∧lk ρ 2=some (.ptr i2 0)∧lk ρ 4=some (.ptr i4 0)∧lk ρ 5=some (.i t)∧lk ρ 6=some y∧lk ρ 33=some (.sl (kids.map aK) .no)∧lk ρ 34=some (.i kids.length)∧lk ρ 35=some (.i i)) kids.length ?_ ?_
    ·refine⟨0,_,by rw[List.take_zero,List.append_nil];exact hy,aco,rfl,?_,?_,?_,?_,?_,?_,?_,?_⟩<;>simp only[go_sem,r1,r2,r4,r5,r6]
    ·rintro m ρ2 H2 ⟨i,y,hy,hi,rfl,s1,s2,s4,s5,s6,s33,s34,s35⟩
     obtain⟨qy,eqy⟩:=hy.row;subst eqy;simp only[go_sem,s34,s35];refine .intro (fun e=>?_) (fun e=>?_)
     ·have hlt:i<kids.length:=ack e
      have w1:=acj i aco;have hsn:(rules.map (gY gs)++(kids.map (fu gs)).take (i+1)).map rsA=(rules.map (gY gs)++(kids.map (fu gs)).take i).map rsA++ [rsA (fu gs kids[i])]:=by
       rw[List.take_succ_eq_append_getElem acN,←List.append_assoc,List.map_append,ace];rfl
      have ix:=fun k=>fc.eq (xs:=kids.map aK) (sz:=7) i acN (by rw[ace,jn]) k
      rw[ace]at ix;have hke:=hKE _ (aci hlt);obtain⟨x,ex⟩:∃x,kids[i]=x:=⟨_,rfl⟩;rw[ex]at ix hsn hke;have hr1:=ih x hke gs hf;obtain⟨kid,kset,kalg,ktgt,krules,kkids,kobls⟩:=x;simp only[aK,aS,ay,bJ,aP]at ix hr1;simp only[go_sem,s33,s35,ix];intro i10 h10;simp only[go_sem,s1,s6];refine(hr1 _).pthen ?_;simp only[go_sem,rsA,aQ,ay];refine(hy.sub (.ak h10)).app (zs:=[rsA (fu gs (.mk kid kset kalg ktgt krules kkids kobls))]) (by rw[uR];decide) acu (fun k hk=>hk) (by rw[uR];exact Ba _) aeW (by simp only[go_sem,acd,List.length_take,List.length_cons,List.length_nil,ach];omega) fun y' H' hy' kp=>?_
      simp only[go_sem,s35,w1];refine⟨_,?_,i+1,y',by rw[hsn];exact hy',aco,rfl,?_,?_,?_,?_,?_,?_,?_,?_⟩
      ·omega
      all_goals simp only[go_sem,s1,s2,s4,s5,s33,s34]
     ·have hge:i=kids.length:=by have:=acg e;omega
      subst hge;have htl:(kids.map (fu gs)).take kids.length=kids.map (fu gs):=List.take_of_length_le acw;rw[htl]at hy s6;have k2:=hy.1 _ _ g2;have k4:=hy.1 _ _ g4;have hj:=fun G=>hjo ht12 qy G
      rw[←hev]at hj;obtain⟨z,ez⟩:∃z,fu gs (.mk id set alg tgt rules kids obls)=z:=⟨_,rfl⟩;rw[ez]at hj;simp only[go_sem,s2,s5,s6,k2];refine(hj _).pthen ?_;simp only[go_sem,s4,rsA,aQ,ay,k4];exact .mk (rsA z) (.refl _) ((hH0.trans hy.1).put n4' _) ⟨by rw[ez];rfl,rfl⟩
theorem C4(p:bB)(hp:gy p=0)(gs:List bp)(hf:rI gs)(h:Heap):ai Tryz.prog 123 [aK p,bJ gs] h fun r h' =>r= .tup [rsA (fu gs p),.i 0]∧h' =h:=by
 have hd:=fun G=>Ay 4 1 rfl p (qT hp) gs hf G
 have hr:=fun G=>uh p G
 rw[hp]at hr;obtain⟨id,set,alg,tgt,rules,kids,obls⟩:=p;refine acn Tryz.func123 13 [.cell 4 119,.tmp 5] fun hwf=>?_
 simp only[go_sem,aK,bJ,aS,ay];intro i2 h2;simp only[go_sem];intro i4 h4;have n42:=aH h4;have n4:=aC h4;have hs:∀x y,Ab.Sub h (upd (upd h i2 x) i4 y):=fun x y=>((Sub.refl h).put h2 x).put n4 y
 simp only[go_sem,aj,n42.symm];refine(hr _).pthen ?_;simp only[go_sem,aj,n42.symm];refine(hd _).pthen ?_;simp only[go_sem,rsA,aQ,ay];exact adZ
end Go.Proofs.YtcochaoekecfdaaGreatDoor
namespace Go.Bf
open Go Go.Ab Go.Proofs.YtcochaoekecfdaaGreatDoor
def qM:OpD:=⟨1,Tj,cT,[],[],ax,0,[],[],false⟩
def rep(n:Nat)(t:Txt):Txt:=(List.replicate n t).flatten
def MLe(a b:dU):Prop:=(∀x∈a.met,x∈b.met)∧a.rules≤b.rules
theorem MLe.refl(a:dU):MLe a a:=⟨fun _ h=>h,Nat.le_refl _⟩
theorem MLe.trans{a b c:dU}(h1:MLe a b)(h2:MLe b c):MLe a c:=⟨fun x h=>h2.1 x (h1.1 x h),Nat.le_trans h1.2 h2.2⟩
theorem Ho{a b b' :dU}{s:Txt}(h:MLe a b)(hm:iZ b s=some b'):∃a',iZ a s=some a'∧MLe a' b' :=by
 unfold iZ at hm⊢;split at hm
 ·rename_i hc
  cases hm;refine⟨_,if_pos ⟨fun hx=>hc.1 (h.1 s hx),hc.2⟩,fun x hx=>?_,h.2⟩
  rcases List.mem_append.1 hx with hx|hx
  ·exact List.mem_append.2 (.inl (h.1 x hx))
  grind
 grind
theorem Hp{b b' :dU}{s:Txt}(hm:iZ b s=some b'):MLe b b' :=by
 unfold iZ at hm;split at hm
 ·cases hm;exact⟨fun x hx=>List.mem_append.2 (.inl hx),Nat.le_refl _⟩
 grind
theorem nX{e:Int}{w:Went}{m:dU}(h:need e w= .ok m):e=0∧w= .ok m:=by
 grind [need]
theorem Ol{a b b' :dU}{r:cN}(h:MLe a b)(hr:gp b r= .ok b'):(∃a',gp a r= .ok a'∧MLe a' b')∧MLe b b' :=by
 unfold gp at hr⊢;cases hm:iZ b r.id with
 |none=>grind
 |some m=>
  rw[hm]at hr;obtain⟨a',ha,hl⟩:=Ho h hm;simp only at hr;split at hr
  ·grind
  ·obtain⟨e1,hr⟩:=nX hr
   obtain⟨e2,hr⟩:=nX hr;obtain⟨e3,hr⟩:=nX hr;cases hr;have hup:=Hp hm;refine⟨⟨⟨a'.met,a'.rules+1⟩,?_,hl.1,by have:=hl.2;simp only;omega⟩,hup.1,by have:=hup.2;simp only;omega⟩
   rw[ha];have:=hl.2;simp only[e1,e2,e3,need,if_true];rw[if_neg aco]
theorem Eg:∀(l:List cN) {a b b' :dU},MLe a b→fm b l= .ok b'→(∃a',fm a l= .ok a'∧MLe a' b')∧MLe b b'
 | [],a,b,b',h,hr=>by
  cases hr;exact⟨⟨a,rfl,h⟩,.refl _⟩
 |r::l,a,b,b',h,hr=>by
  simp only[fm]at hr⊢;cases hw:gp b r with
  |bad e=>grind
  |ok m=>
   rw[hw]at hr;obtain⟨⟨a',ha,hl⟩,hu⟩:=Ol h hw;obtain⟨⟨a'',ha',hl'⟩,hu'⟩:=Eg l hl hr;exact⟨⟨a'',acp,hl'⟩,hu.trans hu'⟩
theorem NJ{a b b' :dU}{id:Txt}{set:Bool}{alg:Int}{tgt:fO}{nr nk nk' :Nat}{obls:List cD}(h:MLe a b)(hk:nk'≤nk)(hr:eV b id set alg tgt nr nk obls= .ok b'):(∃a',eV a id set alg tgt nr nk' obls= .ok a'∧MLe a' b')∧MLe b b' :=by
 unfold eV at hr⊢;cases hm:iZ b id with
 |none=>rw[hm]at hr;cases hr
 |some m=>
  rw[hm]at hr;obtain⟨a',ha,hl⟩:=Ho h hm;simp only at hr;split at hr
  ·cases hr
  ·rename_i h1
   split at hr
   ·cases hr
   ·rename_i h2
    obtain⟨e1,hr⟩:=nX hr;obtain⟨e2,hr⟩:=nX hr;split at hr
    ·cases hr
    ·rename_i h3
     cases hr;refine⟨⟨a',?_,hl⟩,Hp hm⟩;rw[ha];have h2' :¬(set=true∧nr>0∨set=false∧(nk' >0∨alg=4)):=by
      rintro(⟨p,q⟩|⟨p,q|q⟩)
      ·exact h2 (.inl ⟨p,q⟩)
      ·exact h2 (.inr ⟨p,.inl aco⟩)
      ·exact h2 (.inr ⟨p,.inr q⟩)
     simp only[if_neg h1,if_neg h2',e1,e2,need,if_true];rw[if_neg aco]
theorem DV(gs:List bp):∀l:List bB,(j3 gs l).length≤l.length
 | []=>by simp[j3]
 |k::r=>by
  have:=DV gs r;simp only[j3];split<;>simp<;>omega
mutual
theorem DX(gs:List bp):∀(p:bB) (d:Nat) {a b b' :dU},MLe a b→ko b d p= .ok b'→(∃a',ko a d (lg gs p)= .ok a'∧MLe a' b')∧MLe b b'
 |.mk id set alg tgt rules kids obls,d,a,b,b',h,hr=>by
  simp only[ko,lg]at hr⊢;split at hr
  ·cases hr
  ·rename_i hd
   rw[if_neg hd];cases hh:eV b id set alg tgt rules.length kids.length obls with
   |bad e=>rw[hh]at hr;cases hr
   |ok m=>
    rw[hh]at hr;simp only at hr;obtain⟨⟨a1,ha1,hl1⟩,hu1⟩:=NJ h (DV gs kids) hh;cases hw:fm m rules with
    |bad e=>rw[hw]at hr;cases hr
    |ok m2=>
     rw[hw]at hr;simp only at hr;obtain⟨⟨a2,ha2,hl2⟩,hu2⟩:=Eg rules hl1 hw;obtain⟨⟨a3,ha3,hl3⟩,hu3⟩:=uX gs kids (d+1) hl2 hr;refine⟨⟨a3,?_,hl3⟩,(hu1.trans hu2).trans hu3⟩;rw[ha1];simp only[ha2];exact ha3
theorem uX(gs:List bp):∀(l:List bB) (d:Nat) {a b b' :dU},MLe a b→iJ b d l= .ok b'→(∃a',iJ a d (j3 gs l)= .ok a'∧MLe a' b')∧MLe b b'
 | [],d,a,b,b',h,hr=>by
  simp only[iJ,j3]at hr⊢;cases hr;exact⟨⟨a,rfl,h⟩,.refl _⟩
 |k::r,d,a,b,b',h,hr=>by
  simp only[iJ]at hr;cases hw:ko b d k with
  |bad e=>rw[hw]at hr;cases hr
  |ok m=>
   rw[hw]at hr;simp only at hr;obtain⟨⟨a1,ha1,hl1⟩,hu1⟩:=DX gs k d h hw;simp only[j3];split
   ·obtain⟨⟨a2,ha2,hl2⟩,hu2⟩:=uX gs r d hl1 hr
    refine⟨⟨a2,?_,hl2⟩,hu1.trans hu2⟩;simp only[iJ,ha1];exact ha2
   ·obtain⟨⟨a2,ha2,hl2⟩,hu2⟩:=uX gs r d (h.trans hu1) hr
    exact⟨⟨a2,ha2,hl2⟩,hu1.trans hu2⟩
end
theorem F1(gs:List bp){p:bB}(h:gy p=0):gy (lg gs p)=0:=by
 unfold gy at*;cases hw:ko ⟨[],0⟩ 1 p with
 |bad e=>
  have:=ua 4 1 _ _ e rfl hw;rw[hw]at h;exact(this h).elim
 |ok m=>
  obtain⟨⟨a,ha,_⟩,_⟩:=DX gs p 1 (.refl _) hw;rw[ha];rfl
def UW:bM:=⟨⟨0,[],false⟩,0,ax⟩
def NQ(k:Option bM):AV:=match k with
 |some m=> .tup [cP m,.b true]
 |none=> .tup [cP UW,.b false]
theorem Lp{x:List (List bM)}{r:fO}(h:x.length≠1):nV (x::r)=nV r:=by
 match x,h with
 | [],_=>rfl
 | [l],h=>exact(h rfl).elim
 |a::b::c,_=>rfl
theorem Lo{l:List bM}{r:fO}(h:(l.find? fun m=>m.op==1 && !m.attr.must)=none):nV ([l]::r)=nV r:=by
 grind [nV]
theorem Lr{l:List bM}{r:fO}{m:bM}(h:(l.find? fun m=>m.op==1 && !m.attr.must)=some m):nV ([l]::r)=some m:=by
 grind [nV]
theorem DU(gs:List bp):∀l:List bB,j3 gs l=(l.filter (sC gs)).map (lg gs)
 | []=>acF
 |k::r=>by
  simp only[j3,List.filter_cons,DU gs r]
  grind
def ixP(gs:List bp)(l:List bB)(n:Nat):List Nat:=(List.range n).filter fun j=>sC gs (l.getD j lI)
theorem Ds(gs:List bp)(l:List bB){n:Nat}(h:n<l.length):ixP gs l (n+1)=ixP gs l n++(if sC gs l[n]=true then [n]else []):=by
 grind [ixP,List.range_succ,List.getD,List.getElem?_eq_getElem]
theorem Dt(gs:List bp)(l:List bB):∀n:Nat,n≤l.length→(ixP gs l n).map (fun j=>l.getD j lI)=(l.take n).filter (sC gs)
 |0,_=>acF
 |n+1,h=>by
  have hlt:n<l.length:=aco;rw[Ds gs l hlt,List.map_append,Dt gs l n aco,List.take_succ_eq_append_getElem hlt,List.filter_append,List.filter_cons]
  congr 1
  grind
theorem QW{gs:List bp}{l:List bB}{n j:Nat}(h:j∈ixP gs l n):j<n:=List.mem_range.1 (List.mem_filter.1 h).1
theorem Hg(gs:List bp)(l:List bB)(n:Nat):(ixP gs l n).length≤n:=by
 grind [ixP,Nat.le_trans,List.length_filter_le]
theorem Li(gs:List bp)(l:List bB):(ixP gs l l.length).map (fun j=>lg gs (l.getD j lI))=j3 gs l:=by
 rw[DU,←List.take_length (l:=l),←Dt gs l l.length (Nat.le_refl _),List.map_map,List.take_length];rfl
theorem nW(m:bM):cP m= .agg [.i m.attr.cat,.s m.attr.name,.b m.attr.must,.i m.op,.i m.val.kind,.i m.val.n,.s m.val.s]:=rfl
end Go.Bf
namespace Go.Proofs.YtcochaoekecfdaaGreatDoor
open Go Go.Ab Go.Bf
theorem QX(t:fO)(ht:MY t)(h:Heap):ai Tryz.prog 213 [aS t] h fun r h' =>r=NQ (nV t)∧h' =h:=by
 have htl:=ht.1;refine acn Tryz.func213 38 [.cell 2 273,.tmp 3] fun hwf=>?_
 simp only[go_sem,aS];intro i2 h2;simp only[go_sem,acd];have hH0:∀x,Ab.Sub h (upd h i2 x):=fun x=> .ak h2
 refine .intro (fun m ρ H=>Ab.Sub h H∧H i2=some (.obj [.i 0,.s [],.b false,.i 0,.i 0,.i 0,.s []] 273)∧∃i:Nat,i≤t.length∧m=t.length - i∧nV (t.drop i)=nV t∧lk ρ 2=some (.ptr i2 0)∧lk ρ 8=some (.sl (t.map bP) .no)∧lk ρ 9=some (.i t.length)∧lk ρ 10=some (.i i)) t.length ?_ ?_
 ·refine⟨hH0 _,ah ..,0,aco,rfl,rfl,?_,?_,?_,?_⟩<;>simp only[go_sem]
 ·rintro m ρ H ⟨hs,k2,i,hi,rfl,hk,r2,r8,r9,r10⟩
  simp only[go_sem,r9,r10];refine .intro (fun e=>?_) (fun e=>?_)
  ·have hlt:i<t.length:=ack e
   have w1:IntKind.i64.wrap ((i:Int)+1)=((i+1:Nat):Int):=acE;rw[List.drop_eq_getElem_cons hlt]at hk;have hxl:=(ht.2 _ (aci hlt)).2;have ix:=fun k=>fc.eq (xs:=t.map bP) (sz:=1) i acp acz k
   rw[ace]at ix;obtain⟨x,ex⟩:∃x,t[i]=x:=⟨_,rfl⟩;rw[ex]at ix hk hxl;simp only[bP]at ix;cases d1:((x.length:Int) !=1)
   case true=>
    have hx1:x.length≠1:=acp;rw[Lp hx1]at hk;simp only[go_sem,r8,r10,ix,acd,d1,w1];refine⟨_,?_,hs,k2,i+1,aco,rfl,hk,?_,?_,?_,?_⟩
    ·omega
    all_goals simp only[go_sem,r2,r8,r9]
   have hx1:x.length=1:=acp;obtain⟨l,rfl⟩:=List.length_eq_one_iff.1 hx1;have hll:=hxl l (List.mem_singleton.2 rfl);have iy:=fun k=>fc.eq (xs:=[fP l]) (sz:=1) 0 acw rfl k
   simp only[List.getElem_cons_zero,fP,Int.natCast_zero]at iy;simp only[go_sem,r8,r10,ix,acd,List.length_cons,List.length_nil,List.map_cons,List.map_nil,fP,iy];refine .intro (fun m ρ2 H2=>Ab.Sub h H2∧H2 i2=some (.obj [.i 0,.s [],.b false,.i 0,.i 0,.i 0,.s []] 273)∧∃j:Nat,j≤l.length∧m=l.length - j∧(∀k (h1:k<l.length),k<j→(l[k].op==1 && !l[k].attr.must)=false)∧lk ρ2 2=some (.ptr i2 0)∧lk ρ2 8=some (.sl (t.map bP) .no)∧lk ρ2 9=some (.i t.length)∧lk ρ2 10=some (.i i)∧lk ρ2 19=some (.sl (l.map cP) .no)∧lk ρ2 20=some (.i l.length)∧lk ρ2 21=some (.i j)) l.length ?_ ?_
   ·refine⟨hs,k2,0,aco,rfl,fun k _ hk=>aco,?_,?_,?_,?_,?_,?_,?_⟩<;>simp only[go_sem,r2,r8,r9,r10]
   ·rintro m ρ2 H2 ⟨hs2,k2,j,hj,rfl,hc,s2,s8,s9,s10,s19,s20,s21⟩
    simp only[go_sem,s20,s21];refine .intro (fun e=>?_) (fun e=>?_)
    ·have hlt2:j<l.length:=ack e
     have w2:IntKind.i64.wrap ((j:Int)+1)=((j+1:Nat):Int):=acE;have iz:=fun k=>fc.eq (xs:=l.map cP) (sz:=7) j acp acz k
     rw[ace]at iz;have hci:=fun(d:(l[j].op==1 && !l[j].attr.must)=false)=>(fun k (h1:k<l.length) (hk:k<j+1)=>(by
      grind:(l[k].op==1 && !l[k].attr.must)=false))
     have hat:=fun(d:(l[j].op==1 && !l[j].attr.must)=true)=>(List.find?_eq_some_iff_getElem.2 ⟨d,j,hlt2,rfl,fun k hk=>acp⟩:(l.find? fun m=>m.op==1 && !m.attr.must)=some l[j])
     obtain⟨z,ez⟩:∃z,l[j]=z:=⟨_,rfl⟩;rw[ez]at iz hci hat;simp only[nW]at iz;simp only[go_sem,s19,s21,iz];intro i7 h7;have n72:i7≠i2:=fun e=>acp
     cases a1:(z.op==1)
     ·exact ahf
     ·cases a2:z.attr.must
      ·have hkk:=hk.symm.trans (Lr (hat acp))
       simp only[go_sem,s2,a1,aj,n72.symm,k2];exact .mk _ (.refl _) ((hs2.trans (.ak h7)).put h2 _) ⟨by rw[hkk];simp only[NQ,nW,a2];rfl,rfl⟩
      ·exact ahf
    ·have hge:j=l.length:=by grind
     subst hge;rw[Lo (List.find?_eq_none.2 fun z hz=>by
      obtain⟨k,hk,rfl⟩:=List.mem_iff_getElem.1 hz
      grind)]at hk
     simp only[go_sem,s10,w1];refine⟨_,?_,hs2,k2,i+1,aco,rfl,hk,?_,?_,?_,?_⟩
     ·omega
     all_goals simp only[go_sem,s2,s8,s9]
  ·have hge:i=t.length:=by grind
   subst hge;rw[List.drop_length]at hk;simp only[go_sem,r2,k2];exact .mk _ (.refl _) (hs.put h2 _) ⟨by rw[←hk];rfl,rfl⟩
theorem Jd{gs:List bp}{p:bB}(h:nV (sI p)=none):sC gs p=true:=by grind [sC]
theorem Je{gs:List bp}{p:bB}{m:bM}(h:nV (sI p)=some m):sC gs p=decide (jN gs m≠0):=by grind [sC]
def tN(n:Nat):AV:=.i n
theorem LZ(l:List bB)(hl:l.length≤1000)(ht:∀p∈l,MY (sI p))(gs:List bp)(hf:rI gs)(h:Heap):ai Tryz.prog 173 [.sl (l.map aK) .no,bJ gs] h fun r h' =>r= .sl ((ixP gs l l.length).map tN) .no∧h' =h:=by
 have hmt:=fun(m:bM) (G:Heap)=>AT m gs hf G
 simp only[nW,bJ]at hmt;have uI:(U 3).sz=1:=acF;refine acn Tryz.func173 37 [.tmp 4] fun hwf=>?_
 simp only[go_sem,bJ,acd];refine .intro (fun m ρ H=>∃(i:Nat) (y:AV),Acc U 3 h H y ((ixP gs l i).map tN)∧i≤l.length∧m=l.length - i∧lk ρ 1=some (.sl (gs.map kX) .no)∧lk ρ 5=some y∧lk ρ 10=some (.sl (l.map aK) .no)∧lk ρ 11=some (.i l.length)∧lk ρ 12=some (.i i)) l.length ?_ ?_
 ·refine⟨0,.sl [] .full,.full (.refl _),aco,rfl,?_,?_,?_,?_,?_⟩<;>simp only[go_sem]
 ·rintro m ρ H ⟨i,y,hy,hi,rfl,r1,r5,r10,r11,r12⟩
  obtain⟨qy,eqy⟩:=hy.row;subst eqy;simp only[go_sem,r11,r12];refine .intro (fun e=>?_) (fun e=>?_)
  ·have hlt:i<l.length:=ack e
   have w1:IntKind.i64.wrap ((i:Int)+1)=((i+1:Nat):Int):=acE;have hsn:=Ds gs l hlt;have hpl:=Hg gs l i;have ix:=fun k=>fc.eq (xs:=l.map aK) (sz:=7) i acp (by rw[ace,jn]) k
   rw[ace]at ix;have hft:=ht _ (aci hlt);obtain⟨x,ex⟩:∃x,l[i]=x:=⟨_,rfl⟩;rw[ex]at ix hsn hft;have hky:=fun G=>QX (sI x) hft G
   have mn:=fun h=>Jd (gs:=gs) (p:=x) h
   have ms:=fun m h=>Je (gs:=gs) (p:=x) (m:=m) h
   obtain⟨kid,kset,kalg,ktgt,krules,kkids,kobls⟩:=x;simp only[sI]at hky hft mn ms;simp only[aK,aS,ay,aP]at ix;simp only[aS]at hky;simp only[go_sem,r10,r12,ix];intro i7 h7;simp only[go_sem];refine(hky _).pthen ?_;have hkeep:sC gs (.mk kid kset kalg ktgt krules kkids kobls)=true→ixP gs l (i+1)=ixP gs l i++ [i]:=fun e=>acp
   have hdrop:sC gs (.mk kid kset kalg ktgt krules kkids kobls)=false→ixP gs l (i+1)=ixP gs l i:=fun e=>acp
   cases hk:nV ktgt with
   |none=>
    simp only[go_sem,NQ,nW];intro i8 h8;simp only[go_sem,r5];exact agY
   |some m=>
    have hm2:=ms m hk;simp only[go_sem,NQ,nW];intro i8 h8;simp only[go_sem,r1];refine(hmt m _).pthen ?_;cases dm:((jN gs m:Int) !=0)
    ·have e0:jN gs m=0:=by grind
     simp only[go_sem,r12,dm,w1];refine⟨_,?_,i+1,_,by rw[hdrop acp];exact(hy.sub (.ak h7)).sub (.ak h8),aco,rfl,?_,?_,?_,?_,?_⟩
     ·omega
     all_goals simp only[go_sem,r1,r5,r10,r11]
    ·have e0:jN gs m≠0:=by grind
     simp only[go_sem,r5,dm];exact agY
  ·have hge:i=l.length:=by grind
   subst hge;simp only[go_sem,r5];exact .mk _ (.sl _ _) hy.1 ⟨rfl,rfl⟩
theorem Ur{id:Txt}{set:Bool}{alg:Int}{tgt:fO}{rules:List cN}{kids:List bB}{obls:List cD}{L:List AV}(hL:L=kids.map aK)(q:Perm):Weak (.agg [.s id,.b set,.i alg,.sl (tgt.map bP) .no,.sl (rules.map aA) .no,.sl L q,.sl (obls.map aW) .no]) (aK (.mk id set alg tgt rules kids obls)):=by
 subst hL;rw[aK,aP];refine .agg _ _ rfl fun i a b=>?_
 rcases i with _|_|_|_|_|_|_|i
 ·exact adK
 ·exact adK
 ·exact adK
 ·exact adK
 ·exact adK
 ·exact ae2
 ·exact adK
 ·simp at a;omega
theorem A2:∀(n d:Nat),d+n=5→∀(p:bB),mH d p→∀(gs:List bp),rI gs→∀(h:Heap),ai Tryz.prog 124 [aK p,bJ gs] h fun r h' =>r=aK (lg gs p)∧h' =h
 |0,d,hd,.mk id set alg tgt rules kids obls,hE,gs,hf,h=>by
  simp only[mH]at hE;omega
 |n+1,d,hd,.mk id set alg tgt rules kids obls,hE,gs,hf,h=>by
  have ih:=A2 n (d+1) aco;simp only[mH,qH]at hE;obtain⟨_,_,_,_,_,_,hT,hO,hR,hK,hRE,hKE⟩:=hE;have hpk:=fun G=>LZ kids aco (fun p hp=>by
   have h1:=hKE p hp;obtain⟨kid,kset,kalg,ktgt,krules,kkids,kobls⟩:=p;simp only[mH]at h1;exact Ck h1.2.2.2.2.2.2.1) gs hf G
  have hpe:lg gs (.mk id set alg tgt rules kids obls)= .mk id set alg tgt rules (j3 gs kids) obls:=acF;have hfull:=Li gs kids;have hIlt:∀j∈ixP gs kids kids.length,j<kids.length:=fun j hj=>QW hj
  have hIl:(ixP gs kids kids.length).length≤16:=Nat.le_trans (Hg _ _ _) hK;obtain⟨I,eI⟩:∃I,ixP gs kids kids.length=I:=⟨_,rfl⟩;rw[eI]at hpk hfull hIlt hIl;simp only[bJ]at hpk;have uP:(U 65).sz=7:=acF;refine acn Tryz.func124 31 [.cell 4 65] fun hwf=>?_
  simp only[go_sem,aK,bJ,aP,aS,ay];intro i2 h2;simp only[go_sem];intro i4 h4;have n42:=aH h4;have n4' :=aC h4;obtain⟨H0,eH⟩:∃H0,upd (upd h i2 (some (.obj [.s id,.b set,.i alg,.sl (tgt.map bP) .no,.sl (rules.map aA) .no,.sl (kids.map aK) .no,.sl (obls.map aW) .no] 65))) i4 (some (.obj [.s [],.b false,.i 0,.sl [] .full,.sl [] .full,.sl [] .full,.sl [] .full] 65))=H0:=⟨_,rfl⟩;have hH0:Ab.Sub h H0:=afl;have g2:H0 i2=some (.obj [.s id,.b set,.i alg,.sl (tgt.map bP) .no,.sl (rules.map aA) .no,.sl (kids.map aK) .no,.sl (obls.map aW) .no] 65):=af5;have g4:H0 i4=some (.obj [.s [],.b false,.i 0,.sl [] .full,.sl [] .full,.sl [] .full,.sl [] .full] 65):=adR;simp only[go_sem,aj,n42.symm];rw[eH];clear eH;refine(hpk _).pthen ?_;simp only[go_sem,acd];refine .intro (fun m ρ H=>∃(i:Nat) (y:AV),Acc U 65 H0 H y (((I.map fun j=>lg gs (kids.getD j lI)).take i).map aK)∧i≤I.length∧m=I.length - i∧lk ρ 1=some (.sl (gs.map kX) .no)∧lk ρ 2=some (.ptr i2 0)∧lk ρ 4=some (.ptr i4 0)∧lk ρ 5=some y∧lk ρ 11=some (.sl (I.map tN) .no)∧lk ρ 12=some (.i I.length)∧lk ρ 13=some (.i i)) I.length ?_ ?_
  ·refine⟨0,.sl [] .full,.full (.refl _),aco,rfl,?_,?_,?_,?_,?_,?_,?_⟩<;>simp only[go_sem]
  ·rintro m ρ H ⟨i,y,hy,hi,rfl,r1,r2,r4,r5,r11,r12,r13⟩
   obtain⟨qy,eqy⟩:=hy.row;subst eqy;have k2:=hy.1 _ _ g2;simp only[go_sem,r12,r13];refine .intro (fun e=>?_) (fun e=>?_)
   ·have hlt:i<I.length:=ack e
    have w1:IntKind.i64.wrap ((i:Int)+1)=((i+1:Nat):Int):=acE;have hjlt:=hIlt _ (aci hlt);have hsn:((I.map fun j=>lg gs (kids.getD j lI)).take (i+1)).map aK=((I.map fun j=>lg gs (kids.getD j lI)).take i).map aK++ [aK (lg gs (kids.getD I[i] lI))]:=by
     grind [List.take_succ_eq_append_getElem]
    have ix:=fun k=>fc.eq (xs:=I.map tN) (sz:=1) i acp acz k
    rw[ace]at ix;obtain⟨j,ej⟩:∃j,I[i]=j:=⟨_,rfl⟩;rw[ej]at ix hsn hjlt;have iy:=fun k=>fc.eq (xs:=kids.map aK) (sz:=7) j acp (by rw[ace,jn]) k
    rw[ace]at iy;rw[show kids.getD j lI=kids[j] by grind]at hsn
    have hke:=hKE _ (aci hjlt);obtain⟨x,ex⟩:∃x,kids[j]=x:=⟨_,rfl⟩;rw[ex]at iy hsn hke;have hr1:=ih x hke gs hf;obtain⟨z,ez⟩:∃z,lg gs x=z:=⟨_,rfl⟩;rw[ez]at hr1 hsn;obtain⟨kid,kset,kalg,ktgt,krules,kkids,kobls⟩:=x;obtain⟨zid,zset,zalg,ztgt,zrules,zkids,zobls⟩:=z;simp only[aK,aS,ay,aP,bJ]at iy hr1;simp only[tN]at ix;simp only[go_sem,r1,r2,r5,r11,r13,ix,k2,iy];refine(hr1 _).pthen ?_;simp only[go_sem];refine hy.app (zs:=[aK (.mk zid zset zalg ztgt zrules zkids zobls)]) aco acr (fun k hk=>show k _ from(by simpa only[aK,aS,ay,aP]using hk)) (by grind [br,aK,jn]) (by rw[uP];intro z hz;grind [List.mem_singleton,jn]) acI fun y' H' hy' kp=>?_
    simp only[go_sem,r13,w1];refine⟨_,?_,i+1,y',acp,aco,rfl,?_,?_,?_,?_,?_,?_,?_⟩
    ·omega
    all_goals simp only[go_sem,r1,r2,r4,r11,r12]
   ·have hge:i=I.length:=by grind
    subst hge;have htl:(I.map fun j=>lg gs (kids.getD j lI)).take I.length=j3 gs kids:=by grind [List.take_of_length_le]
    rw[htl]at r5 hy;have k4:=hy.1 _ _ g4;have n24:i2≠i4:=n42.symm;simp only[go_sem,r2,r4,r5,k2,aj,n42,k4];refine .mk (aK (.mk id set alg tgt rules (j3 gs kids) obls)) (Ur rfl _) (((hH0.trans hy.1).put h2 _).put n4' _) ⟨acF,rfl⟩
theorem Dr(p:bB)(hp:gy p=0)(gs:List bp)(hf:rI gs)(h:Heap):ai Tryz.prog 69 [aK p,bJ gs] h fun r h' =>r= .tup [rsA (fu gs p),.i 0]∧h' =h:=by
 have hpk:=fun G=>A2 4 1 rfl p (qT hp) gs hf G
 have hev:=fun G=>C4 (lg gs p) (F1 gs hp) gs hf G
 have hr:=fun G=>uh p G
 rw[hp]at hr;rw[AY]at hev;obtain⟨id,set,alg,tgt,rules,kids,obls⟩:=p;refine acn Tryz.func69 17 [.cell 4 119,.tmp 5] fun hwf=>?_
 simp only[go_sem,aK,bJ,aS,ay];intro i2 h2;simp only[go_sem];intro i4 h4;have n42:=aH h4;have n4:=aC h4;have hs:∀x y,Ab.Sub h (upd (upd h i2 x) i4 y):=fun x y=>((Sub.refl h).put h2 x).put n4 y
 simp only[go_sem,aj,n42.symm];refine(hr _).pthen ?_;simp only[go_sem,aj,n42.symm];refine(hpk _).pthen ?_;simp only[go_sem];refine(hev _).pthen ?_;simp only[go_sem,rsA,aQ,ay];exact adZ
theorem Lj{α:Type}(y:AV)(xs:List AV)(ds:List α)(q:α→Bool)(g:FuncId)(cap:List AV)(h:Heap)(hb:Rd h 7 y xs)(hn:xs.length=ds.length)(hl:xs.length≤1000000000)(hx:∀x∈xs,bA x=true)
  (hp:∀i (h1:i<xs.length) (h2:i<ds.length),ai Tryz.prog g (xs[i]::cap) h fun r h' =>r= .b (q ds[i])∧h' =h):
  ai Tryz.prog 217 [y,.fn g cap] h fun r h' =>r= .i (ixD q ds)∧h' =h:=by
 refine acn Tryz.func217 19 [.tmp 4] fun hwf=>?_
 simp only[go_sem,hb.len];refine .intro (fun m ρ h' =>h' =h∧∃i:Nat,i≤xs.length∧m=xs.length - i∧(∀j (hj:j<i) (h2:j<ds.length),q ds[j]=false)∧lk ρ 0=some y∧lk ρ 1=some (.fn g cap)∧lk ρ 7=some (.i xs.length)∧lk ρ 8=some (.i i)) xs.length ?_ ?_
 ·refine⟨rfl,0,aco,rfl,fun j hj=>aco,?_,?_,?_,?_⟩<;>simp only[go_sem]
 ·rintro m ρ h' ⟨rfl,i,hi,rfl,hc,r0,r1,r7,r8⟩
  simp only[go_sem,r7,r8];refine .intro (fun e=>?_) (fun e=>?_)
  ·have hlt:i<xs.length:=ack e
   have hlt2:i<ds.length:=aco;have w1:IntKind.i64.wrap ((i:Int)+1)=((i+1:Nat):Int):=acE;simp only[go_sem,r0,r1,r8];refine hb.idx (e:=143) i rfl hlt acF acr fun p hp1=>?_
   have hld:=hp1.all (U:=U) (ty:=143) acr adl aeb;simp only[go_sem,hld];refine(show ai Tryz.prog g (xs[i]::cap) _ _ from hp i hlt hlt2).pthen ?_
   cases d1:q ds[i]
   ·simp only[go_sem,r8,w1]
    refine⟨_,?_,rfl,i+1,aco,rfl,fun j hj h2=>?_,?_,?_,?_,?_⟩
    ·omega
    ·grind
    all_goals simp only[go_sem,r0,r1,r7]
   ·simp only[go_sem]
    exact .same (.refl _) ⟨ac6,rfl⟩
  ·have hge:i=xs.length:=by grind
   simp only[go_sem];exact .same (.refl _) ⟨acT,rfl⟩
theorem Lh{α:Type}(y:AV)(xs:List AV)(ds:List α)(q:α→Bool)(g:FuncId)(cap:List AV)(h:Heap)(hb:Rd h 3 y xs)(hn:xs.length=ds.length)(hl:xs.length≤1000000000)(hx:∀x∈xs,bA x=true)
  (hp:∀i (h1:i<xs.length) (h2:i<ds.length),ai Tryz.prog g (xs[i]::cap) h fun r h' =>r= .b (q ds[i])∧h' =h):
  ai Tryz.prog 183 [y,.fn g cap] h fun r h' =>r= .i (ixD q ds)∧h' =h:=by
 refine acn Tryz.func183 19 [.tmp 4] fun hwf=>?_
 simp only[go_sem,hb.len];refine .intro (fun m ρ h' =>h' =h∧∃i:Nat,i≤xs.length∧m=xs.length - i∧(∀j (hj:j<i) (h2:j<ds.length),q ds[j]=false)∧lk ρ 0=some y∧lk ρ 1=some (.fn g cap)∧lk ρ 7=some (.i xs.length)∧lk ρ 8=some (.i i)) xs.length ?_ ?_
 ·refine⟨rfl,0,aco,rfl,fun j hj=>aco,?_,?_,?_,?_⟩<;>simp only[go_sem]
 ·rintro m ρ h' ⟨rfl,i,hi,rfl,hc,r0,r1,r7,r8⟩
  simp only[go_sem,r7,r8];refine .intro (fun e=>?_) (fun e=>?_)
  ·have hlt:i<xs.length:=ack e
   have hlt2:i<ds.length:=aco;have w1:IntKind.i64.wrap ((i:Int)+1)=((i+1:Nat):Int):=acE;simp only[go_sem,r0,r1,r8];refine hb.idx (e:=158) i rfl hlt acF acr fun p hp1=>?_
   have hld:=hp1.all (U:=U) (ty:=158) acr adl aeb;simp only[go_sem,hld];refine(show ai Tryz.prog g (xs[i]::cap) _ _ from hp i hlt hlt2).pthen ?_
   cases d1:q ds[i]
   ·simp only[go_sem,r8,w1]
    refine⟨_,?_,rfl,i+1,aco,rfl,fun j hj h2=>?_,?_,?_,?_,?_⟩
    ·omega
    ·grind
    all_goals simp only[go_sem,r0,r1,r7]
   ·simp only[go_sem]
    exact .same (.refl _) ⟨ac6,rfl⟩
  ·have hge:i=xs.length:=by grind
   simp only[go_sem];exact .same (.refl _) ⟨acT,rfl⟩
theorem I0(y:AV)(ds:List oo)(q:oo→Bool)(g:FuncId)(cap:List AV)(h:Heap)(hb:Rd h 7 y (ds.map fY))(hl:ds.length≤1000000000)
  (hp:∀i (h2:i<ds.length),ai Tryz.prog g (fY ds[i]::cap) h fun r h' =>r= .b (q ds[i])∧h' =h):
  ai Tryz.prog 175 [y,.fn g cap] h fun r h' =>r= .b (ds.any q)∧h' =h:=by
 refine acn Tryz.func175 9 [.tmp 4] fun hwf=>?_
 simp only[go_sem];refine(Lj y _ ds q g cap h hb acw acp (ou (fun _=>rfl) _) fun i a b=>by rw[ace];exact hp i b).pthen ?_
 simp only[go_sem,uA];exact acD
theorem IZ(y:AV)(ds:List cD)(q:cD→Bool)(g:FuncId)(cap:List AV)(h:Heap)(hb:Rd h 3 y (ds.map aW))(hl:ds.length≤1000000000)
  (hp:∀i (h2:i<ds.length),ai Tryz.prog g (aW ds[i]::cap) h fun r h' =>r= .b (q ds[i])∧h' =h):
  ai Tryz.prog 137 [y,.fn g cap] h fun r h' =>r= .b (ds.any q)∧h' =h:=by
 refine acn Tryz.func137 9 [.tmp 4] fun hwf=>?_
 simp only[go_sem];refine(Lh y _ ds q g cap h hb acw acp (ou (fun _=>rfl) _) fun i a b=>by rw[ace];exact hp i b).pthen ?_
 simp only[go_sem,uA];exact acD
theorem Fy(y:AV)(xs:List AV)(ds:List aJ)(q:aJ→Bool)(g:FuncId)(cap:List AV)(h:Heap)(hb:Rd h 5 y xs)(hn:xs.length=ds.length)(hl:xs.length≤1000000000)(hx:∀x∈xs,bA x=true)
  (hp:∀i (h1:i<xs.length) (h2:i<ds.length),ai Tryz.prog g (xs[i]::cap) h fun r h' =>r= .b (q ds[i])∧h' =h):
  ai Tryz.prog 143 [y,.fn g cap] h fun r h' =>r= .b (ds.any q)∧h' =h:=by
 refine acn Tryz.func143 9 [.tmp 4] fun hwf=>?_
 simp only[go_sem];refine(uW y xs ds q g cap h hb hn hl hx hp).pthen ?_;simp only[go_sem,uA];exact acD
theorem Ls{h:Heap}(r:oo){k1 k2:Nat}{subj:Txt}{s:an}(hk1:h k1=some (.obj [.s subj] 9))(hk2:h k2=some (.obj (sL s) 67))(ht:0≤s.tick∧s.tick≤1099511627776)(hr:0≤r.tick∧r.tick≤1099511627776):
  ai Tryz.prog 176 [fY r,.ptr k1 0,.ptr k2 0] h fun x h' =>x= .b (r.subj==subj && qP s r)∧h' =h:=by
 have w:IntKind.i64.wrap (s.tick - r.tick)=s.tick - r.tick:=aY _ aco;obtain⟨tick,cs,rv,nt,ro,⟨pid,pset,palg,ptgt,prules,pkids,pobls⟩,ver⟩:=s;simp only[sL]at hk2;simp only at w;refine acn Tryz.func176 21 [.tmp 4] fun hwf=>?_
 simp only[go_sem,fY];intro i3 h3;have n31:i3≠k1:=fun e=>acp
 have n32:i3≠k2:=fun e=>acp
 cases d1:(r.subj==subj)
 ·simp only[go_sem,aj,n31.symm,hk1,d1]
  exact .mk _ (.refl _) (.ak h3) ⟨rfl,rfl⟩
 cases d2:r.isOpen
 ·simp only[go_sem,aj,n31.symm,hk1,d1]
  exact .mk _ (.refl _) (.ak h3) ⟨by simp only[qP,d2];rfl,rfl⟩
 ·simp only[go_sem,aj,n31.symm,n32.symm,hk1,hk2,d1,w]
  exact .mk _ (.refl _) (.ak h3) ⟨by simp only[qP,d2];rfl,rfl⟩
theorem NS(s:an)(subj:Txt)(hn:s.reviews.length≤1000000)(ht:0≤s.tick∧s.tick≤1099511627776)(hr:gW s)(h:Heap):ai Tryz.prog 128 [cg s,.s subj] h fun x h' =>x= .b (Lt s subj)∧h' =h:=by
 have hl1:=fun(H:Heap) (k1 k2:Nat) (e1:H k1=some (.obj [.s subj] 9)) (e2:H k2=some (.obj (sL s) 67))=>I0 (ja s.reviews) s.reviews (fun r=>r.subj==subj && qP s r) 176 [.ptr k1 0,.ptr k2 0] H (eJ fY 7 (fun _=>rfl) H _) aco fun i h2=>Ls _ e1 e2 ht (hr _ (aci h2))
 have hst:=oc s;obtain⟨tick,cs,rv,nt,ro,⟨pid,pset,palg,ptgt,prules,pkids,pobls⟩,ver⟩:=s;rw[hst];simp only[sL]at hl1⊢;refine acn Tryz.func128 9 [.tmp 4] fun hwf=>?_
 simp only[go_sem];intro i2 h2;simp only[go_sem];intro i3 h3;have n32:=aH h3;have n3:=aC h3;have hs:∀x y,Ab.Sub h (upd (upd h i2 x) i3 y):=fun x y=>((Sub.refl h).put h2 x).put n3 y
 simp only[go_sem,aj,n32.symm];refine(hl1 _ i3 i2 (ah ..) (by grind [ag,ah])).pthen ?_
 simp only[go_sem];exact adZ
theorem Ie(s:an)(o:OpD)(m:aT)(hm9:M9 m)(hn:s.reviews.length≤1000000)(hro:s.roles.length≤1000000)(ht:0≤s.tick∧s.tick≤1099511627776)(hr:gW s)(h:Heap):ai Tryz.prog 71 [cg s,opA o,aQ m] h fun x h' =>x= .b (sY s o m)∧h' =h:=by
 have hla:=fun G=>NS s o.subj hn ht hr G
 have hha:=fun G=>FB (rdS G s) o.subj BX aco
 have hbd:sY s o m=(o.glass && (m==cI||m==naM) && yh s.roles ⟨o.subj,BX⟩ && !Lt s o.subj):=rfl
 have de:=(nb hm9).de;have na:=(nb hm9).na;have hst:=oc s;obtain⟨tick,cs,rv,nt,ro,⟨pid,pset,palg,ptgt,prules,pkids,pobls⟩,ver⟩:=s;rw[hst]at hla hha⊢;simp only[sL,BX]at hla hha hbd⊢;refine acn Tryz.func71 30 [.tmp 6] fun hwf=>?_
 simp only[go_sem,opA,opC,aQ];intro i3 h3;simp only[go_sem];intro i4 h4;have n43:=aH h4;have n4:=aC h4;have hs:∀x y,Ab.Sub h (upd (upd h i3 x) i4 y):=fun x y=>((Sub.refl h).put h3 x).put n4 y
 cases dg:o.glass
 ·simp only[go_sem]
  exact .mk _ (.refl _) (hs _ _) ⟨by rw[hbd,dg];rfl,rfl⟩
 cases d1:(m==cI)<;>cases d2:(m==naM)
 case false.false=>
  simp only[go_sem,de,na,d1,d2];exact .mk _ (.refl _) (hs _ _) ⟨by rw[hbd,dg,d1,d2];rfl,rfl⟩
 all_goals
  simp only[go_sem,aj,n43.symm,de,na,d1,d2];refine(hha _).pthen ?_;cases dh:yh ro ⟨o.subj,[103,108,97,115,115]⟩
  ·simp only[go_sem]
   exact .mk _ (.refl _) (hs _ _) ⟨by rw[hbd,dg,d1,d2,dh];rfl,rfl⟩
  ·simp only[go_sem,aj,n43.symm]
   refine(hla _).pthen ?_;simp only[go_sem];exact .mk _ (.refl _) (hs _ _) ⟨by rw[hbd,dg,d1,d2,dh];rfl,rfl⟩
theorem I2{h:Heap}(x:cD){k:Nat}{field:Txt}(hk:h k=some (.obj [.s field] 9)):ai Tryz.prog 138 [aW x,.ptr k 0] h fun r h' =>r= .b (x.kind==2 && x.arg==field)∧h' =h:=by
 refine acn Tryz.func138 13 [.tmp 3] fun hwf=>?_
 simp only[go_sem,aW];intro i2 h2;have n2:i2≠k:=fun e=>acp
 cases d1:(x.kind==2)
 all_goals
  simp only[go_sem,aj,n2.symm,hk,d1];exact .mk _ (.refl _) (.ak h2) ⟨rfl,rfl⟩
theorem Lb(l:List cD)(hl:l.length≤1000000000)(field:Txt)(h:Heap):ai Tryz.prog 75 [ay l,.s field] h fun r h' =>r= .b (jK l field)∧h' =h:=by
 refine acn Tryz.func75 8 [.tmp 4] fun hwf=>?_
 simp only[go_sem,ay];intro i3 h3;simp only[go_sem];refine(IZ (.sl (l.map aW) .no) l (fun x=>x.kind==2 && x.arg==field) _ [.ptr i3 0] _ (eJ aW 3 (fun _=>rfl) _ _) hl fun i h2=>I2 _ (ah ..)).pthen ?_
 simp only[go_sem];exact .mk _ (.refl _) (.ak h3) ⟨rfl,rfl⟩
theorem LR{h:Heap}{x:AV}{c:aJ}(hb:RdC h x c):ai Tryz.prog 144 [x] h fun r h' =>r= .b (decide (256<c.log.length))∧h' =h:=by
 obtain⟨f,l,rfl,hf,hl⟩:=hb;have e:decide ((256:Int)<(c.log.length:Int))=decide (256<c.log.length):=by
  grind
 refine acn Tryz.func144 7 [.tmp 2] fun hwf=>?_
 simp only[go_sem];intro i1 h1;simp only[go_sem,hl.len,acd,e];exact acH
theorem LU{h:Heap}{x:AV}{s:an}(hb:RdS h x s)(hc:s.cases.length≤1000000):ai Tryz.prog 79 [x] h fun r h' =>r= .b (rT s)∧h' =h:=by
 obtain⟨y1,y2,y3,y4,rfl,⟨xs,hx,hn,hcs⟩,h2,h3,h4⟩:=hb;have hod:rT s=(decide (256<s.reviews.length)||decide (256<s.notices.length)||s.cases.any fun c=>decide (256<c.log.length)):=rfl
 have e2:decide ((256:Int)<(s.reviews.length:Int))=decide (256<s.reviews.length):=by
  grind
 have e3:decide ((256:Int)<(s.notices.length:Int))=decide (256<s.notices.length):=by
  grind
 have hca:=fun(G:Heap) (hG:Ab.Sub h G)=>Fy y1 xs s.cases (fun c=>decide (256<c.log.length)) 144 [] G (hx.sub hG) hn aco (zG.agg hn hcs) fun i a b=>LR ((hcs i a b).sub hG)
 cases hpp:s.policy with
 |mk pid pset palg ptgt prules pkids pobls=>
 refine acn Tryz.func79 18 [.tmp 2] fun hwf=>?_
 simp only[go_sem,fV,aP,List.cons_append,List.nil_append];intro i1 h1;cases d2:decide (256<s.reviews.length)
 case true=>
  simp only[go_sem,h2.len,acd,e2,d2];exact .mk _ (.refl _) (.ak h1) ⟨by rw[hod,d2];rfl,rfl⟩
 cases d3:decide (256<s.notices.length)
 case true=>
  simp only[go_sem,h2.len,h3.len,acd,e2,e3,d2,d3];exact .mk _ (.refl _) (.ak h1) ⟨by rw[hod,d2,d3];rfl,rfl⟩
 simp only[go_sem,h2.len,h3.len,acd,e2,e3,d2,d3];refine(hca _ (.ak h1)).pthen ?_;simp only[go_sem];exact .mk _ (.refl _) (.ak h1) ⟨by rw[hod,d2,d3];rfl,rfl⟩
theorem Lz{h:Heap}{x:AV}{c:aJ}(hb:RdC h x c){k:Nat}{o:OpD}(hk:h k=some (.obj (opC o) 32)):ai Tryz.prog 185 [x,.ptr k 0] h fun r h' =>r= .b (c.id==o.case)∧h' =h:=by
 obtain⟨f,l,rfl,hf,hl⟩:=hb;simp only[opC]at hk;refine acn Tryz.func185 9 [.tmp 3] fun hwf=>?_
 simp only[go_sem];exact agS
end Go.Proofs.YtcochaoekecfdaaGreatDoor
namespace Go.Ab
open Go
theorem OwE.more{tb:TypeId}{g h0 h:Heap}{sz:Nat}{y:AV}{xs:List AV}(hw:OwE tb h0 h sz y xs)(hg:∀id,h0 id=Option.none→h id≠Option.none→g id=Option.none):OwE tb g h sz y xs:=by
 rcases hw with hw|⟨id,e,hw⟩
 ·exact agl
 ·exact .inr ⟨id,hg _ e hw.none,hw⟩
end Go.Ab
namespace Go.Proofs.YtcochaoekecfdaaGreatDoor
open Go Go.Ab Go.Bf
theorem fh.more{g h0 h:Heap}{ys:List AV}{x:AV}{c:aJ}(hm:fh h0 h ys x c)(hg:∀id,h0 id=none→h id≠none→g id=none):fh g h ys x c:=by
 obtain⟨f,l,e,a,b,c⟩:=hm;exact⟨f,l,e,a.more hg,b.more hg,c⟩
theorem lQ.more{g h0 h:Heap}{ys:List AV}{y:AV}{cs:List aJ}{i0:Nat}(ho:lQ h0 h ys y cs i0)(hg:∀id,h0 id=none→h id≠none→g id=none):lQ g h ys y cs i0:=by
 obtain⟨xs,a,b,c,d⟩:=ho;exact⟨xs,a.more hg,b,c,fun h1 h2=>(d h1 h2).more hg⟩
theorem OwR.more{g h0 h:Heap}{y:AV}{rs:List gj}(hr:OwR h0 h y rs)(hg:∀id,h0 id=none→h id≠none→g id=none):OwR g h y rs:=by
 rcases hr with hr|hr
 ·exact .inl hr
 ·exact .inr (hr.more hg)
theorem iD.more{g h0 h:Heap}{y1 y2 y3 y4:AV}{s:an}{j:Nat}(ho:iD h0 h y1 y2 y3 y4 s j)(hg:∀id,h0 id=none→h id≠none→g id=none):iD g h y1 y2 y3 y4 s j:=
 {ho with cs:=ho.cs.more hg,rv:=ho.rv.more hg,nt:=ho.nt.more hg,rl:=ho.rl.more hg}
def GSt(g H:Heap)(k:Nat)(s:an)(j:Nat):Prop:=∃y1 y2 y3 y4,H k=some (.obj (stC s y1 y2 y3 y4) 67)∧iD g H y1 y2 y3 y4 s j∧g k≠none∧∀i b,i≠k→g i=some b→H i=some b
theorem GSt.box{g H:Heap}{k:Nat}{s:an}{j:Nat}(hG:GSt g H k s j){i:Nat}(hi:H i=none)(b:Blk):GSt (upd g i (some b)) (upd H i (some b)) k s j:=by
 obtain⟨y1,y2,y3,y4,hk,ho,hgk,hfr⟩:=hG;refine⟨y1,y2,y3,y4,acZ,(ho.more (g:=upd g i (some b)) fun id h0 hne=>?_).keep fun id _ hne=>ag _ _ fun e=>hne acp,acZ,fun q c hq hc=>?_⟩
 ·grind [ag]
 grind [ah,ag]
theorem GSt.unbox{g H:Heap}{k:Nat}{s:an}{j:Nat}{i:Nat}{b:Blk}(hG:GSt (upd g i (some b)) H k s j)(hi:i≠k)(hgi:g i=none):GSt g H k s j∧H i=some b:=by
 obtain⟨y1,y2,y3,y4,hk,ho,hgk,hfr⟩:=hG;refine⟨⟨y1,y2,y3,y4,hk,ho.bN fun q hq=>?_,acZ,fun q c hq hc=>hfr q c hq ?_⟩,hfr i b hi (ah ..)⟩
 ·grind [ag]
 grind [ag]
theorem GSt.base{g H:Heap}{k:Nat}{s:an}{j:Nat}(hG:GSt g H k s j):∃G,Ab.Sub G H∧(∀i,G i=none↔g i=none)∧∀i,i≠k→G i=g i:=by
 obtain⟨y1,y2,y3,y4,hk,ho,hgk,hfr⟩:=hG;refine⟨upd g k (H k),fun i b hi=>?_,fun i=>?_,fun i hi=>ag _ _ hi⟩
 ·grind [ah,ag]
 grind [ah,ag]
theorem GSt.rd{g H:Heap}{k:Nat}{s:an}{j:Nat}(hG:GSt g H k s j):∃y1 y2 y3 y4,H k=some (.obj (stC s y1 y2 y3 y4) 67)∧RdS H (.agg (stC s y1 y2 y3 y4)) s:=by
 obtain⟨y1,y2,y3,y4,hk,ho,_⟩:=hG;exact⟨y1,y2,y3,y4,hk,ho.rd⟩
theorem DM{g H:Heap}{k:Nat}{s:an}{j:Nat}(hG:GSt g H k s j)(o:OpD)(w:Txt)(hk64:i64 o.kind)(hn:s.reviews.length≤1000000000):
  ai Tryz.prog 73 [.ptr k 0,opA o,.s w] H fun r H' =>GSt g H' k (ck s o w) j:=by
 obtain⟨G,sG,nG,oG⟩:=hG.base;obtain⟨y1,y2,y3,y4,hk,ho,hgk,hfr⟩:=hG;have ho2:iD G H y1 y2 y3 y4 s j:=ho.bN fun i hi=>(nG i).2 hi
 have w1:IntKind.i64.wrap ((s.reviews.length:Int)+1)=(s.reviews.length:Int)+1:=aY _ aco;obtain⟨pid,pset,palg,ptgt,prules,pkids,pobls,hpp⟩:∃a b c d e f g,s.policy= .mk a b c d e f g:=by cases s.policy;simp
 have hst:∀z,stC (ck s o w) y1 z y3 y4= [.i s.tick,y1,z,y3,y4,.s pid,.b pset,.i palg,aS ptgt,.sl (prules.map aA) .no,.sl (pkids.map aK) .no,ay pobls,.i s.version]:=fun z=>by simp[stC,ck,hpp,fV,aP]
 have hst0:stC s y1 y2 y3 y4= [.i s.tick,y1,y2,y3,y4,.s pid,.b pset,.i palg,aS ptgt,.sl (prules.map aA) .no,.sl (pkids.map aK) .no,ay pobls,.i s.version]:=agb;rw[hst0]at hk;refine acn Tryz.func73 34 [] fun hwf=>?_
 simp only[go_sem,opA,opC];intro i4 h4;have n4k:i4≠k:=fun e=>acp
 simp only[go_sem];obtain⟨K,eK⟩:∃K,upd H i4 (some (.obj [.i o.kind,.s o.subj,.s o.case,.s o.field,.s o.to,.i o.val.kind,.i o.val.n,.s o.val.s,.i o.review,.s o.text,.s o.reason,.b o.glass] 32))=K:=⟨_,rfl⟩;have sK:Ab.Sub H K:=by rw[←eK];exact .ak h4
 have k4:K i4=some (.obj [.i o.kind,.s o.subj,.s o.case,.s o.field,.s o.to,.i o.val.kind,.i o.val.n,.s o.val.s,.i o.review,.s o.text,.s o.reason,.b o.glass] 32):=by rw[←eK,ah]
 have kk:=sK _ _ hk;have hoK:iD G K y1 y2 y3 y4 s j:=ho2.keep fun id _ hne=>by rw[←eK];grind [ag]
 rw[eK];have p4:=(bC (H:=K) (l:=[k,i4]) (show i4∈ [k,i4] by simp)).trans k4
 have pk:=(bC (H:=K) (l:=[k,i4]) (show k∈ [k,i4] by simp)).trans kk
 refine .stage (pick K [k,i4]) [0,1,2,3,4,5,6,7,8,9,10,11,12,13,14,15,16,17,18,19,20,22,21,23,24,25,26,27] [28] bx acs ?_;simp only[go_sem,pk,p4,hoK.rv.rd.len,acd,w1];refine(Am o.kind hk64 _).pthen ?_;refine⟨bx,?_⟩;simp only[go_sem];have hap1:Rd K 7 (.sl [fY (Bb s o w)] .full) [fY (Bb s o w)]:=.sl adb .full;refine OwE.app (U:=U) (tb:=143) hoK.rv (sG.trans sK) hap1 acF acr acr acF acw acW fun id y' K2 hid hor how hoth=>?_
 have hor' :K id=none∨nid y2=some id:=by
  rcases hor with hor|⟨l,c,ey⟩
  ·grind
  ·exact .inr afS
 have nik:k≠id:=fun e=>hgk ((nG k).1 acp)
 have ni4:i4≠id:=by
  rcases hor' with hor|hor
  ·grind
  ·exact fun e=>(ho2.rv.nid hor).2.1 acp
 have m4:=(hoth i4 ni4).trans k4;have mk:=(hoth k nik).trans kk;refine⟨iG fun q hq=>?_,?_⟩
 ·grind
 simp only[go_sem];refine⟨cQ,fun _ _ e=>acR,?_⟩
 simp only[go_sem,mk,how.rd.fit,how.rd.cells];refine⟨fun _ _ e=>acR,?_⟩
 refine .same (.refl _) ⟨y1,y',y3,y4,agq,iD.bN (h0:=G) ?_ fun i hi=>(nG i).1 hi,hgk,fun i b hi hb=>?_⟩
 ·refine hoK.revs (rs:=s.reviews++ [Bb s o w]) (.inr ⟨id,hid,by rw[List.map_append];exact how.same (ag _ _ nik.symm)⟩) (fun q hq=>?_) fun q hq hne hz=>?_
  ·have:id=q:=by have:=how.nid;rw[hq]at this;exact(Option.some.inj this).symm
   rw[←this];exact hor'
  grind [ag]
 ·have n2:i≠id:=fun e=>by
   grind
  rw[ag _ _ hi,hoth i n2];exact sK _ _ (hfr i b hi hb)
end Go.Proofs.YtcochaoekecfdaaGreatDoor
namespace Go.Bf
open Go Go.Ab Go.Proofs.YtcochaoekecfdaaGreatDoor
theorem DA{s:an}{o:OpD}{w:Txt}(h:¬(iF s.cases o.case<s.cases.length∧o.kind≠6)):iK s o w=s:=by simp_all [iK,if_neg]
theorem LA{s:an}{o:OpD}{w:Txt}{j:Nat}(h1:iF s.cases o.case<s.cases.length)(h2:o.kind≠6)(e:iF s.cases o.case=j):iK s o w= {s with cases:=s.cases.modify j fun c=>jj s c o.subj w}:=by simp_all [iK,if_pos]
end Go.Bf
namespace Go.Proofs.YtcochaoekecfdaaGreatDoor
open Go Go.Ab Go.Bf
theorem LB{g H:Heap}{k:Nat}{s:an}{j:Nat}(hG:GSt g H k s j)(o:OpD)(w:Txt)(hc:s.cases.length≤1000000)(hl:∀c∈s.cases,c.log.length≤1000000000)(hj:iF s.cases o.case<s.cases.length→o.kind≠6→j=iF s.cases o.case):
  ai Tryz.prog 142 [.ptr k 0,opA o,.s w] H fun r H' =>GSt g H' k (iK s o w) j:=by
 obtain⟨G,sG,nG,oG⟩:=hG.base;obtain⟨y1,y2,y3,y4,hk,ho,hgk,hfr⟩:=hG;have ho2:iD G H y1 y2 y3 y4 s j:=ho.bN fun i hi=>(nG i).2 hi
 obtain⟨pid,pset,palg,ptgt,prules,pkids,pobls,hpp⟩:∃a b c d e f g,s.policy= .mk a b c d e f g:=by cases s.policy;exact⟨_,_,_,_,_,_,_,rfl⟩
 have hst0:stC s y1 y2 y3 y4= [.i s.tick,y1,y2,y3,y4,.s pid,.b pset,.i palg,aS ptgt,.sl (prules.map aA) .no,.sl (pkids.map aK) .no,ay pobls,.i s.version]:=agb;rw[hst0]at hk;refine acn Tryz.func142 44 [] fun hwf=>?_
 simp only[go_sem,opA,opC];intro i4 h4;have n4k:i4≠k:=fun e=>by rw[e,hk]at h4;cases h4
 obtain⟨K,eK⟩:∃K,upd H i4 (some (.obj [.i o.kind,.s o.subj,.s o.case,.s o.field,.s o.to,.i o.val.kind,.i o.val.n,.s o.val.s,.i o.review,.s o.text,.s o.reason,.b o.glass] 32))=K:=⟨_,rfl⟩;have sK:Ab.Sub H K:=by rw[←eK];exact .ak h4
 have k4:K i4=some (.obj [.i o.kind,.s o.subj,.s o.case,.s o.field,.s o.to,.i o.val.kind,.i o.val.n,.s o.val.s,.i o.review,.s o.text,.s o.reason,.b o.glass] 32):=by rw[←eK,ah]
 have kk:=sK _ _ hk;have hoK:iD G K y1 y2 y3 y4 s j:=ho2.keep fun id _ hne=>by rw[←eK];exact ag _ _ fun e=>hne (by rw[e];exact h4)
 have hfin:GSt g K k s j:=⟨y1,y2,y3,y4,by rw[hst0];exact kk,hoK.bN fun i hi=>(nG i).1 hi,hgk,fun i b hi hb=>sK _ _ (hfr i b hi hb)⟩
 have hix:ai Tryz.prog 168 [y1,.fn 185 [.ptr i4 0]] K fun r h' =>r= .i (ixD (fun c:aJ=>c.id==o.case) s.cases)∧h' =K:=by
  obtain⟨xs,hx,hn,hcs⟩:=hoK.cs.rd;exact uW y1 xs s.cases (fun c=>c.id==o.case) _ [.ptr i4 0] K hx hn aco (zG.agg hn hcs) fun i a b=>Lz (hcs i a b) k4
 have hcsK:=hoK.cs;have n4G:∀id,G id=none→K id≠none→id≠i4→H id=K id:=fun id _ _ h=>by rw[←eK,ag _ _ h]
 simp only[go_sem,aj,n4k.symm,hk];rw[eK];refine hix.pthen ?_
 by_cases hx:iF s.cases o.case<s.cases.length
 case neg=>
  have e1:ixD (fun c:aJ=>c.id==o.case) s.cases= -1:=if_neg hx
  have d1:decide ((-1:Int)<0)=true:=rfl;rw[e1];simp only[go_sem,d1];exact .same (.refl _) (by rw[DA fun h=>hx h.1];exact hfin)
 have e1:ixD (fun c:aJ=>c.id==o.case) s.cases=(iF s.cases o.case:Nat):=if_pos hx
 have d1:decide (((iF s.cases o.case:Nat):Int)<0)=false:=decide_eq_false aco;rw[e1];cases d6:(o.kind==6)
 case true=>
  have h6:o.kind=6:=by simpa using d6
  simp only[go_sem,d1,k4,d6];exact .same (.refl _) (by rw[DA fun h=>h.2 h6];exact hfin)
 have h6:o.kind≠6:=by simpa using d6
 have hjj:=hj hx h6;have hlo:=LA (w:=w) hx h6 hjj.symm;have hjc:j<s.cases.length:=by rw[hjj];exact hx
 rw[←hjj]at d1⊢;rw[hlo];obtain⟨xs,w1,hnx,hlw,hmy⟩:=hcsK;have hjx:j<xs.length:=aco;obtain⟨f,l,ex,of,ol,hap,hys⟩:=hmy hjx hjc;obtain⟨id1,hg1,o1⟩:=w1.ow afg;have o1' :=o1;obtain⟨cap,rest,ey,hid,hrl,hcap,hsz⟩:=o1';have lA:j*5=(aq (xs.take j)).length:=adv;have hidK:K id1=some (.obj (aq (xs.take j)++(cj s.cases[j] f l++(aq (xs.drop (j+1))++rest))) 134):=by
  rw[hid,BU hjx,ex];simp[cj,AV.cells]
 have n1k:id1≠k:=lO o1 kk acr;have n14:id1≠i4:=lO o1 k4 acr;have hll:=hl _ (aci hjc);have p4:=(bC (H:=K) (l:=[k,i4,id1]) (show i4∈ [k,i4,id1] by simp)).trans k4
 have pk:=(bC (H:=K) (l:=[k,i4,id1]) (show k∈ [k,i4,id1] by simp)).trans kk
 have p1:=(bC (H:=K) (l:=[k,i4,id1]) (show id1∈ [k,i4,id1] by simp)).trans hidK
 have hc4:(aq (xs.take j)++(cj s.cases[j] f l++(aq (xs.drop (j+1))++rest)))[j*5+4]? =some l:=by rw[lA,List.getElem?_append_right aco,Nat.add_sub_cancel_left];rfl
 obtain⟨CS,eCS⟩:∃CS,aq (xs.take j)++(cj s.cases[j] f l++(aq (xs.drop (j+1))++rest))=CS:=⟨_,rfl⟩;rw[eCS]at hc4 p1 hidK;simp only[go_sem,d1,k4,d6,kk];refine o1.idx (U:=U) (e:=134) j rfl hjx nq acr ?_;simp only[go_sem];refine .stage (pick K [k,i4,id1]) [0,1,2,3,4,5,6,7,8,9,10,11,12,13,14,15,16] [17] bx acs ?_;simp only[go_sem,pk,p4,p1,hc4];have hap1:Rd K 3 (.sl [fU ⟨s.tick,o.subj,w⟩] .full) [fU ⟨s.tick,o.subj,w⟩]:=.sl adb .full;refine OwE.app (U:=U) (tb:=205) ol (sG.trans sK) hap1 acA acr acu acA acw acW fun id2 y' K2 g2 hor how hoth=>?_
 have hor' :K id2=none∨nid l=some id2:=by
  exact ahb
 have n2:∀ {q b t},K q=some (.obj b t)→t≠205→q≠id2:=fun {q b t} hq ht e=>by
  rcases hor' with h|h
  ·rw[e,h]at hq;cases hq
  ·exact lO (ol.nid h).2.2 hq ht e.symm
 have m4:=(hoth i4 (n2 k4 acr)).trans k4;have mk:=(hoth k (n2 kk acr)).trans kk;have m1:=(hoth id1 (n2 hidK acr)).trans hidK;refine⟨iG fun q hq=>?_,?_⟩
 ·simp only[List.mem_cons,List.not_mem_nil,or_false]at hq
  rcases hq with rfl|rfl|rfl
  ·rw[mk,kk]
  ·rw[m4,k4]
  ·rw[m1,hidK]
 simp only[go_sem];refine⟨cQ,fun _ _ e=>acR,?_⟩
 simp only[go_sem,m1,how.rd.fit,how.rd.cells];have e5:List.take (j*5+4) CS++ [y']++List.drop (j*5+4+1) CS=aq (xs.take j)++(cj s.cases[j] f y' ++(aq (xs.drop (j+1))++rest)):=by
  have:=oR (A:=aq (xs.take j)++ [.s s.cases[j].id,.s s.cases[j].owner,.s s.cases[j].state,f]) (B:=[l]) (C:=aq (xs.drop (j+1))++rest) (X:=[y']) (k:=j*5+4) (m:=1) (by rw[lA];simp) rfl rfl
  exact ah8
 rw[e5];refine⟨by rw[←eCS];simp only[ach,←lA,cj,List.length_cons,List.length_nil];omega,(fun _ _ e=>acR),?_⟩
 obtain⟨F,eF⟩:∃F,upd K2 id1 (some (.obj (aq (xs.take j)++(cj s.cases[j] f y' ++(aq (xs.drop (j+1))++rest))) 134))=F:=⟨_,rfl⟩;have kF:∀q,q≠id1→q≠id2→F q=K q:=fun q a b=>by rw[←eF,ag _ _ a,hoth q b]
 have kF' :∀q,K q≠none→q≠id1→nid l≠some q→F q=K q:=fun q a b c=>kF q b fun e=>by
  rcases hor' with h|h
  ·exact a (by rw[e];exact h)
  ·exact c (by rw[e];exact h)
 have hF1:F id1=some (.obj (aq (xs.take j)++(cj s.cases[j] f y' ++(aq (xs.drop (j+1))++rest))) 134):=by rw[←eF,ah]
 have n12:id1≠id2:=n2 hidK acr;have hX5:Sized 5 (xs.set j (.agg (cj s.cases[j] f y'))):=fun z hz=>by
  exact ahi
 have hOw:Ow 134 F 5 id1 y1 (xs.set j (.agg (cj s.cases[j] f y'))):=⟨cap,rest,aeE,by rw[hF1,tv hjx];simp[AV.cells],afw,aew,hX5⟩
 have hl' :OwE 205 G F 3 y' ((s.cases[j].log++ [(⟨s.tick,o.subj,w⟩:uy)]).map fU):=by
  rw[List.map_append];exact .inr ⟨id2,g2,how.same (by rw[←eF,ag _ _ n12.symm])⟩
 have hny:∀q,nid y' =some q→q=id2:=fun q hq=>by have:=how.nid;rw[hq]at this;exact Option.some.inj this
 have nf1:nid f≠some id1:=fun e=>(hys y1 acw).1 id1 e o1.nid
 have hof:OwE 215 G F 4 f (s.cases[j].fields.map bz):=of.keep fun q e=>kF' q (of.nid e).2.1 (fun e' =>nf1 (by rw[←e'];exact e)) (hap q e)
 have hnid:∀ {y:AV},y∈ [y1,y2,y3,y4]→∀q,nid y=some q→K q≠none:=fun hy q e=>(hoK.mem hy e).2
 have hap2:∀ {y:AV},y∈ [y1,y2,y3,y4]→apart y' y:=fun {y} hy q e1 e2=>by
  have:=hny q e1;subst this;rcases hor' with h|h
  ·exact hnid hy _ e2 h
  ·exact(hys y hy).2 _ h e2
 have hkp:∀ {y:AV},y∈ [y2,y3,y4]→apart y1 y→∀q,nid y=some q→F q=K q:=fun {y} hy ha q e=>by
  have hy' :y∈ [y1,y2,y3,y4]:=List.mem_cons_of_mem _ hy;refine kF' q (hnid hy' q e) (fun e' =>ha id1 o1.nid (by rw[←e'];exact e)) fun e' =>(hys y hy').2 q e' e
 rw[eF];refine .same (.refl _) ⟨y1,y2,y3,y4,?_,iD.bN (h0:=G) ?_ fun i hi=>(nG i).1 hi,hgk,fun i b hi hb=>?_⟩
 ·rw[kF k n1k.symm (n2 kk acr),kk]
  simp[stC,hpp,fV,aP]
 ·refine⟨B9 (X:=.agg (cj s.cases[j] f y')) (.inr ⟨id1,hg1,hOw⟩) hnx (fun q h1 h2 hq=>hlw q h1 h2 hq) fun hh=>⟨f,y',rfl,hof,hl',fun q e1 e2=>?_,fun y hy=>⟨(hys y hy).1,hap2 hy⟩⟩,hoK.rv.keep (hkp acw hoK.a12),hoK.nt.keep (hkp acw hoK.a13),hoK.rl.keep (hkp acw hoK.a14),hoK.a12,hoK.a13,hoK.a14,hoK.a23,hoK.a24,hoK.a34⟩
  have:=hny q e2;subst this;rcases hor' with h|h
  ·exact(of.nid e1).2.1 h
  ·exact hap _ e1 h
 ·have hGi:G i=some b:=by rw[oG i hi];exact hb
  rw[kF i (fun e=>by rw[e,hg1]at hGi;cases hGi) (fun e=>by rw[e,g2]at hGi;cases hGi)]
  exact sK _ _ (hfr i b hi hb)
end Go.Proofs.YtcochaoekecfdaaGreatDoor
namespace Go.Bf
open Go Go.Ab Go.Proofs.YtcochaoekecfdaaGreatDoor
def rO(B:Nat)(s:an):Prop:=(∀c∈s.cases,c.log.length≤B)∧s.reviews.length≤B∧s.notices.length≤B
theorem rO.up{B C:Nat}{s:an}(h:rO B s)(hc:B≤C):rO C s:=⟨fun c hcc=>Nat.le_trans (h.1 c hcc) hc,Nat.le_trans h.2.1 hc,Nat.le_trans h.2.2 hc⟩
theorem IT{B:Nat}{s:an}(o:OpD)(done:Bool)(x:cD)(h:rO B s):rO (B+1) (fq o done s x):=by
 unfold fq;split
 ·unfold iK
  split
  ·refine⟨fun c hc=>?_,Nat.le_succ_of_le h.2.1,Nat.le_succ_of_le h.2.2⟩
   rcases mem_modify hc with hc|⟨hi,rfl⟩
   ·exact Nat.le_succ_of_le (h.1 c hc)
   ·have:=h.1 _ (aci hi)
    simp only[jj,ach,List.length_singleton];omega
  ·exact h.up aco
 ·split
  ·refine⟨fun c hc=>Nat.le_succ_of_le (h.1 c hc),?_,Nat.le_succ_of_le h.2.2⟩
   have:=h.2.1;simp only[ck,ach,List.length_singleton];omega
  ·split
   ·refine⟨fun c hc=>Nat.le_succ_of_le (h.1 c hc),Nat.le_succ_of_le h.2.1,?_⟩
    have:=h.2.2;simp only[ach,List.length_singleton];omega
   ·exact h.up aco
theorem vX(o:OpD)(done:Bool):∀(l:List cD) {B:Nat} {s:an},rO B s→rO (B+l.length) (dF s o l done)
 | [],B,s,h=>h
 |x::l,B,s,h=>(vX o done l (IT o done x h)).up acp
theorem CX(s:an)(o:OpD)(done:Bool){l:List cD}{i:Nat}(h:i<l.length):dF s o (l.take (i+1)) done=fq o done (dF s o (l.take i) done) l[i]:=by
 grind [dF,List.take_succ_eq_append_getElem]
theorem wg(o:OpD)(done:Bool)(id:Txt):∀(l:List cD) (s:an),iF (dF s o l done).cases id=iF s.cases id∧(dF s o l done).cases.length=s.cases.length
 | [],s=>⟨rfl,rfl⟩
 |x::l,s=>by
  obtain⟨a1,a2⟩:=I6 o done s x id;obtain⟨b1,b2⟩:=wg o done id l (fq o done s x);exact⟨b1.trans a1,b2.trans a2⟩
theorem Ir{o:OpD}{s:an}{x:cD}(h:x.kind=1):fq o true s x=iK s o x.arg:=by unfold fq;grind
theorem Fc{o:OpD}{done:Bool}{s:an}{x:cD}(h:x.kind=3):fq o done s x=ck s o x.arg:=by simp_all [fq,if_neg,if_pos]
theorem Fe{o:OpD}{done:Bool}{s:an}{x:cD}(h:x.kind=4):fq o done s x= {s with notices:=s.notices++ [⟨s.tick,o.case,x.arg⟩]}:=by simp_all [fq,if_neg,if_pos]
theorem CY{o:OpD}{done:Bool}{s:an}{x:cD}(h1:¬(x.kind=1∧done=true))(h3:x.kind≠3)(h4:x.kind≠4):fq o done s x=s:=by simp_all [fq,if_neg]
end Go.Bf
namespace Go.Proofs.YtcochaoekecfdaaGreatDoor
open Go Go.Ab Go.Bf
theorem E9{g H:Heap}{k:Nat}{s:an}{j:Nat}(hG:GSt g H k s j)(o:OpD)(hk64:i64 o.kind)(l:List cD)(hll:l.length≤100000000)(done:Bool)(hc:s.cases.length≤1000000)(hgr:rO 1000 s)(hj:done=true→iF s.cases o.case<s.cases.length→o.kind≠6→j=iF s.cases o.case):
  ai Tryz.prog 78 [.ptr k 0,opA o,ay l,.b done] H fun r H' =>GSt g H' k (dF s o l done) j:=by
 have hkn:H k≠none:=by obtain⟨y1,y2,y3,y4,hk,_⟩:=hG;rw[hk];simp
 refine acn Tryz.func78 60 [] fun hwf=>?_
 simp only[go_sem,opA,opC,ay];intro i5 h5;have n5k:i5≠k:=fun e=>hkn (by rw[←e];exact h5)
 have hg5:g i5=none:=by
  obtain⟨y1,y2,y3,y4,hk,ho,hgk,hfr⟩:=hG;cases hh:g i5 with
  |none=>rfl
  |some b=>have:=hfr i5 b n5k hh;rw[h5]at this;cases this
 have hG5:=hG.box h5 (.obj [.i o.kind,.s o.subj,.s o.case,.s o.field,.s o.to,.i o.val.kind,.i o.val.n,.s o.val.s,.i o.review,.s o.text,.s o.reason,.b o.glass] 32);obtain⟨g5,eg5⟩:∃g5,upd g i5 (some (.obj [.i o.kind,.s o.subj,.s o.case,.s o.field,.s o.to,.i o.val.kind,.i o.val.n,.s o.val.s,.i o.review,.s o.text,.s o.reason,.b o.glass] 32))=g5:=⟨_,rfl⟩;have g55:g5 i5=some (.obj [.i o.kind,.s o.subj,.s o.case,.s o.field,.s o.to,.i o.val.kind,.i o.val.n,.s o.val.s,.i o.review,.s o.text,.s o.reason,.b o.glass] 32):=by rw[←eg5,ah]
 rw[eg5]at hG5;have hback:∀ {H' :Heap} {s' :an},GSt g5 H' k s' j→GSt g H' k s' j:=fun {H' s'} h=>by
  rw[←eg5]at h;exact(h.unbox n5k hg5).1
 have hgk5:g5 k≠none:=by obtain⟨_,_,_,_,_,_,h,_⟩:=hG5;exact h
 simp only[go_sem,acd];refine .intro (fun m ρ H2=>∃i:Nat,GSt g5 H2 k (dF s o (l.take i) done) j∧i≤l.length∧m=l.length - i∧lk ρ 0=some (.ptr k 0)∧lk ρ 3=some (.b done)∧lk ρ 5=some (.ptr i5 0)∧lk ρ 10=some (.sl (l.map aW) .no)∧lk ρ 11=some (.i l.length)∧lk ρ 12=some (.i i)) l.length ?_ ?_
 ·refine⟨0,hG5,aco,rfl,?_,?_,?_,?_,?_,?_⟩<;>simp only[go_sem]
 ·rintro m ρ H2 ⟨i,hS,hi,rfl,r0,r3,r5,r10,r11,r12⟩
  simp only[go_sem,r11,r12];refine .intro (fun e=>?_) (fun e=>?_)
  ·have hlt:i<l.length:=ack e
   have w1:=acj i aco;have hsn:=CX s o done hlt;have hgi:=vX o done (l.take i) hgr;have hgi:rO 1000000000 (dF s o (l.take i) done):=hgi.up aek;obtain⟨hix,hcl⟩:=wg o done o.case (l.take i) s;have ix:=fun k=>fc.eq (xs:=l.map aW) (sz:=3) i acN acz k
   rw[ace]at ix;obtain⟨x,ex⟩:∃x,l[i]=x:=⟨_,rfl⟩;rw[ex]at ix hsn;obtain⟨t,et⟩:∃t,dF s o (l.take i) done=t:=⟨_,rfl⟩;rw[et]at hS hsn hgi hix hcl;have hjt:done=true→iF t.cases o.case<t.cases.length→o.kind≠6→j=iF t.cases o.case:=fun a b c=>by rw[hix]at b⊢;rw[hcl]at b;exact hj a b c
   simp only[aW]at ix;simp only[go_sem,r10,r12,ix];intro i9 h9;have kkn:H2 k≠none:=by obtain⟨y1,y2,y3,y4,hk,_⟩:=hS;rw[hk];simp
   have n9k:i9≠k:=fun e=>kkn (by rw[←e];exact h9)
   have hg9:g5 i9=none:=by
    obtain⟨y1,y2,y3,y4,hk,ho,hgk,hfr⟩:=hS;cases hh:g5 i9 with
    |none=>rfl
    |some b=>have:=hfr i9 b n9k hh;rw[h9]at this;cases this
   have n95:i9≠i5:=fun e=>by rw[e,g55]at hg9;cases hg9
   have k5:H2 i5=some (.obj [.i o.kind,.s o.subj,.s o.case,.s o.field,.s o.to,.i o.val.kind,.i o.val.n,.s o.val.s,.i o.review,.s o.text,.s o.reason,.b o.glass] 32):=by obtain⟨_,_,_,_,_,_,_,hfr⟩:=hS;exact hfr i5 _ n5k g55
   have hS9:=hS.box h9 (.obj [.i x.on,.i x.kind,.s x.arg] 158);have hb9:∀ {H' :Heap} {s' :an},GSt (upd g5 i9 (some (.obj [.i x.on,.i x.kind,.s x.arg] 158))) H' k s' j→GSt g5 H' k s' j:=fun {H' s'} h=>(h.unbox n9k hg9).1
   have hlog:=fun(hd:done=true)=>LB hS9 o x.arg (by rw[hcl];exact hc) hgi.1 (hjt hd)
   have hopen:=DM hS9 o x.arg hk64 hgi.2.1;simp only[opA,opC]at hlog hopen;cases a1:(x.kind==1)
   case true=>
    have e1:x.kind=1:=by simpa using a1
    have a3:(x.kind==3)=false:=by rw[e1];rfl
    have a4:(x.kind==4)=false:=by rw[e1];rfl
    cases done
    ·simp only[go_sem,r3,r12,a1,a3,a4,w1]
     refine⟨_,?_,i+1,by rw[hsn,CY (fun h=>by cases h.2) (by rw[e1];decide) (by rw[e1];decide)];exact hb9 hS9,aco,rfl,?_,?_,?_,?_,?_,?_⟩
     ·omega
     all_goals simp only[go_sem,r0,r3,r5,r10,r11]
    ·simp only[go_sem,r0,r3,r5,a1,aj,n95.symm,k5]
     refine(hlog rfl).mono fun r H3 h3=>?_
     simp only[go_sem,r12,w1];refine⟨_,?_,i+1,by rw[hsn,Ir e1];exact hb9 h3,aco,rfl,?_,?_,?_,?_,?_,?_⟩
     ·omega
     all_goals simp only[go_sem,r0,r3,r5,r10,r11]
   have e1:¬(x.kind=1∧done=true):=fun h=>by rw[h.1]at a1;cases a1
   cases a3:(x.kind==3)
   case true=>
    have e3:x.kind=3:=by simpa using a3
    simp only[go_sem,r0,r5,a1,a3,aj,n95.symm,k5];refine hopen.mono fun r H3 h3=>?_
    simp only[go_sem,r12,w1];refine⟨_,?_,i+1,by rw[hsn,Fc e3];exact hb9 h3,aco,rfl,?_,?_,?_,?_,?_,?_⟩
    ·omega
    all_goals simp only[go_sem,r0,r3,r5,r10,r11]
   have e3:x.kind≠3:=by simpa using a3
   cases a4:(x.kind==4)
   case false=>
    have e4:x.kind≠4:=by simpa using a4
    simp only[go_sem,r12,a1,a3,a4,w1];refine⟨_,?_,i+1,by rw[hsn,CY e1 e3 e4];exact hb9 hS9,aco,rfl,?_,?_,?_,?_,?_,?_⟩
    ·omega
    all_goals simp only[go_sem,r0,r3,r5,r10,r11]
   have e4:x.kind=4:=by simpa using a4
   rw[Fe e4]at hsn;obtain⟨G,sG,nG,oG⟩:=hS9.base;obtain⟨y1,y2,y3,y4,kk,ho,hgk,hfr⟩:=hS9;obtain⟨K,eK⟩:∃K,upd H2 i9 (some (.obj [.i x.on,.i x.kind,.s x.arg] 158))=K:=⟨_,rfl⟩;have k9:K i9=some (.obj [.i x.on,.i x.kind,.s x.arg] 158):=by rw[←eK,ah]
   have k5' :K i5=some (.obj [.i o.kind,.s o.subj,.s o.case,.s o.field,.s o.to,.i o.val.kind,.i o.val.n,.s o.val.s,.i o.review,.s o.text,.s o.reason,.b o.glass] 32):=by rw[←eK,ag _ _ n95.symm];exact k5
   rw[eK]at sG kk ho hfr;have hoK:iD G K y1 y2 y3 y4 t j:=ho.bN fun i hi=>(nG i).2 hi
   obtain⟨pid,pset,palg,ptgt,prules,pkids,pobls,hpp⟩:∃a b c d e f g,t.policy= .mk a b c d e f g:=by cases t.policy;exact⟨_,_,_,_,_,_,_,rfl⟩
   have hst:∀z (n:List Cu),stC {t with notices:=n} y1 y2 z y4= [.i t.tick,y1,y2,z,y4,.s pid,.b pset,.i palg,aS ptgt,.sl (prules.map aA) .no,.sl (pkids.map aK) .no,ay pobls,.i t.version]:=fun z n=>agb
   have hst0:stC t y1 y2 y3 y4= [.i t.tick,y1,y2,y3,y4,.s pid,.b pset,.i palg,aS ptgt,.sl (prules.map aA) .no,.sl (pkids.map aK) .no,ay pobls,.i t.version]:=agb;rw[hst0]at kk;have p9:=(bC (H:=K) (l:=[k,i5,i9]) (show i9∈ [k,i5,i9] by simp)).trans k9
   have p5:=(bC (H:=K) (l:=[k,i5,i9]) (show i5∈ [k,i5,i9] by simp)).trans k5'
   have pk:=(bC (H:=K) (l:=[k,i5,i9]) (show k∈ [k,i5,i9] by simp)).trans kk
   simp only[go_sem,a1,a3,a4];rw[eK];refine .stage (pick K [k,i5,i9]) [0,1,2,3,4,5,6,7,8,9,10,11,12,13,14,15,16,17] [18] bx acs ?_;simp only[go_sem,r0,r5,pk,p5,p9];have hap1:Rd K 3 (.sl [jO ⟨t.tick,o.case,x.arg⟩] .full) [jO ⟨t.tick,o.case,x.arg⟩]:=.sl adb .full;have hnl:=hgi.2.2;refine OwE.app (U:=U) (tb:=146) hoK.nt sG hap1 acA acr acu acA acw acW fun id y' K2 hid hor how hoth=>?_
   have hor' :K id=none∨nid y3=some id:=by
    exact ahb
   have n2:∀ {q b t},K q=some (.obj b t)→t≠146→q≠id:=fun {q b t} hq ht e=>by
    rcases hor' with h|h
    ·rw[e,h]at hq;cases hq
    ·exact lO (hoK.nt.nid h).2.2 hq ht e.symm
   have m9:=(hoth i9 (n2 k9 acr)).trans k9;have m5:=(hoth i5 (n2 k5' acr)).trans k5';have nik:=n2 kk acr;have mk:=(hoth k nik).trans kk;refine⟨iG fun q hq=>?_,?_⟩
   ·simp only[List.mem_cons,List.not_mem_nil,or_false]at hq
    rcases hq with rfl|rfl|rfl
    ·rw[mk,kk]
    ·rw[m5,k5']
    ·rw[m9,k9]
   simp only[go_sem];refine⟨cQ,fun _ _ e=>acR,?_⟩
   simp only[go_sem,r12,mk,how.rd.fit,how.rd.cells];refine⟨fun _ _ e=>acR,?_⟩
   simp only[go_sem,w1];obtain⟨F,eF⟩:∃F,upd K2 k (some (.obj [.i t.tick,y1,y2,y',y4,.s pid,.b pset,.i palg,aS ptgt,.sl (prules.map aA) .no,.sl (pkids.map aK) .no,ay pobls,.i t.version] 67))=F:=⟨_,rfl⟩;have Fk:F k=(some (.obj [.i t.tick,y1,y2,y',y4,.s pid,.b pset,.i palg,aS ptgt,.sl (prules.map aA) .no,.sl (pkids.map aK) .no,ay pobls,.i t.version] 67)):=by rw[←eF,ah]
   have Fo:∀q,q≠k→F q=K2 q:=fun q hq=>by rw[←eF,ag _ _ hq]
   have hoz:OwE 146 G F 3 y' ((t.notices++ [(⟨t.tick,o.case,x.arg⟩:Cu)]).map jO):=by
    rw[List.map_append];exact .inr ⟨id,hid,how.same (Fo id nik.symm)⟩
   have hop:iD G F y1 y2 y' y4 {t with notices:=t.notices++ [⟨t.tick,o.case,x.arg⟩]} j:=by
    refine iD.nots (h:=K) (h' :=F) hoK hoz (fun q hq=>?_) fun q hq hne hz=>?_
    ·have:id=q:=by have:=how.nid;rw[hq]at this;exact(Option.some.inj this).symm
     rw[←this];exact hor'
    ·have n1:q≠k:=fun e=>hgk ((nG k).1 (by rw[←e];exact hq))
     have n2:q≠id:=fun e=>by
      rcases hor' with h|h
      ·exact hne (by rw[e];exact h)
      ·exact hz (by rw[e];exact h)
     rw[Fo q n1,hoth q n2]
   have hgs:GSt (upd g5 i9 (some (.obj [.i x.on,.i x.kind,.s x.arg] 158))) F k {t with notices:=t.notices++ [⟨t.tick,o.case,x.arg⟩]} j:=by
    refine⟨y1,y2,y',y4,by rw[Fk,hst],iD.bN hop fun i hi=>(nG i).1 hi,hgk,fun i b hi hb=>?_⟩
    have n2:i≠id:=fun e=>by
     have:=(nG id).1 hid;rw[←e,hb]at this;cases this
    rw[Fo i hi,hoth i n2];exact hfr i b hi hb
   rw[←eF]at hgs;refine⟨_,?_,i+1,by rw[hsn];exact hb9 hgs,aco,rfl,?_,?_,?_,?_,?_,?_⟩
   ·omega
   all_goals simp only[go_sem,r0,r3,r5,r10,r11]
  ·have hge:i=l.length:=by have:=acg e;omega
   subst hge;rw[List.take_length]at hS;simp only[go_sem];exact .same (.refl _) (hback hS)
theorem NH(s:an)(hf:Few s)(h:Heap):ai Tryz.prog 72 [cg s] h fun r h' =>∃y1 y2 y3,r= .agg (stC s y1 y2 y3 (dI s.roles))∧iD h h' y1 y2 y3 (dI s.roles) s s.cases.length∧Ab.Sub h h' :=by
 have hst:=oc s;have hsc:∀y1 y2 y3,stC s y1 y2 y3 (dI s.roles)=stC s y1 y2 y3 (dI s.roles):=fun _ _ _=>rfl
 have hfc:=hf.cases;have hfg:=hf.log;have hfr:=hf.reviews;have hfn:=hf.notices;obtain⟨tick,cs,rv,nt,ro,⟨pid,pset,palg,ptgt,prules,pkids,pobls⟩,ver⟩:=s;simp only at hfc hfg hfr hfn;rw[hst];simp only[sL,fk,ja,jw,dI,aP];refine acn Tryz.func72 35 [.cell 2 67] fun hwf=>?_
 simp only[go_sem];intro i1 h1;simp only[go_sem];intro i2 h2;have n21:=aH h2;have n2:=aC h2;simp only[go_sem];obtain⟨H,eH⟩:∃H,upd (upd h i1 (some (.obj [.i tick,.sl (cs.map cr) .no,.sl (rv.map fY) .no,.sl (nt.map jO) .no,.sl (ro.map cY) .no,.s pid,.b pset,.i palg,aS ptgt,.sl (prules.map aA) .no,.sl (pkids.map aK) .no,ay pobls,.i ver] 67))) i2 (some (.obj [.i 0,.sl [] .full,.sl [] .full,.sl [] .full,.sl [] .full,.s [],.b false,.i 0,.sl [] .full,.sl [] .full,.sl [] .full,.sl [] .full,.i 0] 67))=H:=⟨_,rfl⟩;have hH:Ab.Sub h H:=adq;have g1:H i1=some (.obj [.i tick,.sl (cs.map cr) .no,.sl (rv.map fY) .no,.sl (nt.map jO) .no,.sl (ro.map cY) .no,.s pid,.b pset,.i palg,aS ptgt,.sl (prules.map aA) .no,.sl (pkids.map aK) .no,ay pobls,.i ver] 67):=adY;have g2:H i2=some (.obj [.i 0,.sl [] .full,.sl [] .full,.sl [] .full,.sl [] .full,.s [],.b false,.i 0,.sl [] .full,.sl [] .full,.sl [] .full,.sl [] .full,.i 0] 67):=adR;rw[eH];clear eH;refine .stage (hm1 i1 (.obj [.i tick,.sl (cs.map cr) .no,.sl (rv.map fY) .no,.sl (nt.map jO) .no,.sl (ro.map cY) .no,.s pid,.b pset,.i palg,aS ptgt,.sl (prules.map aA) .no,.sl (pkids.map aK) .no,ay pobls,.i ver] 67)) [0,1,3,4,6,7,2,9,5,8] [10,11,12,13,14] (.hm1 g1) acs ?_;simp only[go_sem,fW];refine(vN _ (rv.map fY) H (eJ fY 7 (fun _=>rfl) _ _) acp).mono fun z2 H1 ⟨o2,s1⟩=>?_
 refine⟨.hm1 (s1 _ _ g1),?_⟩;simp only[go_sem];refine(vM _ (nt.map jO) H1 (eJ jO 3 (fun _=>rfl) _ _) acp).mono fun z3 H2 ⟨o3,s2⟩=>?_
 refine⟨.hm1 (s2 _ _ (s1 _ _ g1)),?_⟩;simp only[go_sem];refine(Ap _ (cs.map cr) H2 (eJ cr 5 (fun _=>rfl) _ _) acp).mono fun z1 H3 ⟨o1,s3⟩=>?_
 have s03:Ab.Sub H H3:=s1.trans (s2.trans s3);have q1' :=s03 _ _ g1;have q2' :=s03 _ _ g2;refine⟨.hm1 q1',cQ,(fun _ _ e=>acR),?_⟩
 simp only[go_sem,q1',o1.rd.fit,o1.rd.cells,o2.rd.fit,o2.rd.cells,o3.rd.fit,o3.rd.cells];refine⟨fun _ _ e=>acR,fun _ _ e=>acR,fun _ _ e=>acR,?_⟩
 obtain⟨M,eM⟩:∃M,upd H3 i1 (some (.obj [.i tick,z1,z2,z3,.sl (ro.map cY) .no,.s pid,.b pset,.i palg,aS ptgt,.sl (prules.map aA) .no,.sl (pkids.map aK) .no,ay pobls,.i ver] 67))=M:=⟨_,rfl⟩;have oM:∀q,q≠i1→M q=H3 q:=fun q hq=>by rw[←eM,ag _ _ hq]
 have m1:M i1=some (.obj [.i tick,z1,z2,z3,.sl (ro.map cY) .no,.s pid,.b pset,.i palg,aS ptgt,.sl (prules.map aA) .no,.sl (pkids.map aK) .no,ay pobls,.i ver] 67):=by rw[←eM,ah]
 have m2:=(oM i2 n21).trans q2';have hM:Ab.Sub h M:=by rw[←eM];exact(hH.trans s03).put h1 _
 have new:∀ {tb:TypeId} {z:AV} {xs:List AV} {n:Nat} {g:Heap},OwE tb g H3 n z xs→Ab.Sub H g→OwE tb h M n z xs:=fun w hg=>(w.less (hH.trans hg)).keep fun id e=>oM id (cK (w.nid e).1 (hg _ _ g1))
 have w1:=new o1 (s1.trans s2);have w2:=new (o2.sub (s2.trans s3)) (.refl _);have w3:=new (o3.sub s3) s1;have a12:apart z1 z2:=(dS o1 (o2.there s2.some)).symm;have a13:apart z1 z3:=(dS o1 (o3.there fun k hk=>hk)).symm
 have a23:apart z2 z3:=dS o3 (o2.there fun k hk=>hk)
 simp only[go_sem,o1.rd.len,acd];rw[eM];have h12:i1≠i2:=n21.symm;refine .intro (fun m ρ G=>∃i:Nat,Ab.Sub M G∧i≤cs.length∧m=cs.length - i∧lk ρ 1=some (.ptr i1 0)∧lk ρ 2=some (.ptr i2 0)∧lk ρ 18=some z1∧lk ρ 19=some (.i cs.length)∧lk ρ 20=some (.i i)) cs.length ?_ ?_
 ·refine⟨0,.refl _,aco,rfl,?_,?_,?_,?_,?_⟩<;>simp only[go_sem]
 ·rintro m ρ G ⟨i,hs,hi,rfl,r1,r2,r18,r19,r20⟩
  have v1:=w1.sub hs;simp only[go_sem,r19,r20];refine .intro (fun e=>?_) (fun e=>?_)
  ·have hlt:i<cs.length:=ack e
   have w1' :IntKind.i64.wrap ((i:Int)+1)=((i+1:Nat):Int):=acE;have hfl:=hfg _ (aci hlt);have hxi:(cs.map cr)[i]'acp=cr cs[i]:=ace ..;simp only[go_sem,r18,r20];refine v1.rd.idx (U:=U) (e:=134) i rfl acp nq acr fun p hp1=>?_
   have hld:=hp1.all (U:=U) (ty:=134) acr (by rw[nq,hxi];rfl) (by simp only[go_sem];rw[hxi];rfl)
   obtain⟨c,ec⟩:∃c,cs[i]=c:=⟨_,rfl⟩;rw[hxi,ec]at hld;rw[ec]at hfl hxi;simp only[cr,mT,gu,sB]at hld;simp only[go_sem,hld];intro i4 h4;have k1:=hs _ _ m1;have n41:i4≠i1:=cK h4 k1;obtain⟨G4,eG4⟩:∃G4,upd G i4 (some (.obj [.s c.id,.s c.owner,.s c.state,.sl (c.fields.map bz) .no,.sl (c.log.map fU) .no] 134))=G4:=⟨_,rfl⟩;have sG:Ab.Sub G G4:=afG;have p1:=sG _ _ k1;have p4:G4 i4=some (.obj [.s c.id,.s c.owner,.s c.state,.sl (c.fields.map bz) .no,.sl (c.log.map fU) .no] 134):=by rw[←eG4,ah]
   simp only[go_sem];rw[eG4];refine .stage (hm2 i1 (.obj [.i tick,z1,z2,z3,.sl (ro.map cY) .no,.s pid,.b pset,.i palg,aS ptgt,.sl (prules.map aA) .no,.sl (pkids.map aK) .no,ay pobls,.i ver] 67) i4 (.obj [.s c.id,.s c.owner,.s c.state,.sl (c.fields.map bz) .no,.sl (c.log.map fU) .no] 134)) [0,1,2,3,4,5,6,7] [8] (.hm2 p1 p4) acs ?_;simp only[go_sem,r1,oL _ _ n41.symm,oN];refine(wN _ (c.log.map fU) G4 (eJ fU 3 (fun _=>rfl) _ _) acp (bu (fun _=>rfl) _)).pthen ?_
   refine⟨.hm2 p1 p4,?_⟩;simp only[go_sem];obtain⟨id1,hg1,u1⟩:=(v1.sub sG).ow acp;refine u1.idx (U:=U) (e:=134) i rfl acp nq acr ?_;simp only[go_sem];refine⟨cQ,(fun _ _ e=>acR),?_⟩
   have u1' :=u1;obtain⟨cap,rest,ey,hid,hr,hcap,hsz⟩:=u1';have hbd:i*5+5≤(aq (cs.map cr)++rest).length:=by
    grind [ach,bf,acd]
   have e5:List.take (i*5+4) (aq (cs.map cr)++rest)++ [.sl (c.log.map fU) .no]++List.drop (i*5+4+1) (aq (cs.map cr)++rest)=aq (cs.map cr)++rest:=by
    refine(lp hsz i acp 4 [.sl (c.log.map fU) .no] (ab9 rfl)).trans ?_;rw[qU];rw[List.getElem?_eq_getElem acp,hxi];rfl
   simp only[go_sem,r20,hid];rw[e5,vw hid];refine⟨aco,(fun _ _ e=>acR),?_⟩
   simp only[go_sem,w1'];refine⟨_,?_,i+1,hs.trans sG,aco,rfl,?_,?_,?_,?_,?_⟩
   ·omega
   all_goals simp only[go_sem,r1,r2,r18,r19]
  ·have hge:i=cs.length:=by grind
   have k1:=hs _ _ m1;have k2:=hs _ _ m2;have n21' :i2≠i1:=n21;simp only[go_sem,r1,r2,k1,k2];have kp:∀b q,h q=none→M q≠none→q≠i2→upd G i2 b q=M q:=fun b q a c d=>by
    rw[ag _ _ d];cases hh:M q with
    |none=>grind
    |some b=>exact hs _ _ hh
   have ne2:∀ {tb:TypeId} {z:AV} {xs:List AV} {n:Nat},OwE tb h M n z xs→tb≠67→∀q,nid z=some q→q≠i2:=fun w ht q e=>lO (w.nid e).2.2 m2 ht.symm
   refine .mk _ (.refl _) (.refl _) ⟨z1,z2,z3,by simp[stC,fV,aP]<;>rfl,⟨⟨cs.map cr,w1.keep fun q e=>kp _ q (w1.nid e).1 (w1.nid e).2.1 (ne2 w1 acr q e),acw,fun j a b _=>ace ..,fun a b=>absurd b (Nat.lt_irrefl _)⟩,w2.keep fun q e=>kp _ q (w2.nid e).1 (w2.nid e).2.1 (ne2 w2 acr q e),w3.keep fun q e=>kp _ q (w3.nid e).1 (w3.nid e).2.1 (ne2 w3 acr q e),.inl rfl,a12,a13,fun q _ e=>acR,a23,fun q _ e=>acR,fun q _ e=>acR⟩,(hM.trans hs).put n2 _⟩
end Go.Proofs.YtcochaoekecfdaaGreatDoor
namespace Go.Bf
open Go Go.Ab Go.Proofs.YtcochaoekecfdaaGreatDoor
def ku(r:j5):List AV:=[.i r.err,aQ r.mark,.b r.glass,.i r.val.kind,.i r.val.n,.s r.val.s,.b r.hidden,.i r.at_]
def xQ(d:pX):List AV:=opC d.op++ [.i d.version,aQ d.mark,.b d.glass,ay d.obls]
def nw:List AV:=[.i 0,.v (.complex .f64 0 0),.b false,.i 0,.i 0,.s [],.b false,.i 0]
def jJ(x:an×j5×pX×Int):AV:=.tup [cg x.1,.agg (ku x.2.1),.agg (xQ x.2.2.1),.i x.2.2.2]
theorem AF{cs ds:List aJ}(h:ds.map (·.id)=cs.map (·.id))(id:Txt):findD ds id=findD cs id:=by
 have e:∀l:List aJ,findD l id=(l.map (·.id)).findIdx fun x=>geB x id:=fun l=>by
  rw[List.findIdx_map];rfl
 rw[e,e,h]
theorem K7(id:Txt):geB id id=true:=by
 have:Op.bytesLess id id=false:=by simpa[lt]using lt_irrefl id
 simp[geB,this]
theorem Iq{s:an}{o:OpD}(hr:bO s o=0):findD (dP aR s o).cases o.case=findD s.cases o.case:=by
 unfold dP;rw[if_pos hr];unfold doD
 by_cases k1:o.kind=1
 ·simp only[k1,if_true]
  obtain⟨f,ef⟩:∃f,findD s.cases o.case=f:=⟨_,rfl⟩;have hf:f≤s.cases.length:=by rw[←ef];exact List.findIdx_le_length
  rw[ef];refine(List.findIdx_eq acp).2 ⟨?_,fun j hj=>?_⟩
  ·have:((List.take f s.cases++ [jj s ⟨o.case,o.subj,jy,[],[]⟩ o.subj [110,101,119]]++List.drop f s.cases)[f]?)=some (jj s ⟨o.case,o.subj,jy,[],[]⟩ o.subj [110,101,119]):=by
    grind
   rw[(List.getElem_eq_iff _).2 this];exact K7 _
  ·have hj2:j<s.cases.length:=by omega
   have:((List.take f s.cases++ [jj s ⟨o.case,o.subj,jy,[],[]⟩ o.subj [110,101,119]]++List.drop f s.cases)[j]?)=some s.cases[j]:=by
    grind
   rw[(List.getElem_eq_iff _).2 this];have h3:j<s.cases.findIdx fun c=>geB c.id o.case:=by grind [findD]
   simpa using List.not_of_lt_findIdx h3
 ·by_cases k3:o.kind=3
  ·simp only[k3,show¬(3:Int)=1 by decide,if_false,if_true]
   exact AF (kg (f:=fun c=>jj s {c with fields:=eT c.fields o.field o.val} o.subj [119,114,105,116,101]) (g:=fun c:aJ=>c.id) fun c=>rfl) _
  ·by_cases k4:o.kind=4
   ·simp only[k4,show¬(4:Int)=1 by decide,show¬(4:Int)=3 by decide,if_false,if_true]
    exact AF (kg (f:=fun c=>jj s {c with state:=o.to} o.subj o.to) (g:=fun c:aJ=>c.id) fun c=>rfl) _
   grind
theorem Ny{k:Nat}{s:an}{o:OpD}(h:dz k s)(hr:bO s o=0)(hx:iF (dP aR s o).cases o.case<(dP aR s o).cases.length):findD s.cases o.case=iF (dP aR s o).cases o.case:=by
 rw[←Iq hr];exact FF (pq o h).asc hx
theorem Jo{t:Txt}(h:(aR t).2.1=0):(aR t).2.2=0:=by
 unfold aR at h⊢;cases hl:sA t with
 |bad e a=>
  rw[hl]at h;simp only at h;have:=(yy hl).1;omega
 |ok ts=>
  simp only[yM]at h⊢
  grind
end Go.Bf
namespace Go.Proofs.YtcochaoekecfdaaGreatDoor
open Go Go.Ab Go.Bf
theorem Jr(c:aJ):cR (cr c)=true:=by
 simp[cr,mT,cR,gU,gu,sB,bu (f:=bz) (fun _=>rfl),bu (f:=fU) (fun _=>rfl)]
theorem QL{g h:Heap}(s:an):Frz g h (cg s) (cg s):=by
 have:=uL (g:=g) (h:=h) (s:=s) (y1:=fk s.cases) (y2:=ja s.reviews) (y3:=jw s.notices) (y4:=dI s.roles) (.pure (by grind [fk,cR,bu,Jr])) (.pure (by simp only[ja,cR];exact bu (fun _=>rfl) _)) (.pure (by simp only[jw,cR];exact bu (fun _=>rfl) _)) (.pure (by simp only[dI,cR];exact bu (fun _=>rfl) _))
 exact ac8
theorem K1{g h:Heap}(l:List cD)(q:Perm):Frz g h (.sl (l.map aW) q) (ay l):=.sl _ _ _ rfl aco fun i h1 h2 j h3 h4=>by
 refine .pure ?_;have:cR (l.map aW)[i]=true:=acz;exact ng this _ acw
theorem AH{g h:Heap}{x:AV}{S:an}(r:j5)(d:pX)(e:Int)(a:Frz g h x (cg S))(q:Perm):Frz g h (.tup [x,.agg (ku r),.agg (opC d.op++ [.i d.version,aQ d.mark,.b d.glass,.sl (d.obls.map aW) q]),.i e]) (jJ (S,r,d,e)):=by
 refine .tup _ _ rfl fun i h1 h2=>?_
 rcases i with _|_|_|_|i
 ·exact a
 ·exact acK
 ·refine .agg _ _ acF fun j h3 h4=>?_
  rcases j with _|_|_|_|_|_|_|_|_|_|_|_|_|_|_|_|j
  ·exact acK
  ·exact acK
  ·exact acK
  ·exact acK
  ·exact acK
  ·exact acK
  ·exact acK
  ·exact acK
  ·exact acK
  ·exact acK
  ·exact acK
  ·exact acK
  ·exact acK
  ·exact acK
  ·exact acK
  ·exact K1 d.obls q
  ·simp[opC]at h3;omega
 ·exact acK
 grind
theorem GSt.put{g H:Heap}{k:Nat}{s:an}{j:Nat}(hG:GSt g H k s j){i:Nat}(hi:i≠k)(hgi:g i≠none)(b:Blk):GSt (upd g i (some b)) (upd H i (some b)) k s j:=by
 obtain⟨y1,y2,y3,y4,hk,ho,hgk,hfr⟩:=hG;refine⟨y1,y2,y3,y4,acZ,(ho.more (g:=upd g i (some b)) fun q hq _=>acZ).keep fun q hq _=>ag _ _ fun e=>?_,acZ,fun q c hq hc=>?_⟩
 ·grind [ah]
 grind [ah,ag]
theorem GSt.at{g H:Heap}{k:Nat}{s:an}{j:Nat}(hG:GSt g H k s j){i:Nat}{b:Blk}(hi:i≠k)(hb:g i=some b):H i=some b:=by
 obtain⟨_,_,_,_,_,_,_,hfr⟩:=hG
 grind
theorem GSt.sub{f g H:Heap}{k:Nat}{s:an}{j:Nat}(hG:GSt g H k s j)(hs:Ab.Sub f g)(hk:f k=none):Ab.Sub f H:=fun i b hi=>by
 obtain⟨_,_,_,_,_,_,_,hfr⟩:=hG;exact hfr i b acp (hs i b hi)
theorem GSt.same{g H H' :Heap}{k:Nat}{s:an}{j:Nat}(hG:GSt g H k s j)(hs:Ab.Sub H H'):GSt g H' k s j:=by
 obtain⟨y1,y2,y3,y4,hk,ho,hgk,hfr⟩:=hG;exact⟨y1,y2,y3,y4,hs _ _ hk,ho.keep fun q _ hne=>by
  cases hh:H q with
  |none=>grind
  |some b=>exact hs _ _ hh,hgk,fun i b hi hb=>hs _ _ (hfr i b hi hb)⟩
theorem qY{s:an}{pid:Txt}{pset:Bool}{palg:Int}{ptgt:fO}{prules:List cN}{pkids:List bB}{pobls:List cD}(hpp:s.policy= .mk pid pset palg ptgt prules pkids pobls)(y1 y2 y3 y4:AV):stC s y1 y2 y3 y4= [.i s.tick,y1,y2,y3,y4,.s pid,.b pset,.i palg,.sl (ptgt.map bP) .no,.sl (prules.map aA) .no,.sl (pkids.map aK) .no,.sl (pobls.map aW) .no,.i s.version]:=by
 simp[stC,hpp,fV,aP,aS,ay]
theorem L2(p:bB):∃a b c d e f g,p= .mk a b c d e f g:=by cases p;simp
theorem mA{k:Nat}(s:an)(hG:jD k s)(hk:k≤1000)(o:OpD)(ho:pQ o)(h:Heap)(he:kR h):ai Tryz.prog 28 [cg s,opA o] h fun r h' =>r=jJ (aV s o)∧h' =h:=
 ai.freeze fun g hg _=>by
 replace he:=he.sub hg;obtain⟨pid,pset,palg,ptgt,prules,pkids,pobls,hpp⟩:∃a b c d e f g,s.policy= .mk a b c d e f g:=by cases s.policy;exact⟨_,_,_,_,_,_,_,rfl⟩
 have hst:cg s= .agg [.i s.tick,.sl (s.cases.map cr) .no,.sl (s.reviews.map fY) .no,.sl (s.notices.map jO) .no,.sl (s.roles.map cY) .no,.s pid,.b pset,.i palg,.sl (ptgt.map bP) .no,.sl (prules.map aA) .no,.sl (pkids.map aK) .no,.sl (pobls.map aW) .no,.i s.version]:=by
  simp[cg,fV,hpp,fk,ja,jw,dI,aP,aS,ay]
 rw[hst];refine ai.of_wp hU Tryz.func28 rfl acs 131 rfl [.cell 4 67,.cell 5 36,.cell 6 71,.tmp 7] rfl (ab9 rfl) ?_;refine .one hU hm ?_;simp -implicitDefEqProofs only[go_sem,opA,opC];intro i2 h2;simp -implicitDefEqProofs only[go_sem];obtain⟨H2,e2⟩:∃H2,upd g i2 (some (.obj [.i s.tick,.sl (s.cases.map cr) .no,.sl (s.reviews.map fY) .no,.sl (s.notices.map jO) .no,.sl (s.roles.map cY) .no,.s pid,.b pset,.i palg,.sl (ptgt.map bP) .no,.sl (prules.map aA) .no,.sl (pkids.map aK) .no,.sl (pobls.map aW) .no,.i s.version] 67))=H2:=⟨_,rfl⟩;have s2:Ab.Sub g H2:=by rw[←e2];exact .ak h2
 have b2:H2 i2=some (.obj [.i s.tick,.sl (s.cases.map cr) .no,.sl (s.reviews.map fY) .no,.sl (s.notices.map jO) .no,.sl (s.roles.map cY) .no,.s pid,.b pset,.i palg,.sl (ptgt.map bP) .no,.sl (prules.map aA) .no,.sl (pkids.map aK) .no,.sl (pobls.map aW) .no,.i s.version] 67):=by rw[←e2,ah]
 have q2:g i2=none:=h2;have sg:Ab.Sub g H2:=s2;rw[e2];clear e2;intro i3 h3;simp -implicitDefEqProofs only[go_sem];obtain⟨H3,e3⟩:∃H3,upd H2 i3 (some (.obj [.i o.kind,.s o.subj,.s o.case,.s o.field,.s o.to,.i o.val.kind,.i o.val.n,.s o.val.s,.i o.review,.s o.text,.s o.reason,.b o.glass] 32))=H3:=⟨_,rfl⟩;have s3:Ab.Sub H2 H3:=by rw[←e3];exact .ak h3
 have n3_2:i3≠i2:=fun e=>by rw[e,b2]at h3;cases h3
 replace b2:=s3 _ _ b2;have b3:H3 i3=some (.obj [.i o.kind,.s o.subj,.s o.case,.s o.field,.s o.to,.i o.val.kind,.i o.val.n,.s o.val.s,.i o.review,.s o.text,.s o.reason,.b o.glass] 32):=by rw[←e3,ah]
 have q3:g i3=none:=sg.none h3;have sg:Ab.Sub g H3:=sg.trans s3;rw[e3];clear e3;intro i4 h4;simp -implicitDefEqProofs only[go_sem];obtain⟨H4,e4⟩:∃H4,upd H3 i4 (some (.obj [.i 0,.sl [] .full,.sl [] .full,.sl [] .full,.sl [] .full,.s [],.b false,.i 0,.sl [] .full,.sl [] .full,.sl [] .full,.sl [] .full,.i 0] 67))=H4:=⟨_,rfl⟩;have s4:Ab.Sub H3 H4:=by rw[←e4];exact .ak h4
 have n4_2:i4≠i2:=fun e=>by rw[e,b2]at h4;cases h4
 have n4_3:i4≠i3:=fun e=>by rw[e,b3]at h4;cases h4
 replace b2:=s4 _ _ b2;replace b3:=s4 _ _ b3;have b4:H4 i4=some (.obj [.i 0,.sl [] .full,.sl [] .full,.sl [] .full,.sl [] .full,.s [],.b false,.i 0,.sl [] .full,.sl [] .full,.sl [] .full,.sl [] .full,.i 0] 67):=by rw[←e4,ah]
 have q4:g i4=none:=sg.none h4;have sg:Ab.Sub g H4:=sg.trans s4;rw[e4];clear e4;intro i5 h5;simp -implicitDefEqProofs only[go_sem];obtain⟨H5,e5⟩:∃H5,upd H4 i5 (some (.obj [.i 0,.v (.complex .f64 0 0),.b false,.i 0,.i 0,.s [],.b false,.i 0] 36))=H5:=⟨_,rfl⟩;have s5:Ab.Sub H4 H5:=by rw[←e5];exact .ak h5
 have n5_2:i5≠i2:=fun e=>by rw[e,b2]at h5;cases h5
 have n5_3:i5≠i3:=fun e=>by rw[e,b3]at h5;cases h5
 have n5_4:i5≠i4:=fun e=>by rw[e,b4]at h5;cases h5
 replace b2:=s5 _ _ b2;replace b3:=s5 _ _ b3;replace b4:=s5 _ _ b4;have b5:H5 i5=some (.obj [.i 0,.v (.complex .f64 0 0),.b false,.i 0,.i 0,.s [],.b false,.i 0] 36):=by rw[←e5,ah]
 have q5:g i5=none:=sg.none h5;have sg:Ab.Sub g H5:=sg.trans s5;rw[e5];clear e5;intro i6 h6;simp -implicitDefEqProofs only[go_sem];obtain⟨H6,e6⟩:∃H6,upd H5 i6 (some (.obj [.i 0,.s [],.s [],.s [],.s [],.i 0,.i 0,.s [],.i 0,.s [],.s [],.b false,.i 0,.v (.complex .f64 0 0),.b false,.sl [] .full] 71))=H6:=⟨_,rfl⟩;have s6:Ab.Sub H5 H6:=by rw[←e6];exact .ak h6
 have n6_2:i6≠i2:=fun e=>by rw[e,b2]at h6;cases h6
 have n6_3:i6≠i3:=fun e=>by rw[e,b3]at h6;cases h6
 have n6_4:i6≠i4:=fun e=>by rw[e,b4]at h6;cases h6
 have n6_5:i6≠i5:=fun e=>by rw[e,b5]at h6;cases h6
 replace b2:=s6 _ _ b2;replace b3:=s6 _ _ b3;replace b4:=s6 _ _ b4;replace b5:=s6 _ _ b5;have b6:H6 i6=some (.obj [.i 0,.s [],.s [],.s [],.s [],.i 0,.i 0,.s [],.i 0,.s [],.s [],.b false,.i 0,.v (.complex .f64 0 0),.b false,.sl [] .full] 71):=by rw[←e6,ah]
 have q6:g i6=none:=sg.none h6;have sg:Ab.Sub g H6:=sg.trans s6;rw[e6];clear e6;refine WP.Ml hU hm 0 (fun(_:Nat) (ρ:Env) (H' :Heap)=>∃(e a:Int),Ab.Sub g H'∧H' i2=some (.obj [.i s.tick,.sl (s.cases.map cr) .no,.sl (s.reviews.map fY) .no,.sl (s.notices.map jO) .no,.sl (s.roles.map cY) .no,.s pid,.b pset,.i palg,.sl (ptgt.map bP) .no,.sl (prules.map aA) .no,.sl (pkids.map aK) .no,.sl (pobls.map aW) .no,.i s.version] 67)∧H' i4=some (.obj [.i 0,.sl [] .full,.sl [] .full,.sl [] .full,.sl [] .full,.s [],.b false,.i 0,.sl [] .full,.sl [] .full,.sl [] .full,.sl [] .full,.i 0] 67)∧H' i5=some (.obj [.i 0,.v (.complex .f64 0 0),.b false,.i 0,.i 0,.s [],.b false,.i 0] 36)∧H' i6=some (.obj [.i 0,.s [],.s [],.s [],.s [],.i 0,.i 0,.s [],.i 0,.s [],.s [],.b false,.i 0,.v (.complex .f64 0 0),.b false,.sl [] .full] 71)∧lk ρ 2=some (.ptr i2 0)∧lk ρ 4=some (.ptr i4 0)∧lk ρ 5=some (.ptr i5 0)∧lk ρ 6=some (.ptr i6 0)∧lk ρ 12=some (.i e)∧lk ρ 13=some (.i a)∧aV s o=(s,⟨e,naM,false,ax,false,a⟩,xp,e)) rfl ?_ ?_
 ·rintro m ρ H' ⟨e,a,sg',b2,b4,b5,b6,r2,r4,r5,r6,r12,r13,hgd⟩
  refine .vc hU hm ?_;simp -implicitDefEqProofs only[go_sem,r2,r4,r5,r6,r12,r13,b2,b4,b5,b6,aj,n5_4,n5_4.symm,n6_4,n6_4.symm,n6_5,n6_5.symm];refine .mk _ (.refl _) (.refl _) ⟨((sg'.put q4 _).put q5 _).put q6 _,_,?_,rfl⟩;rw[hgd];exact AH (S:=s) ⟨e,naM,false,ax,false,a⟩ xp e (by rw[←hst];exact QL s) .full
 intro _;refine .one hU hm ?_;simp -implicitDefEqProofs only[go_sem];intro i8 h8;simp -implicitDefEqProofs only[go_sem];obtain⟨H8,e8⟩:∃H8,upd H6 i8 (some (.obj [.v (.complex .f64 0 0),.sl [] .full] 119))=H8:=⟨_,rfl⟩;have s8:Ab.Sub H6 H8:=by rw[←e8];exact .ak h8
 have n8_2:i8≠i2:=fun e=>by rw[e,b2]at h8;cases h8
 have n8_3:i8≠i3:=fun e=>by rw[e,b3]at h8;cases h8
 have n8_4:i8≠i4:=fun e=>by rw[e,b4]at h8;cases h8
 have n8_5:i8≠i5:=fun e=>by rw[e,b5]at h8;cases h8
 have n8_6:i8≠i6:=fun e=>by rw[e,b6]at h8;cases h8
 replace b2:=s8 _ _ b2;replace b3:=s8 _ _ b3;replace b4:=s8 _ _ b4;replace b5:=s8 _ _ b5;replace b6:=s8 _ _ b6;have b8:H8 i8=some (.obj [.v (.complex .f64 0 0),.sl [] .full] 119):=by rw[←e8,ah]
 have q8:g i8=none:=sg.none h8;have sg:Ab.Sub g H8:=sg.trans s8;rw[e8];clear e8;refine .one hU hm ?_;simp -implicitDefEqProofs only[go_sem];intro i9 h9;simp -implicitDefEqProofs only[go_sem];obtain⟨H9,e9⟩:∃H9,upd H8 i9 (some (.obj [.i 0,.v (.complex .f64 0 0),.b false,.i 0,.i 0,.s [],.b false,.i 0] 36))=H9:=⟨_,rfl⟩;have s9:Ab.Sub H8 H9:=by rw[←e9];exact .ak h9
 have n9_2:i9≠i2:=fun e=>by rw[e,b2]at h9;cases h9
 have n9_3:i9≠i3:=fun e=>by rw[e,b3]at h9;cases h9
 have n9_4:i9≠i4:=fun e=>by rw[e,b4]at h9;cases h9
 have n9_5:i9≠i5:=fun e=>by rw[e,b5]at h9;cases h9
 have n9_6:i9≠i6:=fun e=>by rw[e,b6]at h9;cases h9
 have n9_8:i9≠i8:=fun e=>by rw[e,b8]at h9;cases h9
 replace b2:=s9 _ _ b2;replace b3:=s9 _ _ b3;replace b4:=s9 _ _ b4;replace b5:=s9 _ _ b5;replace b6:=s9 _ _ b6;replace b8:=s9 _ _ b8;have b9:H9 i9=some (.obj [.i 0,.v (.complex .f64 0 0),.b false,.i 0,.i 0,.s [],.b false,.i 0] 36):=by rw[←e9,ah]
 have q9:g i9=none:=sg.none h9;have sg:Ab.Sub g H9:=sg.trans s9;rw[e9];clear e9;refine .one hU hm ?_;simp -implicitDefEqProofs only[go_sem];intro i10 h10;simp -implicitDefEqProofs only[go_sem];obtain⟨H10,e10⟩:∃H10,upd H9 i10 (some (.obj [.i 0,.sl [] .full,.sl [] .full,.sl [] .full,.sl [] .full,.s [],.b false,.i 0,.sl [] .full,.sl [] .full,.sl [] .full,.sl [] .full,.i 0] 67))=H10:=⟨_,rfl⟩;have s10:Ab.Sub H9 H10:=by rw[←e10];exact .ak h10
 have n10_2:i10≠i2:=fun e=>by rw[e,b2]at h10;cases h10
 have n10_3:i10≠i3:=fun e=>by rw[e,b3]at h10;cases h10
 have n10_4:i10≠i4:=fun e=>by rw[e,b4]at h10;cases h10
 have n10_5:i10≠i5:=fun e=>by rw[e,b5]at h10;cases h10
 have n10_6:i10≠i6:=fun e=>by rw[e,b6]at h10;cases h10
 have n10_8:i10≠i8:=fun e=>by rw[e,b8]at h10;cases h10
 have n10_9:i10≠i9:=fun e=>by rw[e,b9]at h10;cases h10
 replace b2:=s10 _ _ b2;replace b3:=s10 _ _ b3;replace b4:=s10 _ _ b4;replace b5:=s10 _ _ b5;replace b6:=s10 _ _ b6;replace b8:=s10 _ _ b8;replace b9:=s10 _ _ b9;have b10:H10 i10=some (.obj [.i 0,.sl [] .full,.sl [] .full,.sl [] .full,.sl [] .full,.s [],.b false,.i 0,.sl [] .full,.sl [] .full,.sl [] .full,.sl [] .full,.i 0] 67):=by rw[←e10,ah]
 have q10:g i10=none:=sg.none h10;have sg:Ab.Sub g H10:=sg.trans s10;rw[e10];clear e10;refine .one hU hm ?_;simp -implicitDefEqProofs only[go_sem];have hrd:=fun G=>Ec (rdS G s) o hG.few ho.2.2.2 hG.Gl
 have hpa:=fun(G:Heap) (hs:Ab.Sub g G)=>yN o.text G (he.sub hs)
 rw[hst]at hrd;simp only[opA,opC]at hrd;refine .one hU hm ?_;simp -implicitDefEqProofs only[go_sem,b2,b3];refine(hrd _).pthen ?_;simp -implicitDefEqProofs only[go_sem];refine .cut (fun ρ H' =>H' =H10∧lk ρ 2=some (.ptr i2 0)∧lk ρ 3=some (.ptr i3 0)∧lk ρ 4=some (.ptr i4 0)∧lk ρ 5=some (.ptr i5 0)∧lk ρ 6=some (.ptr i6 0)∧lk ρ 8=some (.ptr i8 0)∧lk ρ 9=some (.ptr i9 0)∧lk ρ 10=some (.ptr i10 0)∧lk ρ 11=some (.b false)∧lk ρ 12=some (.v (.int .i64 (jX s o).1))∧lk ρ 13=some (.v (.int .i64 (jX s o).2))) ?_ ?_
 ·refine .vc hU hm ?_
  cases dr:(bO s o==0)
  ·have er:bO s o≠0:=by simpa using dr
   have ep:jX s o=(bO s o,0):=by unfold jX;rw[if_neg fun hh=>er hh.1]
   simp -implicitDefEqProofs only[go_sem,dr];refine⟨rfl,?_,?_,?_,?_,?_,?_,?_,?_,?_,?_,?_⟩<;>simp -implicitDefEqProofs only[go_sem,ep]
  have er:bO s o=0:=by simpa using dr
  cases d7:(o.kind==7)
  ·have e7:o.kind≠7:=by simpa using d7
   have ep:jX s o=(bO s o,0):=by unfold jX;rw[if_neg fun hh=>e7 hh.2]
   simp -implicitDefEqProofs only[go_sem,b3,dr,d7];refine⟨rfl,?_,?_,?_,?_,?_,?_,?_,?_,?_,?_,?_⟩<;>simp -implicitDefEqProofs only[go_sem,ep]
  ·have e7:o.kind=7:=by simpa using d7
   have ep:jX s o=((aR o.text).2.1,(aR o.text).2.2):=by unfold jX;rw[if_pos ⟨er,e7⟩]
   simp -implicitDefEqProofs only[go_sem,b3,dr,d7];refine(hpa _ sg).pthen ?_;obtain⟨⟨pp,e,a⟩,epp⟩:∃x,aR o.text=x:=⟨_,rfl⟩;rw[epp]at ep;simp -implicitDefEqProofs only[go_sem,jQ,epp];refine⟨rfl,?_,?_,?_,?_,?_,?_,?_,?_,?_,?_,?_⟩<;>simp -implicitDefEqProofs only[go_sem,ep]
 rintro ρ H' ⟨rfl,r2,r3,r4,r5,r6,r8,r9,r10,r11,r12,r13⟩
 refine .one hU hm ?_;cases de:((jX s o).1 !=0)
 case true=>
  have ee:(jX s o).1≠0:=by simpa using de
  simp -implicitDefEqProofs only[go_sem,r2,r4,r5,r6,r12,r13,de];exact⟨0,(jX s o).1,(jX s o).2,sg,b2,b4,b5,b6,rfl,rfl,by unfold aV;rw[if_pos ee]⟩
 have ee:(jX s o).1=0:=by simpa using de
 simp -implicitDefEqProofs only[go_sem,r12,de];obtain⟨hr0,hform,hpar⟩:=uc ee;have hfg:=Kj (Ia hG.todz hform);have hask:=fun G=>Qh (rdS G s) o hG.few ho.1
 have hdec:=fun G=>Dr s.policy hG.pol (fA s o) hfg G
 have hm6:=wZ (fA s o) s.policy;have hol:=KT (fA s o) hG.mH;have hmk:gv s o=fu (fA s o) s.policy:=rfl;obtain⟨⟨m,ob⟩,em⟩:∃x,fu (fA s o) s.policy=x:=⟨_,rfl⟩;rw[em]at hdec hm6 hol hmk;simp only at hm6 hol;rw[hpp]at hdec;simp only[aK,aS,ay,aP,bJ,rsA,aQ]at hdec;rw[hst]at hask;simp only[opA,opC,bJ]at hask;have p2:=(bC (H:=H') (l:=[i2,i3]) (show i2∈ [i2,i3] by simp)).trans b2
 have p3:=(bC (H:=H') (l:=[i2,i3]) (show i3∈ [i2,i3] by simp)).trans b3
 refine .one hU hm ?_;simp -implicitDefEqProofs only[go_sem];refine .calls (pick H' [i2,i3]) [0,1,2,3,4,5,6,7,8,9,10] bx acs rfl ?_;simp -implicitDefEqProofs only[go_sem,r2,r3,p2,p3];refine(hask _).pthen ?_;refine⟨bx,?_⟩;simp -implicitDefEqProofs only[go_sem];refine(hdec _).pthen ?_;refine⟨bx,?_⟩;simp -implicitDefEqProofs only[go_sem,r8,b8];refine⟨bx.put (by simp[pick,n8_2,n8_3]) _,?_⟩
 obtain⟨H11,eH11⟩:∃H11,upd H' i8 (some (.obj [.v (.complex .f64 (hbit m.1) (hbit m.2)),.sl (ob.map aW) .no] 119))=H11:=⟨_,rfl⟩;replace b2:H11 i2=some (.obj [.i s.tick,.sl (s.cases.map cr) .no,.sl (s.reviews.map fY) .no,.sl (s.notices.map jO) .no,.sl (s.roles.map cY) .no,.s pid,.b pset,.i palg,.sl (ptgt.map bP) .no,.sl (prules.map aA) .no,.sl (pkids.map aK) .no,.sl (pobls.map aW) .no,.i s.version] 67):=by rw[←eH11,ag _ _ n8_2.symm];exact b2
 replace b3:H11 i3=some (.obj [.i o.kind,.s o.subj,.s o.case,.s o.field,.s o.to,.i o.val.kind,.i o.val.n,.s o.val.s,.i o.review,.s o.text,.s o.reason,.b o.glass] 32):=by rw[←eH11,ag _ _ n8_3.symm];exact b3
 replace b4:H11 i4=some (.obj [.i 0,.sl [] .full,.sl [] .full,.sl [] .full,.sl [] .full,.s [],.b false,.i 0,.sl [] .full,.sl [] .full,.sl [] .full,.sl [] .full,.i 0] 67):=by rw[←eH11,ag _ _ n8_4.symm];exact b4
 replace b5:H11 i5=some (.obj [.i 0,.v (.complex .f64 0 0),.b false,.i 0,.i 0,.s [],.b false,.i 0] 36):=by rw[←eH11,ag _ _ n8_5.symm];exact b5
 replace b6:H11 i6=some (.obj [.i 0,.s [],.s [],.s [],.s [],.i 0,.i 0,.s [],.i 0,.s [],.s [],.b false,.i 0,.v (.complex .f64 0 0),.b false,.sl [] .full] 71):=by rw[←eH11,ag _ _ n8_6.symm];exact b6
 replace b9:H11 i9=some (.obj [.i 0,.v (.complex .f64 0 0),.b false,.i 0,.i 0,.s [],.b false,.i 0] 36):=by rw[←eH11,ag _ _ n9_8];exact b9
 replace b10:H11 i10=some (.obj [.i 0,.sl [] .full,.sl [] .full,.sl [] .full,.sl [] .full,.s [],.b false,.i 0,.sl [] .full,.sl [] .full,.sl [] .full,.sl [] .full,.i 0] 67):=by rw[←eH11,ag _ _ n10_8];exact b10
 replace b8:H11 i8=some (.obj [.v (.complex .f64 (hbit m.1) (hbit m.2)),.sl (ob.map aW) .no] 119):=by rw[←eH11,ah]
 replace sg:Ab.Sub g H11:=by rw[←eH11];exact sg.put q8 _
 rw[eH11];clear eH11;have hbr:=fun G=>Ie s o m hm6.m9 (by have:=hG.nr;omega) (by have:=hG.roles;omega) hG.tick hG.ticks G
 rw[hst]at hbr;simp only[opA,opC,aQ]at hbr;obtain⟨gl,egl⟩:∃gl,sY s o m=gl:=⟨_,rfl⟩;have hgl:fB s o=gl:=by unfold fB;rw[hmk];exact egl
 rw[egl]at hbr;have p2:=(bC (H:=H11) (l:=[i2,i3,i8]) (show i2∈ [i2,i3,i8] by simp)).trans b2
 have p3:=(bC (H:=H11) (l:=[i2,i3,i8]) (show i3∈ [i2,i3,i8] by simp)).trans b3
 have p8:=(bC (H:=H11) (l:=[i2,i3,i8]) (show i8∈ [i2,i3,i8] by simp)).trans b8
 refine .one hU hm ?_;simp -implicitDefEqProofs only[go_sem];refine .stage (pick H11 [i2,i3,i8]) [0,1,2,3,4,5,7,6] [8,9,10] bx acs ?_;simp -implicitDefEqProofs only[go_sem,r2,r3,r8,r9,p2,p3,p8];refine(hbr _).pthen ?_;refine⟨bx,cQ,fun _ _ e=>acR,?_⟩
 simp -implicitDefEqProofs only[go_sem,r9,b9];refine⟨fun _ _ e=>acR,fun _ _ e=>acR,?_⟩
 obtain⟨H12,eH12⟩:∃H12,upd H11 i9 (some (.obj [.i 0,.v (.complex .f64 (hbit m.1) (hbit m.2)),.b gl,.i 0,.i 0,.s [],.b false,.i 0] 36))=H12:=⟨_,rfl⟩;replace b2:H12 i2=some (.obj [.i s.tick,.sl (s.cases.map cr) .no,.sl (s.reviews.map fY) .no,.sl (s.notices.map jO) .no,.sl (s.roles.map cY) .no,.s pid,.b pset,.i palg,.sl (ptgt.map bP) .no,.sl (prules.map aA) .no,.sl (pkids.map aK) .no,.sl (pobls.map aW) .no,.i s.version] 67):=by rw[←eH12,ag _ _ n9_2.symm];exact b2
 replace b3:H12 i3=some (.obj [.i o.kind,.s o.subj,.s o.case,.s o.field,.s o.to,.i o.val.kind,.i o.val.n,.s o.val.s,.i o.review,.s o.text,.s o.reason,.b o.glass] 32):=by rw[←eH12,ag _ _ n9_3.symm];exact b3
 replace b4:H12 i4=some (.obj [.i 0,.sl [] .full,.sl [] .full,.sl [] .full,.sl [] .full,.s [],.b false,.i 0,.sl [] .full,.sl [] .full,.sl [] .full,.sl [] .full,.i 0] 67):=by rw[←eH12,ag _ _ n9_4.symm];exact b4
 replace b5:H12 i5=some (.obj [.i 0,.v (.complex .f64 0 0),.b false,.i 0,.i 0,.s [],.b false,.i 0] 36):=by rw[←eH12,ag _ _ n9_5.symm];exact b5
 replace b6:H12 i6=some (.obj [.i 0,.s [],.s [],.s [],.s [],.i 0,.i 0,.s [],.i 0,.s [],.s [],.b false,.i 0,.v (.complex .f64 0 0),.b false,.sl [] .full] 71):=by rw[←eH12,ag _ _ n9_6.symm];exact b6
 replace b8:H12 i8=some (.obj [.v (.complex .f64 (hbit m.1) (hbit m.2)),.sl (ob.map aW) .no] 119):=by rw[←eH12,ag _ _ n9_8.symm];exact b8
 replace b10:H12 i10=some (.obj [.i 0,.sl [] .full,.sl [] .full,.sl [] .full,.sl [] .full,.s [],.b false,.i 0,.sl [] .full,.sl [] .full,.sl [] .full,.sl [] .full,.i 0] 67):=by rw[←eH12,ag _ _ n10_9];exact b10
 replace b9:H12 i9=some (.obj [.i 0,.v (.complex .f64 (hbit m.1) (hbit m.2)),.b gl,.i 0,.i 0,.s [],.b false,.i 0] 36):=by rw[←eH12,ah]
 replace sg:Ab.Sub g H12:=by rw[←eH12];exact sg.put q9 _
 rw[eH12];clear eH12;obtain⟨dn,edn⟩:∃dn,(decide (m=bl)||gl)=dn:=⟨_,rfl⟩
 have hdn:td s o=dn:=by unfold td;rw[hmk,hgl];exact edn
 have pe:=(nb hm6.m9).pe;refine .cut (fun ρ H' =>H' =H12∧lk ρ 2=some (.ptr i2 0)∧lk ρ 3=some (.ptr i3 0)∧lk ρ 4=some (.ptr i4 0)∧lk ρ 5=some (.ptr i5 0)∧lk ρ 6=some (.ptr i6 0)∧lk ρ 8=some (.ptr i8 0)∧lk ρ 9=some (.ptr i9 0)∧lk ρ 10=some (.ptr i10 0)∧lk ρ 11=some (.b dn)∧lk ρ 13=some (.v (.int .i64 (jX s o).2))) ?_ ?_
 ·refine .vc hU hm ?_
  cases dp:(m==bl)
  ·have e1:decide (m=bl)=false:=decide_eq_false (by simpa using dp)
   rw[e1,Bool.false_or]at edn;simp -implicitDefEqProofs only[go_sem,r8,r9,b8,b9,pe,dp];refine⟨rfl,?_,?_,?_,?_,?_,?_,?_,?_,?_,?_⟩<;>simp -implicitDefEqProofs only[go_sem,r2,r3,r4,r5,r6,r8,r9,r10,r13,edn]
  ·have e1:decide (m=bl)=true:=decide_eq_true (by simpa using dp)
   rw[e1,Bool.true_or]at edn;simp -implicitDefEqProofs only[go_sem,r8,b8,pe,dp];refine⟨rfl,?_,?_,?_,?_,?_,?_,?_,?_,?_,?_⟩<;>simp -implicitDefEqProofs only[go_sem,r2,r3,r4,r5,r6,r8,r9,r10,r13,edn]
 clear r2 r3 r4 r5 r6 r8 r9 r10 r11 r12 r13
 rintro ρ H' ⟨rfl,r2,r3,r4,r5,r6,r8,r9,r10,r11,r13⟩
 have how:=fun G=>NH s hG.few G
 rw[hst]at how;refine .one hU hm ?_;simp -implicitDefEqProofs only[go_sem,r2,b2];refine(how _).mono fun r H13 ⟨y1,y2,y3,er,hown,hs13⟩=>?_
 subst er;rw[qY hpp];simp only[dI];simp -implicitDefEqProofs only[go_sem,r10,hs13 _ _ b10];obtain⟨H14,e14⟩:∃H14,upd H13 i10 (some (.obj [.i s.tick,y1,y2,y3,.sl (s.roles.map cY) .no,.s pid,.b pset,.i palg,.sl (ptgt.map bP) .no,.sl (prules.map aA) .no,.sl (pkids.map aK) .no,.sl (pobls.map aW) .no,.i s.version] 67))=H14:=⟨_,rfl⟩;have hS:GSt H' H14 i10 s s.cases.length:=⟨y1,y2,y3,dI s.roles,by rw[←e14,ah,qY hpp];rfl,hown.keep (fun q hq _=>by rw[←e14];exact ag _ _ fun e=>by rw[e,b10]at hq;cases hq),by rw[b10];simp,fun i b hi hb=>by rw[←e14,ag _ _ hi];exact hs13 _ _ hb⟩
 rw[e14];clear e14;have sGB:=sg;have hroom:s.reviews.length≤1000:=hG.nrev;refine .cut (fun ρ H2=>GSt H' H2 i10 (if gl=true then ck s o o.reason else s) s.cases.length∧lk ρ 2=some (.ptr i2 0)∧lk ρ 3=some (.ptr i3 0)∧lk ρ 4=some (.ptr i4 0)∧lk ρ 5=some (.ptr i5 0)∧lk ρ 6=some (.ptr i6 0)∧lk ρ 8=some (.ptr i8 0)∧lk ρ 9=some (.ptr i9 0)∧lk ρ 10=some (.ptr i10 0)∧lk ρ 11=some (.b dn)∧lk ρ 13=some (.v (.int .i64 (jX s o).2))) ?_ ?_
 ·refine .vc hU hm ?_
  have c9:=hS.at n10_9.symm b9;have c3:=hS.at n10_3.symm b3;have hop:=DM hS o o.reason ho.1 aco;simp only[opA,opC]at hop;cases gl
  ·simp -implicitDefEqProofs only[go_sem,r9,c9]
   refine⟨hS,?_,?_,?_,?_,?_,?_,?_,?_,?_,?_⟩<;>simp -implicitDefEqProofs only[go_sem,r2,r3,r4,r5,r6,r8,r9,r10,r11,r13]
  ·simp -implicitDefEqProofs only[go_sem,r3,r9,r10,c9,c3]
   refine hop.mono fun r H3 h3=>?_
   simp -implicitDefEqProofs only[go_sem];refine⟨h3,?_,?_,?_,?_,?_,?_,?_,?_,?_,?_⟩<;>simp -implicitDefEqProofs only[go_sem,r2,r3,r4,r5,r6,r8,r9,r10,r11,r13]
 clear hS r2 r3 r4 r5 r6 r8 r9 r10 r11 r13
 rintro ρ H2 ⟨hS,r2,r3,r4,r5,r6,r8,r9,r10,r11,r13⟩
 have hbd:di s o=dF (if dn=true then dP aR (if gl=true then ck s o o.reason else s) o else(if gl=true then ck s o o.reason else s)) o ob dn:=by
  unfold di;rw[hgl,hdn,hmk]
 have hO1:dz k (if gl=true then ck s o o.reason else s):=by
  split
  ·exact B8 o _ hG.todz (by have:=hG.nr;omega)
  ·exact hG.todz
 have hc1:(if gl=true then ck s o o.reason else s).cases=s.cases:=by split<;>rfl
 have hp1:(if gl=true then ck s o o.reason else s).policy= .mk pid pset palg ptgt prules pkids pobls:=by split<;>exact hpp
 have hg1:rO 999 (if gl=true then ck s o o.reason else s):=by
  have h1:=hG.nr;have h2:=hG.nn;have h3:=fun c hc=>(hG.case c hc).log2
  split
  ·exact⟨fun c hc=>by have:=h3 c hc;omega,by simp only[ck,ach,List.length_singleton];omega,by simp only[ck];omega⟩
  ·exact⟨fun c hc=>by have:=h3 c hc;omega,aco,aco⟩
 have hr1:bO (if gl=true then ck s o o.reason else s) o=0:=by
  split
  ·rename_i hgt
   have hgo:=ye hform (Df (hgl.trans hgt));rw[←hr0];unfold bO;have k5:o.kind≠5:=aco;have k6:o.kind≠6:=aco;have k8:o.kind≠8:=aco;simp only[k5,k6,k8,if_false];rfl
  ·exact hr0
 obtain⟨s1,es1⟩:∃s1,(if gl=true then ck s o o.reason else s)=s1:=⟨_,rfl⟩
 rw[es1]at hS hbd hO1 hc1 hp1 hg1 hr1;have hre:o8 s o=⟨if dn=true then 0 else 12,m,gl,if(dn && o.kind==2 && !jK ob o.field)=true then eC (bw s.cases o.case).fields o.field else ax,dn && o.kind==2 && jK ob o.field,0⟩:=by
  unfold o8;rw[hgl,hdn,hmk]
 have hve:=hO1.ver;have b9n:H' i9≠none:=by rw[b9];simp
 refine .cut (fun ρ H3=>lk ρ 2=some (.ptr i2 0)∧lk ρ 3=some (.ptr i3 0)∧lk ρ 4=some (.ptr i4 0)∧lk ρ 5=some (.ptr i5 0)∧lk ρ 6=some (.ptr i6 0)∧lk ρ 8=some (.ptr i8 0)∧lk ρ 9=some (.ptr i9 0)∧lk ρ 10=some (.ptr i10 0)∧lk ρ 11=some (.b dn)∧lk ρ 13=some (.v (.int .i64 (jX s o).2))∧∃(GB:Heap) (j:Nat),GSt GB H3 i10 (if dn=true then dP aR s1 o else s1) j∧Ab.Sub g GB∧(dn=true→iF (if dn=true then dP aR s1 o else s1).cases o.case<(if dn=true then dP aR s1 o else s1).cases.length→o.kind≠6→j=iF (if dn=true then dP aR s1 o else s1).cases o.case)∧GB i2=some (.obj [.i s.tick,.sl (s.cases.map cr) .no,.sl (s.reviews.map fY) .no,.sl (s.notices.map jO) .no,.sl (s.roles.map cY) .no,.s pid,.b pset,.i palg,.sl (ptgt.map bP) .no,.sl (prules.map aA) .no,.sl (pkids.map aK) .no,.sl (pobls.map aW) .no,.i s.version] 67)∧GB i3=some (.obj [.i o.kind,.s o.subj,.s o.case,.s o.field,.s o.to,.i o.val.kind,.i o.val.n,.s o.val.s,.i o.review,.s o.text,.s o.reason,.b o.glass] 32)∧GB i4=some (.obj [.i 0,.sl [] .full,.sl [] .full,.sl [] .full,.sl [] .full,.s [],.b false,.i 0,.sl [] .full,.sl [] .full,.sl [] .full,.sl [] .full,.i 0] 67)∧GB i5=some (.obj [.i 0,.v (.complex .f64 0 0),.b false,.i 0,.i 0,.s [],.b false,.i 0] 36)∧GB i6=some (.obj [.i 0,.s [],.s [],.s [],.s [],.i 0,.i 0,.s [],.i 0,.s [],.s [],.b false,.i 0,.v (.complex .f64 0 0),.b false,.sl [] .full] 71)∧GB i8=some (.obj [.v (.complex .f64 (hbit m.1) (hbit m.2)),.sl (ob.map aW) .no] 119)∧GB i9=some (.obj [.i (if dn=true then 0 else 12),.v (.complex .f64 (hbit m.1) (hbit m.2)),.b gl,.v (.int .i64 (if(dn && o.kind==2 && !jK ob o.field)=true then eC (bw s.cases o.case).fields o.field else ax).kind),.v (.int .i64 (if(dn && o.kind==2 && !jK ob o.field)=true then eC (bw s.cases o.case).fields o.field else ax).n),.s (if(dn && o.kind==2 && !jK ob o.field)=true then eC (bw s.cases o.case).fields o.field else ax).s,.b (dn && o.kind==2 && jK ob o.field),.i 0] 36)) ?_ ?_
 ·refine .vc hU hm ?_
  have c9:=hS.at n10_9.symm b9;have c3:=hS.at n10_3.symm b3;have c8:=hS.at n10_8.symm b8;have c2:=hS.at n10_2.symm b2;cases dn
  ·simp -implicitDefEqProofs only[go_sem,r9,r11,c9]
   refine⟨?_,?_,?_,?_,?_,?_,?_,?_,?_,?_,upd H' i9 _,s.cases.length,hS.put n10_9.symm b9n _,sGB.put q9 _,fun e=>acR,afy,afz,afA,afB,afC,afD,ah ..⟩<;>simp -implicitDefEqProofs only[go_sem,r2,r3,r4,r5,r6,r8,r9,r10,r11,r13]
  ·obtain⟨z1,z2,z3,z4,hk10,hrd⟩:=hS.rd
   have sH2:Ab.Sub g H2:=hS.sub sGB q10;have hdo:=KI hrd o hO1.few hO1.mH ho.2.2.2 hO1.Gl ⟨hve.1,aco⟩ (he.sub sH2);have hjj:=fun hx (_:o.kind≠6)=>Ny (o:=o) hO1 hr1 hx
   rw[qY hp1]at hk10 hdo;simp only[opA,opC]at hdo;simp -implicitDefEqProofs only[go_sem,r3,r10,r11,hk10,c3];refine hdo.mono fun r H3 ⟨hs3,j,hOS,hj⟩=>?_
   have hj:=hj hr1;obtain⟨x1,x2,x3,x4,er,hOP⟩:=hOS.parts;subst er;obtain⟨did,dset,dalg,dtgt,drules,dkids,dobls,hpd⟩:=L2 (dP aR s1 o).policy;rw[qY hpd];have k10:=hs3 _ _ hk10;obtain⟨H4,e4⟩:∃H4,upd H3 i10 (some (.obj [.v (.int .i64 (dP aR s1 o).tick),x1,x2,x3,x4,.s did,.b dset,.i dalg,.sl (dtgt.map bP) .no,.sl (drules.map aA) .no,.sl (dkids.map aK) .no,.sl (dobls.map aW) .no,.v (.int .i64 (dP aR s1 o).version)] 67))=H4:=⟨_,rfl⟩;have hS4:GSt H' H4 i10 (dP aR s1 o) j:=by
    obtain⟨_,_,_,_,_,_,hgk,hfr⟩:=hS;refine⟨x1,x2,x3,x4,by rw[←e4,ah,qY hpd],(hOP.keep fun q hq _=>by rw[←e4];exact ag _ _ fun e=>by rw[e,hk10]at hq;cases hq).bN fun q hq=>?_,hgk,fun i b hi hb=>by rw[←e4,ag _ _ hi];exact hs3 _ _ (hfr i b hi hb)⟩
    cases hh:H' q with
    |none=>rfl
    |some b=>
     by_cases e:q=i10
     ·rw[e,hk10]at hq;cases hq
     ·rw[hfr q b e hh]at hq;cases hq
   have d9:=hS4.at n10_9.symm b9;have d3:=hS4.at n10_3.symm b3;have d8:=hS4.at n10_8.symm b8;have d2:=hS4.at n10_2.symm b2;have hjx:true=true→iF (dP aR s1 o).cases o.case<(dP aR s1 o).cases.length→o.kind≠6→j=iF (dP aR s1 o).cases o.case:=fun _ hx h6=>hj.trans (hjj hx h6)
   have hhi:=fun G=>Lb ob aco o.field G
   simp only[ay]at hhi;have hca:=fun G=>BM (rdS G s) o.case hG.few
   rw[hst]at hca;have hcf:(bw s.cases o.case).fields.length≤1000000000:=by
    unfold bw;split
    ·by_cases hlt:findD s.cases o.case<s.cases.length
     ·rw[show s.cases.getD (findD s.cases o.case) oh=s.cases[findD s.cases o.case] by simp[List.getD,List.getElem?_eq_getElem hlt]]
      have:=(hG.case _ (aci hlt)).nfields;omega
     ·rw[show s.cases.getD (findD s.cases o.case) oh=oh by simp[List.getD,List.getElem?_eq_none (Nat.le_of_not_lt hlt)]]
      exact afu
    ·exact afu
   have hfd:=fun G=>C7 (rdC G (bw s.cases o.case)) o.field hcf
   simp only[cr,mT,gu,sB]at hca hfd;simp -implicitDefEqProofs only[go_sem,r3,r10,k10];rw[e4];clear e4;cases d7:(o.kind==2)
   ·simp -implicitDefEqProofs only[go_sem,r3,r9,d9,d3,d7,n9_3.symm]
    refine⟨?_,?_,?_,?_,?_,?_,?_,?_,?_,?_,upd H' i9 _,j,hS4.put n10_9.symm b9n _,sGB.put q9 _,(fun _=>hjx rfl),afy,afz,afA,afB,afC,afD,ah ..⟩<;>simp -implicitDefEqProofs only[go_sem,r2,r3,r4,r5,r6,r8,r9,r10,r11,r13]
   ·simp -implicitDefEqProofs only[go_sem,r3,r8,d3,d8,d7]
    refine(hhi _).pthen ?_;cases hh:jK ob o.field
    ·simp -implicitDefEqProofs only[go_sem,r2,r3,r9,d9,d3,d2,d7,n9_2.symm,n9_3.symm]
     refine(hca _).pthen ?_;simp -implicitDefEqProofs only[go_sem];intro i14 h14;have t9:i14≠i9:=fun e=>by rw[e,ah]at h14;cases h14
     have t3:i14≠i3:=fun e=>by rw[e,ag _ _ n9_3.symm,d3]at h14;cases h14
     simp -implicitDefEqProofs only[go_sem,r3,d3,n9_3.symm,t3.symm];refine(hfd _).pthen ?_;simp -implicitDefEqProofs only[go_sem,r9,t9.symm,aU];refine⟨?_,?_,?_,?_,?_,?_,?_,?_,?_,?_,upd (upd H' i9 _) i9 _,j,((hS4.put n10_9.symm b9n _).same (.ak h14)).put n10_9.symm (by rw[ah];simp) _,(sGB.put q9 _).put q9 _,(fun _=>hjx rfl),by rw[ag _ _ n9_2.symm,ag _ _ n9_2.symm];exact b2,by rw[ag _ _ n9_3.symm,ag _ _ n9_3.symm];exact b3,by rw[ag _ _ n9_4.symm,ag _ _ n9_4.symm];exact b4,by rw[ag _ _ n9_5.symm,ag _ _ n9_5.symm];exact b5,by rw[ag _ _ n9_6.symm,ag _ _ n9_6.symm];exact b6,by rw[ag _ _ n9_8.symm,ag _ _ n9_8.symm];exact b8,ah ..⟩<;>simp -implicitDefEqProofs only[go_sem,r2,r3,r4,r5,r6,r8,r9,r10,r11,r13]
    ·simp -implicitDefEqProofs only[go_sem,r3,r9,d9,d3,d7,n9_3.symm]
     refine⟨?_,?_,?_,?_,?_,?_,?_,?_,?_,?_,upd H' i9 _,j,hS4.put n10_9.symm b9n _,sGB.put q9 _,(fun _=>hjx rfl),afy,afz,afA,afB,afC,afD,ah ..⟩<;>simp -implicitDefEqProofs only[go_sem,r2,r3,r4,r5,r6,r8,r9,r10,r11,r13]
 clear hS b2 b3 b4 b5 b6 b8 b9 b10 r2 r3 r4 r5 r6 r8 r9 r10 r11 r13
 rintro ρ H3 ⟨r2,r3,r4,r5,r6,r8,r9,r10,r11,r13,GB,j,hS,sG2,hjx,b2,b3,b4,b5,b6,b8,b9⟩
 have hO2:dz (k+1) (if dn=true then dP aR s1 o else s1):=by
  split
  ·exact pq o hO1
  ·exact {hO1 with ver:=⟨hO1.ver.1,by have:=hO1.ver.2;omega⟩}
 obtain⟨s2,es2⟩:∃s2,(if dn=true then dP aR s1 o else s1)=s2:=⟨_,rfl⟩
 rw[es2]at hS hjx hbd hO2;have hdu:=E9 hS o ho.1 ob aco dn (by have:=hO2.ncases;omega) ⟨fun c hc=>by have:=(hO2.case c hc).log2;omega,hO2.nrev,hO2.nnot⟩ hjx
 rw[←hbd]at hdu;simp only[opA,opC,ay]at hdu;have c3:=hS.at n10_3.symm b3;have c8:=hS.at n10_8.symm b8;refine .one hU hm ?_;simp -implicitDefEqProofs only[go_sem,r3,r8,r10,r11,c3,c8];refine hdu.mono fun r H4 h4=>?_
 simp -implicitDefEqProofs only[go_sem];clear c3 c8 hdu hS;have hat:(jX s o).2=0:=by
  unfold jX at ee⊢;split
  ·rename_i hc;rw[if_pos hc]at ee;exact Jo ee
  ·rfl
 have hbl:(di s o).cases.length≤1000000:=by
  rw[hbd,xR];have:=hO2.ncases;omega
 obtain⟨x1,x2,x3,x4,k10,hOP,_,_⟩:=id h4;have hov:=LU hOP.rd hbl;obtain⟨did,dset,dalg,dtgt,drules,dkids,dobls,hpd⟩:=L2 (di s o).policy;have hfz:∀H5,(∀q,GB q=none→H5 q=H4 q)→Frz g H5 (.agg (stC (di s o) x1 x2 x3 x4)) (cg (di s o)):=fun H5 hq=>((hOP.keep fun q hg _=>hq q hg).bN fun q hg=>by
  cases hh:g q with
  |none=>rfl
  |some b=>rw[sG2 _ _ hh]at hg;cases hg).frz
 rw[qY hpd]at k10 hov hfz;have c2:=h4.at n10_2.symm b2;have c3:=h4.at n10_3.symm b3;have c4:=h4.at n10_4.symm b4;have c5:=h4.at n10_5.symm b5;have c6:=h4.at n10_6.symm b6;have c8:=h4.at n10_8.symm b8;have c9:=h4.at n10_9.symm b9;have sg4:Ab.Sub g H4:=h4.sub sG2 q10;refine .one hU hm ?_;simp -implicitDefEqProofs only[go_sem,r10,k10];refine hov.pthen ?_;cases dov:rT (di s o)
 case true=>
  simp -implicitDefEqProofs only[go_sem,r2,r4,r5,r6,r13];exact⟨0,6,0,sg4,c2,c4,c5,c6,rfl,by rw[hat],by unfold aV;rw[if_neg (by rw[ee];simp),if_pos dov]⟩
 have hgd:aV s o=(di s o,⟨if dn=true then 0 else 12,m,gl,if(dn && o.kind==2 && !jK ob o.field)=true then eC (bw s.cases o.case).fields o.field else ax,dn && o.kind==2 && jK ob o.field,0⟩,⟨o,s.version,m,gl,ob⟩,0):=by
  unfold aV;rw[if_neg (by rw[ee];simp),if_neg (by rw[dov];decide),hre,hmk,hgl]
 simp -implicitDefEqProofs only[go_sem];have p2:=(bC (H:=H4) (l:=[i2,i3,i8,i9,i10]) (show i2∈ [i2,i3,i8,i9,i10] by simp)).trans c2
 have p3:=(bC (H:=H4) (l:=[i2,i3,i8,i9,i10]) (show i3∈ [i2,i3,i8,i9,i10] by simp)).trans c3
 have p8:=(bC (H:=H4) (l:=[i2,i3,i8,i9,i10]) (show i8∈ [i2,i3,i8,i9,i10] by simp)).trans c8
 have p9:=(bC (H:=H4) (l:=[i2,i3,i8,i9,i10]) (show i9∈ [i2,i3,i8,i9,i10] by simp)).trans c9
 have p10:=(bC (H:=H4) (l:=[i2,i3,i8,i9,i10]) (show i10∈ [i2,i3,i8,i9,i10] by simp)).trans k10
 have t4:pick H4 [i2,i3,i8,i9,i10] i4=none:=by simp[pick,n4_2,n4_3,n8_4.symm,n9_4.symm,n10_4.symm]
 have t5:pick H4 [i2,i3,i8,i9,i10] i5=none:=by simp[pick,n5_2,n5_3,n8_5.symm,n9_5.symm,n10_5.symm]
 have t6:pick H4 [i2,i3,i8,i9,i10] i6=none:=by simp[pick,n6_2,n6_3,n8_6.symm,n9_6.symm,n10_6.symm]
 refine .one hU hm ?_;simp -implicitDefEqProofs only[go_sem];refine .calls (pick H4 [i2,i3,i8,i9,i10]) [0,1,2,3,4,5,6,7,8,9,10,11,12,13,14,15] bx acs rfl ?_;simp -implicitDefEqProofs only[go_sem,r2,r3,r4,r5,r6,r8,r9,r10,p2,p3,p8,p9,p10,c4,c5,c6,n5_4,n5_4.symm,n6_4,n6_4.symm,n6_5,n6_5.symm];refine⟨bx.put t4 _,(bx.put t4 _).put t5 _,((bx.put t4 _).put t5 _).put t6 _,?_⟩;refine .mk _ (.refl _) (.refl _) ⟨((sg4.put q4 _).put q5 _).put q6 _,_,?_,rfl⟩;rw[hgd,←qY hpd];exact AH (S:=di s o) ⟨if dn=true then 0 else 12,m,gl,if(dn && o.kind==2 && !jK ob o.field)=true then eC (bw s.cases o.case).fields o.field else ax,dn && o.kind==2 && jK ob o.field,0⟩ ⟨o,s.version,m,gl,ob⟩ 0 (by
  rw[qY hpd];exact hfz _ fun q hq=>by
   have x6:q≠i6:=fun e=>by rw[e,b6]at hq;cases hq
   have x5:q≠i5:=fun e=>by rw[e,b5]at hq;cases hq
   have x4:q≠i4:=fun e=>by rw[e,b4]at hq;cases hq
   rw[ag _ _ x6,ag _ _ x5,ag _ _ x4]) .no
end Go.Proofs.YtcochaoekecfdaaGreatDoor
namespace Go.Ab
open Go
theorem OJ(n:Nat)(hn:n<18446744073709551616):IntKind.u64.wrap (n:Int)=n:=PJ .u64 n rfl af6
theorem UU(n:Int):IntKind.u64.wrap n=((n % 18446744073709551616).toNat:Int):=by
 grind [Int.emod_nonneg,Int,IntKind.wrap,IntKind.signed,IntKind.bits]
theorem PK(n:Nat):IntKind.u64.wrap (n:Int)=((n % 18446744073709551616:Nat):Int):=by
 rfl
theorem EV(a b:Nat)(f:BitVec 64→BitVec 64→BitVec 64):IntKind.u64.wrap (((f (BitVec.ofInt IntKind.u64.bits (a:Int)) (BitVec.ofInt IntKind.u64.bits (b:Int))).toNat:Nat):Int)=((f (BitVec.ofNat 64 a) (BitVec.ofNat 64 b)).toNat:Int):=by
 exact OJ _ (f _ _).isLt
theorem Oa(a b k:Nat)(ha:a<2 ^ k)(hlt:a+b*2 ^ k<18446744073709551616):(BitVec.ofNat 64 a|||BitVec.ofNat 64 (b*2 ^ k)).toNat=a+b*2 ^ k:=by
 exact ahm
theorem N5(n:Nat)(hn:n<18446744073709551616):(BitVec.ofNat 64 18446744073709551615 ^^^ BitVec.ofNat 64 n).toNat=18446744073709551615 - n:=by
 have e:BitVec.ofNat 64 18446744073709551615 ^^^ BitVec.ofNat 64 n= ~~~ BitVec.ofNat 64 n:=by
  rfl
 rw[e,BitVec.toNat_not,BitVec.toNat_ofNat,Nat.mod_eq_of_lt aco]
section
variable {U : TypeId → TI} {ty : TypeId} {K : AV → Prop}
@[go_sem high] theorem V6(n:Nat)(hn:n<18446744073709551616):unA .xor (.v (.int .u64 (n:Int))) K=K (.v (.int .u64 ((18446744073709551615 - n:Nat):Int))):=by
 have h:=(EV 18446744073709551615 n (· ^^^ ·)).trans (congrArg (fun z:Nat=>(z:Int)) (N5 n hn))
 exact(Co ..).trans (congrArg (fun z=>K (.v (.int .u64 z))) h)
@[go_sem high] theorem VG(n:Int)(h1: -9223372036854775808≤n)(h2:n≤9223372036854775807):unA .xor (.i n) K=K (.i (-n - 1)):=by
 have e:(BitVec.ofInt 64 (-1) ^^^ BitVec.ofInt 64 n)= ~~~ BitVec.ofInt 64 n:=by
  rfl
 have e2:(((BitVec.ofInt 64 (-1) ^^^ BitVec.ofInt 64 n).toNat:Nat):Int)=(-n - 1) % 18446744073709551616:=by
  grind [BitVec.toNat_not,BitVec.ofInt,BitVec.toNat_ofInt]
 have h:IntKind.i64.wrap (((BitVec.ofInt 64 (-1) ^^^ BitVec.ofInt 64 n).toNat:Nat):Int)= -n - 1:=by
  grind [IntKind.wrap,IntKind.signed,IntKind.bits]
 exact(Co ..).trans (congrArg (fun z=>K (.i z)) h)
theorem u64_and(n k:Nat)(hn:n<18446744073709551616)(hk:k≤63):cw U .and ty (.v (.int .u64 (n:Int))) (.v (.int .u64 ((2 ^ k - 1:Nat):Int))) K=K (.v (.int .u64 ((n % 2 ^ k:Nat):Int))):=by
 have h63:2 ^ k≤2 ^ 63:=Nat.pow_le_pow_right acr hk;have e:(BitVec.ofNat 64 n &&& BitVec.ofNat 64 (2 ^ k - 1)).toNat=n % 2 ^ k:=by
  grind [BitVec.toNat_and,BitVec.toNat_ofNat,Nat.mod_eq_of_lt,Nat.and_two_pow_sub_one_eq_mod]
 have h:=(EV n (2 ^ k - 1) (· &&& ·)).trans (congrArg (fun z:Nat=>(z:Int)) e)
 exact(Kn ..).trans (congrArg (fun z=>K (.v (.int .u64 z))) h)
@[go_sem high] theorem u64_or(a b k:Nat)(ha:a<2 ^ k)(hlt:a+b*2 ^ k<18446744073709551616):cw U .or ty (.v (.int .u64 (a:Int))) (.v (.int .u64 ((b*2 ^ k:Nat):Int))) K=K (.v (.int .u64 ((a+b*2 ^ k:Nat):Int))):=by
 have h:=(EV a (b*2 ^ k) (· ||| ·)).trans (congrArg (fun z:Nat=>(z:Int)) (Oa a b k ha hlt))
 exact(Tl ..).trans (congrArg (fun z=>K (.v (.int .u64 z))) h)
theorem Cm(n k:Nat)(kk:IntKind)(hk:k≤63):cw U .shr ty (.v (.int .u64 (n:Int))) (.v (.int kk (k:Int))) K=K (.v (.int .u64 ((n / 2 ^ k:Nat):Int))):=by
 grind [Ko,min,Int,IntKind.bits,Int.fdiv_eq_ediv_of_nonneg,Int.le_of_lt,Int.pow_pos]
@[go_sem high] theorem OD(n k:Nat)(kk:IntKind)(hk:k≤63):cw U .shl ty (.v (.int .u64 (n:Int))) (.v (.int kk (k:Int))) K=K (.v (.int .u64 ((n*2 ^ k % 18446744073709551616:Nat):Int))):=by
 rw[OZ];have:min (k:Int).toNat IntKind.u64.bits=k:=af6;rw[this,show((n:Int)*2 ^ k)=((n*2 ^ k:Nat):Int) by simp,PK]
 exact propext ⟨fun h=>h.2,fun h=>⟨Int.natCast_nonneg k,h⟩⟩
@[go_sem high] theorem UE(m:Nat):cw U .shl ty (.v (.int .u64 (m:Int))) (.v (.int .u64 1)) K=K (.v (.int .u64 ((m*2 % 18446744073709551616:Nat):Int))):=OD m 1 .u64 acr
@[go_sem high] theorem UF(m:Nat):cw U .shr ty (.v (.int .u64 (m:Int))) (.v (.int .u64 1)) K=K (.v (.int .u64 ((m / 2:Nat):Int))):=Cm m 1 .u64 acr
@[go_sem high] theorem UG(m:Nat):cw U .shr ty (.v (.int .u64 (m:Int))) (.v (.int .u64 7)) K=K (.v (.int .u64 ((m / 128:Nat):Int))):=Cm m 7 .u64 acr
@[go_sem high] theorem UH(m:Nat):cw U .shr ty (.v (.int .u64 (m:Int))) (.v (.int .u64 8)) K=K (.v (.int .u64 ((m / 256:Nat):Int))):=Cm m 8 .u64 acr
@[go_sem high] theorem UD(m:Nat)(hm:m<18446744073709551616):cw U .and ty (.v (.int .u64 (m:Int))) (.v (.int .u64 1)) K=K (.v (.int .u64 ((m % 2:Nat):Int))):=u64_and m 1 hm acr
@[go_sem high] theorem RG(m:Nat)(hm:m<18446744073709551616):cw U .and ty (.v (.int .u64 (m:Int))) (.v (.int .u64 127)) K=K (.v (.int .u64 ((m % 128:Nat):Int))):=u64_and m 7 hm acr
@[go_sem high] theorem RH(m:Nat)(hm:m<18446744073709551616):cw U .and ty (.v (.int .u64 (m:Int))) (.v (.int .u64 255)) K=K (.v (.int .u64 ((m % 256:Nat):Int))):=u64_and m 8 hm acr
@[go_sem high] theorem JR(m:Nat)(hm:m<128):cw U .or ty (.v (.int .u64 (m:Int))) (.v (.int .u64 128)) K=K (.v (.int .u64 ((m+128:Nat):Int))):=u64_or m 1 7 hm aco
theorem wu8(n:Nat):IntKind.u8.wrap (n:Int)=((UInt8.ofNat n).toNat:Int):=by
 rfl
@[go_sem high] theorem S1(c:UInt8):cw U .and ty (.v (.int .u8 (c.toNat:Int))) (.v (.int .u8 127)) K=K (.v (.int .u8 ((c.toNat % 128:Nat):Int))):=by
 have hc:=c.toNat_lt;have e:(BitVec.ofNat 8 c.toNat &&& BitVec.ofNat 8 127).toNat=c.toNat % 128:=by
  rw[BitVec.toNat_and,BitVec.toNat_ofNat,BitVec.toNat_ofNat,Nat.mod_eq_of_lt aco,Nat.mod_eq_of_lt aco];exact Nat.and_two_pow_sub_one_eq_mod c.toNat 7
 have h:IntKind.u8.wrap (((BitVec.ofInt IntKind.u8.bits (c.toNat:Int) &&& BitVec.ofInt IntKind.u8.bits 127).toNat:Nat):Int)=((c.toNat % 128:Nat):Int):=by
  grind [IntKind.wrap,IntKind.signed,IntKind.bits]
 exact(Kn ..).trans (congrArg (fun z=>K (.v (.int .u8 z))) h)
end
end Go.Ab
namespace Go.Proofs.YtcochaoekecfdaaGreatDoor
open Go Go.Ab Go.Bf
abbrev kP(h h' :Heap)(y:AV)(l:Txt):Prop:=Acc U 5 h h' y (l.map aN)
theorem u5n:(U 5).sz≠0:=acr
theorem W8:(U 5).bytes≠0:=acr
theorem kP.frz{g h:Heap}{y:AV}{l:Txt}(ha:kP g h y l):Frz g h y (.sl (l.map aN) .no):=by
 obtain⟨q,rfl⟩:=Acc.row ha;refine .sl _ _ _ rfl aco fun i h1 h2 j h3 h4=> .keep _ ?_
 simp only[ace,aN,AV.cells,List.getElem_singleton];exact aeD
theorem kP.pure{f:FuncId}{args:List AV}{h:Heap}{l:Txt}(hf:∀g,Ab.Sub h g→ai Tryz.prog f args g fun r h' =>kP g h' r l):ai Tryz.prog f args h fun r h' =>r= .sl (l.map aN) .no∧h' =h:=
 ai.freeze fun g hg _=>(hf g hg).mono fun r h' hr=>⟨hr.1,_,kP.frz hr,rfl⟩
theorem kP.app{g h:Heap}{y v:AV}{l m:Txt}{Q:AV→Heap→Prop}(ha:kP g h y l)(hsrc:∀k:List AV→Prop,k (m.map aN)→iu U 5 h v k)(hlen:l.length+m.length≤140737488355328)
  (hk:∀y' h',kP g h' y' (l++m)→Q y' h'):apK U h y v Q (.slice 5):=
 Acc.app ha u5n W8 hsrc (by grind [u5,jt]) (by grind [u5,jt]) (by grind [RF]) fun y' h' hy _=>hk y' h' acp
theorem Aq(y:AV)(l:Txt)(h:Heap)(hb:By h y l)(hl:l.length≤140737488355328):
  ai Tryz.prog 92 [y] h fun r h' =>kP h h' r l:=by
 refine acn Tryz.func92 8 [.tmp 2] fun hwf=>?_
 simp only[go_sem];refine hb.Uj fun b hbn=>?_
 simp only[go_sem];refine nM.intro (fun e=>?_) (fun e=>?_)
 ·have hl0:l= []:=Classical.byContradiction fun hh=>by grind
  subst hl0;simp only[go_sem];exact .same (.refl _) (Acc.full (.refl _))
 ·simp only[go_sem]
  rw[hb.src u5];simp only[go_sem];refine⟨aco,fun hn=>?_,fun hn=>?_⟩
  ·have hl0:l= []:=by simp_all
   subst hl0;simp only[go_sem];exact .same (.refl _) (Acc.full (.refl _))
  ·refine .own fun id hid=>?_
   simp only[go_sem];exact .same (.refl _) ⟨(Ab.Sub.refl h).new hid _,.inr ⟨id,hid,rfl,by rw[ah,u5,acd]⟩⟩
theorem RU(n:Int)(hn:i64 n):∃m:Nat,IntKind.u64.wrap n=(m:Int)∧m<18446744073709551616∧(0≤n→m*2 % 18446744073709551616=zig n)∧(n<0→18446744073709551615 - m*2 % 18446744073709551616=zig n):=by
 unfold i64 at hn;refine⟨(n % 18446744073709551616).toNat,UU n,aco,fun h=>?_,fun h=>?_⟩<;>unfold zig
 ·grind
 grind
theorem Hs(y:AV)(l:Txt)(n:Int)(h:Heap)(hb:By h y l)(hl:l.length≤1000000)(hn:i64 n):
  ai Tryz.prog 56 [y,.i n] h fun r h' =>kP h h' r (l++oV n):=by
 obtain⟨m,hm0,hm2,hm3,hm4⟩:=RU n hn;have hz:=RT hn;have hz64:=MQ hn;refine ai.of_wp hU Tryz.func56 rfl acF 32 rfl [.tmp 4] rfl (ab9 rfl) ?_;refine .cut (fun ρ g=>g=h∧lk ρ 0=some y∧lk ρ 1=some (.i n)) (.vc hU hm ?_) ?_
 ·simp only[go_sem]
  refine⟨rfl,?_,?_⟩<;>simp only[go_sem]
 rintro ρ g ⟨rfl,r0,r1⟩
 refine .cut (fun ρ g' =>g' =g∧lk ρ 0=some y∧lk ρ 1=some (.i n)∧lk ρ 5=some (.v (.int .u64 ((m*2 % 18446744073709551616:Nat):Int)))) (.vc hU hm ?_) ?_
 ·simp only[go_sem,r0,r1,hm0]
  refine⟨rfl,?_,?_,?_⟩<;>simp only[go_sem,r0,r1]
 clear r0 r1
 rintro ρ g' ⟨rfl,r0,r1,r5⟩
 refine .cut (fun ρ g=>g=g'∧lk ρ 0=some y∧lk ρ 5=some (.v (.int .u64 ((zig n:Nat):Int)))) (.vc hU hm ?_) ?_
 ·cases d1:decide (n<0)
  ·have h0:=acg d1
   simp only[go_sem,r0,r1,r5,d1,hm3 aco];rw[←hm3 aco]at*;refine⟨rfl,?_,?_⟩<;>simp only[go_sem,r0,r5]
  ·have h0:=acf d1
   simp only[go_sem,r0,r1,r5,d1,hm4 h0,show m*2 % 18446744073709551616<18446744073709551616 from aco]
   refine⟨rfl,?_,?_⟩<;>simp only[go_sem,r0]
 clear r0 r1 r5 hm3 hm4
 rintro ρ g ⟨rfl,r0,r5⟩
 refine .vc hU hm ?_;simp only[go_sem,r0,r5];refine(Aq y l g hb aco).mono fun r h1 ha=>?_
 simp only[go_sem,r0,r5];refine .intro (fun k ρ h' =>∃(v:Nat) (o:Txt) (z:AV),kP g h' z (l++o)∧o++vB k v=oV n∧v<128 ^ k∧v<18446744073709551616∧0<k∧o.length≤10∧lk ρ 5=some (.v (.int .u64 (v:Int)))∧lk ρ 6=some z) 10 ?_ ?_
 ·refine⟨zig n,[],r,acp,rfl,hz,hz64,acr,acw,?_,?_⟩<;>simp only[go_sem,r5]
 clear r0 r5
 rintro k ρ h' ⟨v,o,z,ha,ho,hv,hv64,hk,hol,r5,r6⟩
 obtain⟨k,rfl⟩:∃j,k=j+1:=⟨k - 1,aco⟩;have hlo:=congrArg List.length ho;rw[ach]at hlo;have hnl:=jP n;cases d1:decide ((128:Int)≤(v:Int))
 ·have h0:=acg d1
  have e:vB (k+1) v= [UInt8.ofNat v]:=by unfold vB;grind
  simp only[go_sem,r5,r6,d1,wu8];refine kP.app ha (m:=[UInt8.ofNat v]) (fun _ hk=>hk) acp fun z' h2 ha' =>?_
  simp only[go_sem];refine .same (.refl _) ?_;rw[←ho,e,←List.append_assoc];exact ha'
 ·have h0:=acf d1
  have e:vB (k+1) v=UInt8.ofNat (v % 128+128)::vB k (v / 128):=by conv=>lhs;unfold vB;rw[if_neg aco]
  rw[e]at hlo ho;simp only[List.length_cons]at hlo;have hk1:0<k:=by
   grind
  simp only[go_sem,r5,r6,d1,hv64,JR _ (Nat.mod_lt v (show 128>0 by decide)),wu8]
  refine kP.app ha (m:=[UInt8.ofNat (v % 128+128)]) (fun _ hk=>hk) acp fun z' h2 ha' =>?_
  simp only[go_sem,r5];refine⟨k,aco,v / 128,o++ [UInt8.ofNat (v % 128+128)],z',?_,?_,?_,aco,hk1,?_,?_,?_⟩
  ·grind
  ·grind
  ·omega
  ·grind
  ·rfl
  rfl
theorem B5(y:AV)(l:Txt)(n:Int)(h:Heap)(hb:By h y l)(hl:l.length≤1000000)(hn:i64 n):
  ai Tryz.prog 56 [y,.i n] h fun r h' =>r= .sl ((l++oV n).map aN) .no∧h' =h:=
 kP.pure fun g hg=>Hs y l n g (hb.sub hg) hl hn
theorem Mu(y:AV)(l s:Txt)(h:Heap)(hb:By h y l)(hl:l.length≤1000000)(hs:s.length≤1000000):
  ai Tryz.prog 57 [y,.s s] h fun r h' =>kP h h' r (l++fy s):=by
 have hn:i64 (s.length:Int):=⟨aco,aco⟩;refine acn Tryz.func57 11 [.tmp 4] fun hwf=>?_
 simp only[go_sem];refine(Hs y l s.length h hb hl hn).mono fun r h' ha=>?_
 simp only[go_sem];have hnl:=jP s.length;refine kP.app ha (m:=s) (fun _ hk=>(Ru ..).mpr ⟨acF,u5,hk⟩) acp fun z' h2 ha' =>?_
 simp only[go_sem];refine .same (.refl _) ?_;unfold fy;rw[←List.append_assoc];exact ha'
theorem xo(y:AV)(l s:Txt)(h:Heap)(hb:By h y l)(hl:l.length≤1000000)(hs:s.length≤1000000):
  ai Tryz.prog 57 [y,.s s] h fun r h' =>r= .sl ((l++fy s).map aN) .no∧h' =h:=
 kP.pure fun g hg=>Mu y l s g (hb.sub hg) hl hs
theorem HA(y:AV)(l:Txt)(v:bD)(h:Heap)(hb:By h y l)(hl:l.length≤900000)(hk:i64 v.kind)(hn:i64 v.n)(hs:v.s.length≤1000000):
  ai Tryz.prog 58 [y,aU v] h fun r h' =>r= .sl ((l++zy v).map aN) .no∧h' =h:=by
 have hnl:=jP v.kind;have hl2:(l++oV v.kind).length≤1000000:=acp;refine acn Tryz.func58 20 [.tmp 4] fun hwf=>?_
 simp only[go_sem,aU];intro id hid;simp only[go_sem];refine(B5 y l v.kind _ (hb.new hid) aco hk).pthen ?_;simp only[go_sem];refine(zv v.kind _).pthen ?_;simp only[go_sem];cases d1:(v.kind==3||v.kind==5)
 ·have e:¬(v.kind=3∨v.kind=5):=by grind
  simp only[go_sem];refine(B5 (.sl ((l++oV v.kind).map aN) .no) (l++oV v.kind) v.n _ (.sl _ _) hl2 hn).pthen ?_;simp only[go_sem];refine .mk _ (.refl _) (.ak hid) ⟨?_,rfl⟩;unfold zy;rw[if_neg e,List.append_assoc];rfl
 ·have e:v.kind=3∨v.kind=5:=by grind
  simp only[go_sem];refine(xo (.sl ((l++oV v.kind).map aN) .no) (l++oV v.kind) v.s _ (.sl _ _) hl2 hs).pthen ?_;simp only[go_sem];refine .mk _ (.refl _) (.ak hid) ⟨?_,rfl⟩;unfold zy;rw[if_pos e,List.append_assoc];rfl
theorem Ex(b:Bool)(h:Heap):ai Tryz.prog 59 [.b b] h fun r h' =>r=aU (eS b)∧h' =h:=by
 refine acn Tryz.func59 8 [.cell 2 30] fun hwf=>?_
 simp only[go_sem];intro i1 h1;simp only[go_sem];intro i2 h2;have hne:=aH h2;have n2:=aC h2;cases b
 ·exact ahT
 ·exact ahT
def RO(s:RS):Blk:=.obj [.sl (s.b.map aN) .no,.i (s.at_:Int),.b s.bad] 176
def WfR(s:RS):Prop:=s.at_≤s.b.length∧s.b.length≤1000000
def RC(f:FuncId)(args:List AV)(s:RS)(R:AV)(s' :RS):Prop:=∀(h:Heap) (id:Nat),h id=some (RO s)→ai Tryz.prog f (.ptr id 0::args) h fun r h' =>r=R∧h' =upd h id (some (RO s'))
theorem RC.go{f:FuncId}{args:List AV}{s s' :RS}{R:AV}(hc:RC f args s R s'){h:Heap}{id:Nat}{Q:AV→Heap→Prop}(hid:h id=some (RO s))(k:Q R (upd h id (some (RO s')))):ai Tryz.prog f (.ptr id 0::args) h Q:=
 (hc h id hid).mono fun r h' ⟨e1,e2⟩=>aeZ
theorem yW{s:RS}{a:Nat}(h:WfR s):WfR (lP s a):=by
 unfold lP;split
 ·rename_i hc
  exact⟨by have:=h.1;show a≤s.b.length;omega,h.2⟩
 omega
theorem yX:∀(f i u:Nat) (l:Txt),(vn f i u l).2≤i+l.length∧((vn f i u l).2=0∨i<(vn f i u l).2)
 |0,_,_,_=>⟨Nat.zero_le _,.inl rfl⟩
 |_+1,_,_,[]=>⟨Nat.zero_le _,.inl rfl⟩
 |f+1,i,u,c::r=>by
  unfold vn;split
  ·omega
  ·split
   ·simp
   ·obtain⟨h1,h2⟩:=yX f (i+1) (u+c.toNat % 128*128 ^ i) r
    grind
theorem lK{s:RS}{lo hi:Int}(h:WfR s):WfR (rIn s lo hi).2:=by
 unfold rIn;split
 ·exact h
 ·simp only
  split
  ·exact yW h
  ·have:=(yX 10 0 0 (s.b.drop s.at_)).1
   exact⟨acp,h.2⟩
theorem oE(s:RS)(a:Nat):RC 110 [.i (a:Int)] s (.tup []) (lP s a):=fun h id hid=>by
 refine acn Tryz.func110 28 [] fun hwf=>?_
 have g:=hid;have d0:decide ((0:Int)≤(a:Int))=true:=decide_eq_true aco;unfold RO at g;cases d1:s.bad
 ·rw[d1]at g
  cases d2:decide ((a:Int)≤(s.at_:Int))
  ·have h2:=acg d2
   simp only[go_sem,g,d0,d2];exact .mk _ (.refl _) (.refl _) ⟨rfl,by simp_all [lP,if_neg,bG]⟩
  ·have h2:=acf d2
   simp only[go_sem,g,d0,d2];exact .mk _ (.refl _) (.refl _) ⟨rfl,by rw[lP,if_pos ⟨d1,aco⟩];rfl⟩
 ·rw[d1]at g
  simp only[go_sem,g];exact .mk _ (.refl _) (.refl _) ⟨rfl,by simp_all [lP,if_neg,bG]⟩
theorem Kl(s:RS):RC 111 [] s (.i (s.at_:Int)) s:=fun h id hid=>by
 refine acn Tryz.func111 7 [.tmp 2] fun hwf=>?_
 have g:=hid;unfold RO at g;simp only[go_sem,g];exact ae5
theorem zE(s:RS):RC 112 [] s (.i (if s.bad then 7 else 0)) s:=fun h id hid=>by
 refine acn Tryz.func112 7 [.tmp 2] fun hwf=>?_
 have g:=hid;unfold RO at g;cases d1:s.bad<;>rw[d1]at g<;>simp only[go_sem,g]<;>exact .mk _ (.refl _) (.refl _) ⟨rfl,(bG hid).symm⟩
theorem QH(s:RS):RC 65 [] s (.i (if L5 s then 0 else 7)) s:=fun h id hid=>by
 refine acn Tryz.func65 15 [.tmp 2] fun hwf=>?_
 have g:=hid;unfold RO at g;cases d1:decide ((s.at_:Int)<(s.b.length:Int))
 ·have h1:=acg d1
  simp only[go_sem,g,acd,d1];refine⟨.of acs,?_⟩;refine(zE s).go hid ?_;rw[bG hid];simp only[go_sem];refine .mk _ (.refl _) (.refl _) ⟨?_,rfl⟩;unfold L5;rw[decide_eq_true (show s.b.length≤s.at_ by omega)]
  cases s.bad<;>rfl
 ·have h1:=acf d1
  simp only[go_sem,g,acd,d1];refine⟨.of acs,?_⟩;refine .mk _ (.refl _) (.refl _) ⟨?_,(bG hid).symm⟩;unfold L5;rw[decide_eq_false (show¬s.b.length≤s.at_ by omega)]
  rfl
theorem Oi(y:AV)(l:Txt)(h:Heap)(hb:By h y l)(hl:l.length≤1000000):
  ai Tryz.prog 60 [y] h fun r h' =>∃id,h id=none∧r= .ptr id 0∧h' =upd h id (some (RO ⟨l,0,false⟩)):=by
 refine acn Tryz.func60 7 [.tmp 2] fun hwf=>?_
 simp only[go_sem];refine(kP.pure fun g hg=>Aq y l g (hb.sub hg) aco).pthen ?_
 simp only[go_sem];intro id hid;simp only[go_sem];exact .mk _ (.refl _) (.refl _) ⟨id,hid,rfl,rfl⟩
theorem Jg(s:RS)(hw:WfR s)(h:Heap)(id:Nat)(hid:h id=some (RO s)):
  ai Tryz.prog 158 [.ptr id 0] h fun r h' =>r= .tup [.v (.int .i64 (vn 10 0 0 (s.b.drop s.at_)).1),.i ((vn 10 0 0 (s.b.drop s.at_)).2:Nat)]∧h' =h:=by
 refine acn Tryz.func158 74 [.tmp 2,.tmp 3] fun hwf=>?_
 have hw1:=hw.1;have hw2:=hw.2;have g:=hid;unfold RO at g;simp only[go_sem];generalize hx:vn 10 0 0 (s.b.drop s.at_)=x;refine .intro (fun k ρ h' =>h' =h∧∃(i u:Nat),k+i=10∧vn k i u (s.b.drop (s.at_+i))=x∧u<128 ^ i∧lk ρ 0=some (.ptr id 0)∧lk ρ 4=some (.v (.int .u64 (u:Int)))∧lk ρ 5=some (.i (i:Int))) 10 ?_ ?_
 ·refine⟨rfl,0,0,rfl,hx,acr,?_,?_,?_⟩<;>simp only[go_sem]
  all_goals rfl
 rintro k ρ h' ⟨rfl,i,u,hki,hr,hu,r0,r4,r5⟩
 rcases k with _|k
 ·have d1:decide ((i:Int)<10)=false:=decide_eq_false aco
  simp only[go_sem,r0,r4,r5,d1];exact⟨.of acs,.mk _ (.refl _) (.refl _) ⟨aeu,rfl⟩⟩
 have d1:decide ((i:Int)<10)=true:=decide_eq_true aco;have w1:IntKind.i64.wrap ((s.at_:Int)+(i:Int))=((s.at_+i:Nat):Int):=acV;have w2:=acj i aco
 by_cases hc:s.at_+i<s.b.length
 case neg=>
  have d2:decide (((s.at_+i:Nat):Int)<(s.b.length:Int))=false:=decide_eq_false aco;simp only[go_sem,r0,r4,r5,d1,g,w1,acd,d2];rw[List.drop_eq_nil_of_le aco]at hr;exact⟨.of acs,.mk _ (.refl _) (.refl _) ⟨aeu,rfl⟩⟩
 have d2:decide (((s.at_+i:Nat):Int)<(s.b.length:Int))=true:=decide_eq_true aco;rw[List.drop_eq_getElem_cons hc]at hr;generalize hcc:s.b[s.at_+i]=c at hr;simp only[go_sem,r0,r4,r5,d1,g,w1,acd,d2];refine⟨.of acs,.of acs,?_⟩;refine .at (s.at_+i) (by simpa using hc) acz ?_
 simp only[go_sem,r0,r4,r5,ace,hcc,aN];have hclt:=c.toNat_lt;have pw:(2:Nat) ^ (7*i)=128 ^ i:=by rw[Nat.pow_mul]
 have p9:(128:Nat) ^ 9=9223372036854775808:=acr;unfold vn at hr
 by_cases hb:(i=9∧1<c.toNat)∨(0<i∧c.toNat=0)
 ·rw[if_pos hb]at hr
  by_cases h9:i=9∧1<c.toNat
  ·have d3:((i:Int)==9)=true:=by simp;omega
   have d4:decide ((1:Int)<(c.toNat:Int))=true:=decide_eq_true aco;simp only[go_sem,r0,r4,r5,d3,d4];exact .mk _ (.refl _) (.refl _) ⟨aeu,rfl⟩
  ·have hb:0<i∧c.toNat=0:=by omega
   have d4:decide ((1:Int)<(c.toNat:Int))=false:=decide_eq_false aco;have d5:decide ((0:Int)<(i:Int))=true:=decide_eq_true aco;have d6:((c.toNat:Int)==0)=true:=ac5;cases d3:((i:Int)==9)<;>simp only[go_sem,r0,r4,r5,d3,d4,d5,d6]<;>exact .mk _ (.refl _) (.refl _) ⟨aeu,rfl⟩
 rw[if_neg hb]at hr;have hi9:i≤9:=aco;have hle:c.toNat % 128*128 ^ i+u<18446744073709551616:=by
  by_cases e9:i=9
  ·subst e9
   rw[p9]at hu⊢;omega
  ·have h1:(128:Nat) ^ i≤128 ^ 8:=Nat.pow_le_pow_right acr aco
   have h2:(128:Nat) ^ 8=72057594037927936:=acr;exact ain
 have w3:IntKind.u64.wrap ((c.toNat % 128:Nat):Int)=((c.toNat % 128:Nat):Int):=OJ _ aco;have w4:IntKind.i64.wrap ((7:Int)*(i:Int))=((7*i:Nat):Int):=acV;have w5:IntKind.u64.wrap ((7*i:Nat):Int)=((7*i:Nat):Int):=OJ _ aco;have h63:7*i≤63:=aco;have hu' :u<2 ^ (7*i):=by rw[pw];exact hu
 have hor:u+c.toNat % 128*2 ^ (7*i)<18446744073709551616:=by rw[pw];omega
 have wS:c.toNat % 128*2 ^ (7*i) % 18446744073709551616=c.toNat % 128*2 ^ (7*i):=Nat.mod_eq_of_lt aco;have three:(i=9∧c.toNat≤1∧c.toNat≠0)∨(i<9∧0<i∧c.toNat≠0)∨i=0:=aco;cases d7:decide ((c.toNat:Int)<128)
 ·have h7:=acg d7
  rw[if_neg aco]at hr;have hnew:u+c.toNat % 128*2 ^ (7*i)<128 ^ (i+1):=by
   rw[pw,Nat.pow_succ];exact ain
  rw[←pw,Nat.add_assoc]at hr;generalize hU' :u+c.toNat % 128*2 ^ (7*i)=u' at hr hnew hor;rcases three with⟨t1,t2,t3⟩|⟨t1,t2,t3⟩|t1
  ·have d3:((i:Int)==9)=true:=by simp;omega
   have d4:decide ((1:Int)<(c.toNat:Int))=false:=decide_eq_false aco;have d5:decide ((0:Int)<(i:Int))=true:=decide_eq_true aco;have d6:((c.toNat:Int)==0)=false:=ac5;simp only[go_sem,r0,r4,r5,d3,d4,d5,d6,w3,w4,w5,h63,wS,hu',hU',hor,d7,w2];refine⟨k,aco,rfl,i+1,u',aco,hr,hnew,?_,?_,?_⟩<;>simp only[go_sem,r0]
  ·have d3:((i:Int)==9)=false:=by simp;omega
   have d5:decide ((0:Int)<(i:Int))=true:=decide_eq_true aco;have d6:((c.toNat:Int)==0)=false:=ac5;simp only[go_sem,r0,r4,r5,d3,d5,d6,w3,w4,w5,h63,wS,hu',hU',hor,d7,w2];refine⟨k,aco,rfl,i+1,u',aco,hr,hnew,?_,?_,?_⟩<;>simp only[go_sem,r0]
  ·have d3:((i:Int)==9)=false:=by simp;omega
   have d5:decide ((0:Int)<(i:Int))=false:=decide_eq_false aco;simp only[go_sem,r0,r4,r5,d3,d5,w3,w4,w5,h63,wS,hu',hU',hor,d7,w2];refine⟨k,aco,rfl,i+1,u',aco,hr,hnew,?_,?_,?_⟩<;>simp only[go_sem,r0]
 ·have h7:=acf d7
  rw[if_pos aco]at hr;have ec:c.toNat % 128=c.toNat:=aco;rw[←pw]at hr;have hU0:u+c.toNat*2 ^ (7*i)=u+c.toNat % 128*2 ^ (7*i):=by rw[ec]
  rw[hU0]at hr;generalize hU' :u+c.toNat % 128*2 ^ (7*i)=u' at hr hor;have w6:IntKind.i64.wrap ((u' / 2:Nat):Int)=((u' / 2:Nat):Int):=aY _ aco;have b1:(-9223372036854775808:Int)≤((u' / 2:Nat):Int):=aco;have b2:((u' / 2:Nat):Int)≤9223372036854775807:=aco;have un:unzig u' =if u' % 2=1 then -((u' / 2:Nat):Int) - 1 else((u' / 2:Nat):Int):=rfl
  cases d8:(((u' % 2:Nat):Int)==1)
  ·have h8:¬u' % 2=1:=by intro hh;rw[hh]at d8;cases d8
   rw[if_neg h8]at un;rw[un]at hr;rcases three with⟨t1,t2,t3⟩|⟨t1,t2,t3⟩|t1
   ·have d3:((i:Int)==9)=true:=by simp;omega
    have d4:decide ((1:Int)<(c.toNat:Int))=false:=decide_eq_false aco;have d5:decide ((0:Int)<(i:Int))=true:=decide_eq_true aco;have d6:((c.toNat:Int)==0)=false:=ac5;simp only[go_sem,r0,r4,r5,d3,d4,d5,d6,w3,w4,w5,h63,wS,hu',hU',hor,d7,w6,d8,w2];exact .mk _ (.refl _) (.refl _) ⟨aeu,rfl⟩
   ·have d3:((i:Int)==9)=false:=by simp;omega
    have d5:decide ((0:Int)<(i:Int))=true:=decide_eq_true aco;have d6:((c.toNat:Int)==0)=false:=ac5;simp only[go_sem,r0,r4,r5,d3,d5,d6,w3,w4,w5,h63,wS,hu',hU',hor,d7,w6,d8,w2];exact .mk _ (.refl _) (.refl _) ⟨aeu,rfl⟩
   ·have d3:((i:Int)==9)=false:=by simp;omega
    have d5:decide ((0:Int)<(i:Int))=false:=decide_eq_false aco;simp only[go_sem,r0,r4,r5,d3,d5,w3,w4,w5,h63,wS,hu',hU',hor,d7,w6,d8,w2];exact .mk _ (.refl _) (.refl _) ⟨aeu,rfl⟩
  ·have h8:u' % 2=1:=by have:=eq_of_beq d8;omega
   rw[if_pos h8]at un;rw[un]at hr;rcases three with⟨t1,t2,t3⟩|⟨t1,t2,t3⟩|t1
   ·have d3:((i:Int)==9)=true:=by simp;omega
    have d4:decide ((1:Int)<(c.toNat:Int))=false:=decide_eq_false aco;have d5:decide ((0:Int)<(i:Int))=true:=decide_eq_true aco;have d6:((c.toNat:Int)==0)=false:=ac5;simp only[go_sem,r0,r4,r5,d3,d4,d5,d6,w3,w4,w5,h63,wS,hu',hU',hor,d7,w6,d8,b1,b2,w2];exact .mk _ (.refl _) (.refl _) ⟨aeu,rfl⟩
   ·have d3:((i:Int)==9)=false:=by simp;omega
    have d5:decide ((0:Int)<(i:Int))=true:=decide_eq_true aco;have d6:((c.toNat:Int)==0)=false:=ac5;simp only[go_sem,r0,r4,r5,d3,d5,d6,w3,w4,w5,h63,wS,hu',hU',hor,d7,w6,d8,b1,b2,w2];exact .mk _ (.refl _) (.refl _) ⟨aeu,rfl⟩
   ·have d3:((i:Int)==9)=false:=by simp;omega
    have d5:decide ((0:Int)<(i:Int))=false:=decide_eq_false aco;simp only[go_sem,r0,r4,r5,d3,d5,w3,w4,w5,h63,wS,hu',hU',hor,d7,w6,d8,b1,b2,w2];exact .mk _ (.refl _) (.refl _) ⟨aeu,rfl⟩
theorem RC.step{f:FuncId}{args:List AV}{s s' :RS}{R:AV}(hc:RC f args s R s'){h:Heap}{id:Nat}{Q:AV→Heap→Prop}(hid:h id=some (RO s))
  (k:∀h2,h2=upd h id (some (RO s'))→h2 id=some (RO s')→(∀b,upd h2 id b=upd h id b)→Q R h2):ai Tryz.prog f (.ptr id 0::args) h Q:=
 hc.go hid (k _ rfl (ah ..) fun b=>by
  grind [ah,ag])
theorem Dn(s:RS)(hw:WfR s)(lo hi:Int):RC 109 [.i lo,.i hi] s (.v (.int .i64 (rIn s lo hi).1)) (rIn s lo hi).2:=fun h id hid=>by
 have hw1:=hw.1;have hw2:=hw.2;refine acn Tryz.func109 45 [.tmp 6] fun hwf=>?_
 have g:=hid;unfold RO at g;cases d1:s.bad
 case true=>
  rw[d1]at g;simp only[go_sem,g];exact .mk _ (.refl _) (.refl _) ⟨by rw[rIn,if_pos d1];rfl,by rw[rIn,if_pos d1,bG hid]⟩
 have e:rIn s lo hi=(let x:=vn 10 0 0 (s.b.drop s.at_);if x.2=0∨x.1<lo∨hi<x.1 then(0,lP s s.at_)else(x.1,{s with at_:=s.at_+x.2})):=by
  simp_all [rIn,if_neg]
 rw[d1]at g;simp only[go_sem,g];refine(Jg s hw h id hid).pthen ?_;have hlen:=(yX 10 0 0 (s.b.drop s.at_)).1;rw[List.length_drop]at hlen;generalize vn 10 0 0 (s.b.drop s.at_)=x at e hlen⊢;obtain⟨n,z⟩:=x;simp only at e hlen⊢
 by_cases hb:z=0∨n<lo∨hi<n
 ·rw[if_pos hb]at e
  rw[e];have fin:∀P:Prop,P→P:=fun _ p=>p
  rcases Decidable.em (z=0)with c1|c1
  ·have d2:((z:Int)==0)=true:=by grind
   simp only[go_sem,g,d2];refine(oE s s.at_).go hid ?_;exact aha
  have d2:((z:Int)==0)=false:=acp;rcases Decidable.em (n<lo)with c2|c2
  ·simp only[go_sem,g,d2,decide_eq_true c2]
   refine(oE s s.at_).go hid ?_;exact aha
  ·simp only[go_sem,g,d2,decide_eq_false c2,decide_eq_true (show hi<n by omega)]
   refine(oE s s.at_).go hid ?_;exact aha
 ·rw[if_neg hb]at e
  rw[e];have d2:((z:Int)==0)=false:=acp;have w1:IntKind.i64.wrap ((s.at_:Int)+(z:Int))=((s.at_+z:Nat):Int):=acE;simp only[go_sem,g,d2,decide_eq_false (show¬n<lo by omega),decide_eq_false (show¬hi<n by omega),w1]
  exact .mk _ (.refl _) (.refl _) ⟨rfl,by grind [RO]⟩
theorem FC(s:RS)(hw:WfR s):RC 61 [] s (.v (.int .i64 (gx s).1)) (gx s).2:=fun h id hid=>by
 refine acn Tryz.func61 5 [.tmp 2] fun hwf=>?_
 simp only[go_sem];refine(Dn s hw _ _).go hid ?_;exact aha
theorem Cc{s:RS}{lo hi:Int}(hw:WfR s)(h0:lo≤0)(h1:0≤hi):lo≤(rIn s lo hi).1∧(rIn s lo hi).1≤hi:=by
 grind [rIn]
theorem gF{s:RS}{most:Int}(hw:WfR s)(hm:0≤most):WfR (bX s most).2:=by
 have h1:=lK (lo:=0) (hi:=most) hw;have h2:=Cc (lo:=0) (hi:=most) hw (Int.le_refl 0) hm;unfold bX;simp only;split
 ·exact yW h1
 ·exact⟨acp,h1.2⟩
theorem pE(s:RS)(hw:WfR s)(most:Int)(hmo:0≤most):RC 62 [.i most] s (.s (bX s most).1) (bX s most).2:=fun h id hid=>by
 have hx:=lK (lo:=0) (hi:=most) hw;have hx2:=Cc (lo:=0) (hi:=most) hw (Int.le_refl 0) hmo;refine acn Tryz.func62 59 [.tmp 4] fun hwf=>?_
 have g:=hid;unfold RO at g;simp only[go_sem,g];refine(Dn s hw 0 most).step hid ?_;have e:bX s most=(let x:=rIn s 0 most;if x.2.bad∨(x.2.b.length:Int) - x.2.at_<x.1 then([],lP x.2 s.at_)else((x.2.b.drop x.2.at_).take x.1.toNat,{x.2 with at_:=x.2.at_+x.1.toNat})):=rfl
 generalize rIn s 0 most=x at e hx hx2⊢;obtain⟨n,t⟩:=x;simp only at e hx hx2⊢;obtain⟨m,rfl⟩:=Int.eq_ofNat_of_zero_le hx2.1;have ht1:=hx.1;have ht2:=hx.2;intro h2 eh2 hid2 hup;have g2:=hid2;unfold RO at g2;have w1:IntKind.i64.wrap ((t.b.length:Int) - (t.at_:Int))=(t.b.length:Int) - (t.at_:Int):=aY _ aco;clear eh2 hid g
 by_cases hb:t.bad=true∨(t.b.length:Int) - t.at_<((m:Nat):Int)
 ·rw[if_pos hb]at e
  rw[e];cases d1:t.bad<;>rw[d1]at g2
  ·have hb:(t.b.length:Int) - t.at_<((m:Nat):Int):=by
    grind
   simp only[go_sem,g2,w1,acd,decide_eq_true hb];exact ahz
  ·simp only[go_sem,g2]
   exact ahz
 ·rw[if_neg hb]at e
  rw[e];have d1:t.bad=false:=by
   grind
  rw[d1]at g2;have hle:t.at_+m≤t.b.length:=aco;have w2:IntKind.i64.wrap ((t.at_:Int)+(m:Int))=((t.at_+m:Nat):Int):=acE;have w3:IntKind.i64.wrap (((t.at_+m:Nat):Int) - (m:Int))=(t.at_:Int):=acE;simp only[go_sem,g2,w1,acd,decide_eq_false (show¬(t.b.length:Int) - t.at_<((m:Nat):Int) by omega)]
  refine⟨.of acs,?_⟩;simp only[go_sem,g2,w2,w3,acd];exact⟨.of acs,aco,aco,aco,.mk _ (.refl _) (.refl _) ⟨by rw[show t.at_+m - t.at_=m by omega];rfl,by grind [RO]⟩⟩
structure RAt (h0:Heap) (id:Nat) (h:Heap) (s:RS):Prop where
 here:h id=some (RO s)
 sub:∀j b,j≠id→h0 j=some b→h j=some b
theorem RAt.start{h:Heap}{id:Nat}{s:RS}(hid:h id=some (RO s)):RAt h id h s:=⟨hid,fun _ _ _ e=>e⟩
theorem RAt.fin{h0 h:Heap}{id:Nat}{s:RS}(hr:RAt h0 id h s):Ab.Sub (upd h0 id (some (RO s))) h:=fun j b e=>by
 by_cases hj:j=id
 ·subst hj;rw[ah]at e;rw[hr.here,e]
 ·rw[ag _ _ hj]at e;exact hr.sub j b hj e
theorem RAt.ne{h0 h:Heap}{id i:Nat}{s:RS}(hr:RAt h0 id h s)(hi:h i=none):i≠id:=fun e=>by rw[e,hr.here]at hi;grind
theorem RAt.none{h0 h:Heap}{id i:Nat}{s:RS}(hr:RAt h0 id h s)(hi:h i=Option.none):h0 i=Option.none:=by
 cases e:h0 i with
 |none=>rfl
 |some b=>rw[hr.sub i b (hr.ne hi) e]at hi;omega
theorem RAt.put{h0 h:Heap}{id i:Nat}{s:RS}{b:Option Blk}(hr:RAt h0 id h s)(hi:h0 i=Option.none)(hn:i≠id):RAt h0 id (upd h i b) s:=
 ⟨by rw[ag _ _ (Ne.symm hn)];exact hr.here,fun j c hj e=>by
  rw[ag _ _ fun e2=>acp]
  exact hr.sub j c hj e⟩
theorem RAt.step{f:FuncId}{args:List AV}{s s' :RS}{R:AV}{h0 h:Heap}{id:Nat}{Q:AV→Heap→Prop}(hr:RAt h0 id h s)(hc:RC f args s R s')(k:∀h2,RAt h0 id h2 s'→(∀j,j≠id→h2 j=h j)→Q R h2):ai Tryz.prog f (.ptr id 0::args) h Q:=
 hc.go hr.here (k _ ⟨ah ..,fun j b hj e=>by rw[ag _ _ hj];exact hr.sub j b hj e⟩ fun j hj=>ag _ _ hj)
theorem HD{s:RS}(hw:WfR s):WfR (rM s).2:=by
 have h1:=lK (lo:=1) (hi:=5) hw;unfold rM;simp only;generalize rIn s 1 5=x at h1⊢;have h2:WfR (if tJ x.1=true then((⟨x.1,0,(bX x.2 64).1⟩,(bX x.2 64).2):bD×RS)else(⟨x.1,(gx x.2).1,[]⟩,(gx x.2).2)).2:=by
  split
  ·grind [gF]
  ·exact lK h1
 generalize (if tJ x.1=true then((⟨x.1,0,(bX x.2 64).1⟩,(bX x.2 64).2):bD×RS)else(⟨x.1,(gx x.2).1,[]⟩,(gx x.2).2))=y at h2⊢
 split
 ·exact agu
 ·split
  ·exact yW h2
  ·exact agu
theorem Gp(s:RS)(hw:WfR s):RC 64 [] s (aU (rM s).1) (rM s).2:=fun h id hid=>by
 have hw1:=lK (lo:=1) (hi:=5) hw;refine acn Tryz.func64 31 [.cell 2 30] fun hwf=>?_
 simp only[go_sem];intro i1 h1;have a0:=RAt.start hid;have n1:=a0.ne h1;have m1:=a0.none h1;have a1:=a0.put (b:=some (.obj [.i 0,.i 0,.s []] 30)) m1 n1;simp only[go_sem];refine a1.step (Kl s) fun g1 b1 k1=>?_
 have c1:=k1 i1 n1;rw[ah]at c1;clear a0 a1 k1;simp only[go_sem];refine b1.step (Dn s hw 1 5) fun g2 b2 k2=>?_
 have c2:=(k2 i1 n1).trans c1;clear b1 c1 k2;simp only[go_sem];intro i2 h2;have n2:=b2.ne h2;have m2:=b2.none h2;have n21:i2≠i1:=fun e=>by rw[e,c2]at h2;cases h2
 have e:rM s=(let x:=rIn s 1 5;let y:bD×RS:=if tJ x.1 then(let t:=bX x.2 64;(⟨x.1,0,t.1⟩,t.2))else(let t:=gx x.2;(⟨x.1,t.1,[]⟩,t.2));if y.2.bad then(ax,y.2)else if bL y.1=false then(ax,lP y.2 s.at_)else y):=rfl
 generalize rIn s 1 5=x at e hw1 b2⊢;obtain⟨kd,t⟩:=x;simp only at e hw1 b2⊢;have b3:=b2.put (b:=some (.obj [.i kd,.i 0,.s []] 30)) m2 n2;have c3:upd g2 i2 (some (.obj [.i kd,.i 0,.s []] 30)) i1=_:=(ag _ _ (Ne.symm n21)).trans c2;have d3:upd g2 i2 (some (.obj [.i kd,.i 0,.s []] 30)) i2=_:=ah ..;clear b2 c2 h2;simp only[go_sem,ah];generalize upd g2 i2 (some (.obj [.i kd,.i 0,.s []] 30))=g3 at b3 c3 d3⊢;refine(zv kd _).pthen ?_;simp only[go_sem];cases dt:(kd==3||kd==5)
 ·have et:tJ kd=false:=dt
  rw[et]at e;simp only[Bool.false_eq_true,if_false]at e;simp only[go_sem];refine b3.step (FC t hw1) fun g4 b4 k4=>?_
  have c4:=(k4 i1 n1).trans c3;have d4:=(k4 i2 n2).trans d3;have e5:rM s=(if(gx t).2.bad then(ax,(gx t).2)else if bL (⟨kd,(gx t).1,[]⟩:bD)=false then(ax,lP (gx t).2 s.at_)else((⟨kd,(gx t).1,[]⟩:bD),(gx t).2)):=e
  have wT:WfR (gx t).2:=lK hw1;have b5:=b4.put (b:=(some (.obj [.i kd,.v (.int .i64 (gx t).1),.s []] 30))) m2 n2;have c5:upd g4 i2 (some (.obj [.i kd,.v (.int .i64 (gx t).1),.s []] 30)) i1=_:=(ag _ _ (Ne.symm n21)).trans c4;have d5:upd g4 i2 (some (.obj [.i kd,.v (.int .i64 (gx t).1),.s []] 30)) i2=_:=ah ..;simp only[go_sem,d4];generalize upd g4 i2 (some (.obj [.i kd,.v (.int .i64 (gx t).1),.s []] 30))=g5 at b5 c5 d5⊢;clear b4 c4 d4 k4 e;refine b5.step (zE _) fun g6 b6 k6=>?_
  have c6:=(k6 i1 n1).trans c5;have d6:=(k6 i2 n2).trans d5;clear b5 c5 d5 k6;cases db:(gx t).2.bad
  ·rw[db,if_neg acr]at e5
   simp only[go_sem,db,d6];refine(gq (⟨kd,(gx t).1,[]⟩:bD) g6).pthen ?_;cases dv:bL (⟨kd,(gx t).1,[]⟩:bD)
   ·exact ahl
   ·exact ah9
  ·exact aia
 ·have et:tJ kd=true:=dt
  rw[et]at e;simp only[if_true]at e;simp only[go_sem];refine b3.step (pE t hw1 64 acr) fun g4 b4 k4=>?_
  have c4:=(k4 i1 n1).trans c3;have d4:=(k4 i2 n2).trans d3;have e5:rM s=(if(bX t 64).2.bad then(ax,(bX t 64).2)else if bL (⟨kd,0,(bX t 64).1⟩:bD)=false then(ax,lP (bX t 64).2 s.at_)else((⟨kd,0,(bX t 64).1⟩:bD),(bX t 64).2)):=e
  have wT:WfR (bX t 64).2:=gF hw1 acr;have b5:=b4.put (b:=(some (.obj [.i kd,.i 0,.s (bX t 64).1] 30))) m2 n2;have c5:upd g4 i2 (some (.obj [.i kd,.i 0,.s (bX t 64).1] 30)) i1=_:=(ag _ _ (Ne.symm n21)).trans c4;have d5:upd g4 i2 (some (.obj [.i kd,.i 0,.s (bX t 64).1] 30)) i2=_:=ah ..;simp only[go_sem,d4];generalize upd g4 i2 (some (.obj [.i kd,.i 0,.s (bX t 64).1] 30))=g5 at b5 c5 d5⊢;clear b4 c4 d4 k4 e;refine b5.step (zE _) fun g6 b6 k6=>?_
  have c6:=(k6 i1 n1).trans c5;have d6:=(k6 i2 n2).trans d5;clear b5 c5 d5 k6;cases db:(bX t 64).2.bad
  ·rw[db,if_neg acr]at e5
   simp only[go_sem,db,d6];refine(gq (⟨kd,0,(bX t 64).1⟩:bD) g6).pthen ?_;cases dv:bL (⟨kd,0,(bX t 64).1⟩:bD)
   ·exact ahl
   ·exact ah9
  ·exact aia
theorem HC{s:RS}(hw:WfR s):WfR (rL s).2:=by
 grind [rL,lK,HD]
theorem Q6(s:RS)(hw:WfR s)(q:Perm):RC 63 [.sl (s.b.map aN) q] s (aU (rL s).1) (rL s).2:=fun h id hid=>by
 have hw1:=hw.1;have hw2:=hw.2;refine acn Tryz.func63 25 [.cell 4 30] fun hwf=>?_
 simp only[go_sem];intro i1 h1;have a0:=RAt.start hid;have n1:=a0.ne h1;have m1:=a0.none h1;have a1:=a0.put (b:=some (.obj [.i 0,.i 0,.s []] 30)) m1 n1;simp only[go_sem];refine a1.step (Kl s) fun g1 b1 k1=>?_
 have c1:=k1 i1 n1;rw[ah]at c1;clear a0 a1 k1
 by_cases hlt:s.at_<s.b.length
 ·have d1:decide ((s.at_:Int)<(s.b.length:Int))=true:=decide_eq_true aco
  simp only[go_sem,acd,d1];refine b1.step (Kl s) fun g2 b2 k2=>?_
  have c2:=(k2 i1 n1).trans c1;clear b1 c1 k2;simp only[go_sem];refine .at s.at_ acp acz ?_;have hg:s.b.getD s.at_ 0=s.b[s.at_]:=acp;generalize hcc:s.b[s.at_]=c at hg;cases d2:((c.toNat:Int)==0)
  ·have hne:c≠0:=fun e=>by simp_all
   have e:rL s=rM s:=by simp_all [rL,if_neg]
   rw[e];simp only[go_sem,ace,hcc,aN,d2];refine b2.step (Gp s hw) fun g3 b3 k3=>?_
   have c3:=(k3 i1 n1).trans c2;simp only[go_sem,c3,ah,aU];exact ae8
  ·have he:c=0:=by
    have:=eq_of_beq d2;exact UInt8.toNat_inj.1 acp
   have e:rL s=(ax,(rIn (rIn s 0 0).2 0 0).2):=by simp_all [rL,if_pos]
   rw[e];simp only[go_sem,ace,hcc,aN,d2];refine b2.step (Dn s hw 0 0) fun g3 b3 k3=>?_
   have c3:=(k3 i1 n1).trans c2;simp only[go_sem];refine b3.step (Dn _ (lK hw) 0 0) fun g4 b4 k4=>?_
   have c4:=(k4 i1 n1).trans c3;simp only[go_sem,c4,ah];exact .mk _ (.refl _) (b4.put m1 n1).fin ⟨rfl,rfl⟩
 ·have d1:decide ((s.at_:Int)<(s.b.length:Int))=false:=decide_eq_false aco
  have e:rL s=rM s:=by simp_all [rL,if_neg]
  rw[e];simp only[go_sem,acd,d1];refine b1.step (Gp s hw) fun g3 b3 k3=>?_
  have c3:=(k3 i1 n1).trans c1;simp only[go_sem,c3,ah,aU];exact ae8
theorem CH(a b:Txt)(p q:Perm)(h:Heap):ai Tryz.prog 66 [.sl (a.map aN) p,.sl (b.map aN) q] h fun r h' =>r= .b (decide (a=b))∧h' =h:=by
 refine acn Tryz.func66 10 [.tmp 4] fun hwf=>?_
 simp only[go_sem];exact .same (.refl _) ⟨by
  grind [au],rfl⟩
structure OpL (o:OpD):Prop where
 subj:o.subj.length≤100000
 case:o.case.length≤100000
 field:o.field.length≤100000
 to:o.to.length≤100000
 val:o.val.s.length≤100000
 text:o.text.length≤100000
 reason:o.reason.length≤100000
def opT(o:OpD):List Txt:=[o.subj,o.case,o.field,o.to]
theorem Cb(o:OpD)(h64:pQ o)(hl:OpL o)(h:Heap):ai Tryz.prog 23 [opA o] h fun r h' =>r= .sl ((lJ o).map aN) .no∧h' =h:=by
 obtain⟨k1,k2,k3,k4⟩:=h64;have hnk:=jP o.kind;obtain⟨l1,l2,l3,l4,l5,l6,l7⟩:=hl;have t1:=fN o.subj;have t2:=fN o.case;have t3:=fN o.field;have t4:=fN o.to;refine acn Tryz.func23 46 [.tmp 2] fun hwf=>?_
 simp only[go_sem,opA,opC];intro id hid;simp only[go_sem];refine(B5 (.sl [] .full) [] o.kind _ (.nil _) acw k1).pthen ?_;simp only[go_sem];generalize hH:upd h id _=H;have hHid:H id=some (.obj (opC o) 32):=by rw[←hH];exact ah ..
 have hsub:Ab.Sub h H:=by rw[←hH];exact(Sub.refl h).new hid _
 unfold opC at hHid;clear hH;refine .intro (fun m ρ h' =>h' =H∧∃i:Nat,i≤4∧m=4 - i∧lk ρ 1=some (.ptr id 0)∧lk ρ 3=some (.sl ((oV o.kind++(((opT o).map fy).take i).flatten).map aN) .no)∧(∃q,lk ρ 17=some (.sl ((opT o).map .s) q))∧lk ρ 18=some (.i 4)∧lk ρ 19=some (.i i)) 4 ?_ ?_
 ·refine⟨rfl,0,aco,rfl,?_,?_,?_,?_,?_⟩
  ·rfl
  ·simp only[go_sem]
   simp
  ·refine⟨?_,?_⟩
   rotate_left
   ·simp only[go_sem]
    rfl
  ·rfl
  rfl
 rintro m ρ h' ⟨rfl,i,hi,rfl,r1,r3,⟨q,r17⟩,r18,r19⟩
 have hLl:((opT o).map fy).length=4:=rfl;have hOl:(opT o).length=4:=rfl;have hF:((opT o).map fy).flatten.length≤400040:=by grind [opT]
 have hf:=oH ((opT o).map fy) i;have hall:∀t∈opT o,t.length≤100000:=by simp_all [opT]
 by_cases hc:i<4
 ·have d1:decide ((i:Int)<4)=true:=decide_eq_true aco
  have w1:IntKind.i64.wrap ((i:Int)+1)=((i+1:Nat):Int):=acE;have hs:=nH ((opT o).map fy) i aco;rw[ace]at hs;have ht:=hall _ (aci (show i<(opT o).length by omega))
  simp only[go_sem,r1,r3,r17,r18,r19,d1];refine .at i acp acz ?_;simp only[go_sem,r1,r3,r17,r18,r19,ace];refine(xo _ (oV o.kind++(((opT o).map fy).take i).flatten) (opT o)[i] _ (.sl _ _) acp aco).pthen ?_;simp only[go_sem,r1,r3,r17,r18,r19,w1];refine⟨3 - i,aco,rfl,i+1,aco,aco,?_,?_,⟨q,?_⟩,?_,?_⟩
  ·simp only[go_sem,r1]
  ·simp only[go_sem,hs,List.append_assoc]
   rfl
  ·simp only[go_sem,r17]
  ·simp only[go_sem,r18]
  ·simp only[go_sem]
 ·have e:i=4:=by omega
  subst e;have e4:(((opT o).map fy).take 4).flatten=fy o.subj++(fy o.case++(fy o.field++fy o.to)):=by simp[opT]
  rw[e4]at r3 hf;have d1:decide ((4:Int)<4)=false:=rfl;generalize hP:oV o.kind++(fy o.subj++(fy o.case++(fy o.field++fy o.to)))=P1 at r3;have hP1:P1.length≤400050:=acp;simp only[go_sem,r1,r3,r17,r18,r19,hHid,d1];refine .quiet acs ?_;simp only[go_sem,r1,r3,r17,r18,r19,hHid,d1];refine⟨_,HA _ P1 o.val _ (.sl _ _) aco k2 k3 aco,?_⟩;have e2:(zy o.val).length≤100020:=by
   grind [zy,ach,jP,fN]
  simp only[go_sem,r1,hHid];refine⟨_,B5 _ (P1++zy o.val) o.review _ (.sl _ _) acp k4,?_⟩;generalize hP2:P1++zy o.val++oV o.review=P2;have hP2l:P2.length≤500080:=by
   grind [jP,ach]
  simp only[go_sem,r1,hHid];refine .quiet acs ?_;simp only[go_sem,r1,hHid];refine⟨_,xo _ P2 o.text _ (.sl _ _) aco aco,?_⟩;have e3:=fN o.text;simp only[go_sem,r1,hHid];refine⟨_,xo _ (P2++fy o.text) o.reason _ (.sl _ _) acp aco,?_⟩;generalize hP3:P2++fy o.text++fy o.reason=P3;have e4:=fN o.reason;have hP3l:P3.length≤800000:=acp;simp only[go_sem,r1,hHid];refine(Ex o.glass _).pthen ?_;simp only[go_sem];refine(HA _ P3 (eS o.glass) _ (.sl _ _) aco ?_ ?_ ?_).pthen ?_
  ·cases o.glass<;>exact⟨acr,acr⟩
  ·cases o.glass<;>exact⟨acr,acr⟩
  ·cases o.glass<;>decide
  simp only[go_sem];refine .mk _ (.refl _) hsub ⟨?_,rfl⟩
  grind [lJ,List.append_assoc,au]
theorem kP.base{h H g:Heap}{y:AV}{l:Txt}(hs:Ab.Sub h H)(ha:kP H g y l):kP h g y l:=by
 obtain⟨h1,h2|⟨id,i1,h2,h3⟩⟩:=ha
 ·exact⟨hs.trans h1,.inl h2⟩
 ·exact⟨hs.trans h1,.inr ⟨id,hs.none i1,h2,h3⟩⟩
theorem Oj(ch:BitVec 64)(o:OpD)(h64:pQ o)(hl:OpL o)(hp:(lJ o).length≤1000000)(h:Heap):ai Tryz.prog 18 [.v (.int .u64 (ch.toNat:Int)),opA o] h fun r h' =>kP h h' r (fX ch o):=by
 refine acn Tryz.func18 20 [.tmp 4] fun hwf=>?_
 simp only[go_sem,opA,opC];intro id hid;generalize hH:upd h id _=H;have hHid:H id=some (.obj (opC o) 32):=by rw[←hH];exact ah ..
 have hsub:Ab.Sub h H:=by rw[←hH];exact(Sub.refl h).new hid _
 clear hH;simp only[go_sem];refine .intro (fun k ρ g=>∃(i:Nat) (v:BitVec 64) (l:Txt) (z:AV),kP H g z l∧i+k=8∧l++qt k v=qt 8 ch∧lk ρ 0=some (.v (.int .u64 (v.toNat:Int)))∧lk ρ 3=some (.ptr id 0)∧lk ρ 5=some z∧lk ρ 6=some (.i (i:Int))) 8 ?_ ?_
 ·refine⟨0,ch,[],_,Acc.full (.refl _),rfl,rfl,?_,?_,?_,?_⟩<;>simp only[go_sem]
  all_goals rfl
 rintro k ρ g ⟨i,v,l,z,ha,hk,hv,r0,r3,r5,r6⟩
 have hll:=congrArg List.length hv;rw[ach,nR,nR]at hll;rcases k with _|k
 ·have d1:decide ((i:Int)<8)=false:=decide_eq_false aco
  have hg:=ha.1 _ _ hHid;unfold opC at hg;rw[show qt 0 v= []from rfl,List.append_nil]at hv
  subst hv;simp only[go_sem,r0,r3,r5,r6,d1,hg];refine(Cb o h64 hl g).pthen ?_;simp only[go_sem];refine kP.app ha (m:=lJ o) (fun _ hk=>hk) aco fun z' h2 ha' =>?_
  simp only[go_sem];exact .same (.refl _) (ha'.base hsub)
 ·have d1:decide ((i:Int)<8)=true:=decide_eq_true aco
  have w1:IntKind.i64.wrap ((i:Int)+1)=((i+1:Nat):Int):=acE;simp only[go_sem,r0,r3,r5,r6,d1,wu8];refine kP.app ha (m:=[UInt8.ofNat v.toNat]) (fun _ hk=>hk) acp fun z' h2 ha' =>?_
  have e8:v.toNat / 256=(v>>>8).toNat:=aeN;simp only[go_sem,r0,r3,r5,r6,w1,e8];refine⟨k,aco,i+1,v>>>8,l++ [UInt8.ofNat v.toNat],z',ha',aco,?_,?_,?_,?_,?_⟩
  ·grind [qt]
  all_goals simp only[go_sem,r3]
theorem Cg(ch:BitVec 64)(o:OpD)(h64:pQ o)(hl:OpL o)(hp:(lJ o).length≤1000000)(h:Heap):ai Tryz.prog 18 [.v (.int .u64 (ch.toNat:Int)),opA o] h fun r h' =>r= .sl ((fX ch o).map aN) .no∧h' =h:=
 kP.pure fun g _=>Oj ch o h64 hl hp g
theorem ue{s:RS}(hw:WfR s):i64 (gx s).1:=Cc hw acr acr
theorem HX:i64 ax.kind∧i64 ax.n:=⟨⟨acr,acr⟩,⟨acr,acr⟩⟩
theorem HB{s:RS}{a:Nat}:(lP s a).b=s.b:=by grind [lP]
theorem Pu{s:RS}{lo hi:Int}:(rIn s lo hi).2.b=s.b:=by
 grind [rIn,HB]
theorem xh{s:RS}{m:Int}:(bX s m).2.b=s.b:=by
 grind [bX,HB,Pu]
theorem Oe{s:RS}(hw:WfR s):i64 (rM s).1.kind∧i64 (rM s).1.n:=by
 have hz:=HX;have h1:=lK (lo:=1) (hi:=5) hw;have h2: -1≤(rIn s 1 5).1∧(rIn s 1 5).1≤5:=by
  grind [rIn]
 unfold rM;simp only;generalize rIn s 1 5=x at h1 h2⊢;have h3:i64 (if tJ x.1=true then((⟨x.1,0,(bX x.2 64).1⟩,(bX x.2 64).2):bD×RS)else(⟨x.1,(gx x.2).1,[]⟩,(gx x.2).2)).1.kind∧i64 (if tJ x.1=true then((⟨x.1,0,(bX x.2 64).1⟩,(bX x.2 64).2):bD×RS)else(⟨x.1,(gx x.2).1,[]⟩,(gx x.2).2)).1.n:=by
  split
  ·exact⟨⟨acp,acp⟩,⟨acw,acw⟩⟩
  ·exact⟨⟨acp,acp⟩,ue h1⟩
 generalize (if tJ x.1=true then((⟨x.1,0,(bX x.2 64).1⟩,(bX x.2 64).2):bD×RS)else(⟨x.1,(gx x.2).1,[]⟩,(gx x.2).2))=y at h3⊢
 split
 ·exact hz
 ·split
  ·exact hz
  ·exact h3
theorem Cd{s:RS}(hw:WfR s):i64 (rL s).1.kind∧i64 (rL s).1.n:=by
 grind [rL,HX,Oe]
def u6:OpD:=⟨0,[],[],[],[],ax,0,[],[],false⟩
def IS(l:Txt):AV:=.tup [opA ((pU l).getD u6),.v (.bool (pU l).isSome)]
theorem Ro(l:Txt):rOp l=(let k:=gx ⟨l,0,false⟩;let s1:=bX k.2 16;let s2:=bX s1.2 16;let s3:=bX s2.2 16;let s4:=bX s3.2 16;let v:=rL s4.2;let r:=gx v.2;let t:=bX r.2 4096;let w:=bX t.2 64;let g:=rM w.2
 (⟨k.1,s1.1,s2.1,s3.1,s4.1,v.1,r.1,t.1,w.1,eqV g.1 (eS true)⟩,g.2)):=rfl
theorem f_l{o:OpD}(h:OpF o):OpL o:=by
 obtain⟨a,b,c,d,e,f,g⟩:=h;refine⟨aco,aco,aco,aco,?_,aco,aco⟩;rcases e with e|e
 ·rw[e];decide
 ·by_cases hk:o.val.kind=3∨o.val.kind=5
  ·have:=(Bn e hk).2;omega
  grind [JU]
theorem RAt.base{h g:Heap}{id:Nat}{s:RS}(hr:RAt h id g s)(hn:h id=Option.none):Ab.Sub h g:=fun j b e=>hr.sub j b acp e
set_option maxHeartbeats 1000000 in
theorem K8(l:Txt)(q:Perm)(hl:l.length≤1000000)(h:Heap):ai Tryz.prog 24 [.sl (l.map aN) q] h fun r h' =>r=IS l∧h' =h:=by
 refine acn Tryz.func24 58 [.cell 2 32,.tmp 3] fun hwf=>?_
 simp only[go_sem];intro i1 h1;simp only[go_sem];refine(Oi _ l _ (.sl _ _) hl).mono fun r g ⟨id,hid,er,eg⟩=>?_
 subst er;have n1:i1≠id:=fun e=>agq
 have m0:h id=none:=by simp_all [ag,Ne.symm]
 have w0:WfR ⟨l,0,false⟩:=⟨Nat.zero_le _,hl⟩;have b0:RAt h id g ⟨l,0,false⟩:=⟨by simp_all [ah],fun j b hj e=>by
  rw[eg,ag _ _ hj,ag _ _ fun e2=>acp]
  exact e⟩
 have c0:g i1=some (.obj (opC u6) 32):=by rw[eg,ag _ _ n1];exact ah ..
 clear eg hid;simp only[go_sem];intro i2 h2;have n2:=b0.ne h2;have m1:=h1;have m2:=b0.none h2;have n21:i2≠i1:=fun e=>acp
 clear h2;have e:=Ro l;simp only at e;have g0e:g=g:=rfl;generalize g=g0 at b0 c0⊢;clear g0e;simp only[go_sem];have b0' :=b0.put (b:=(some (.obj [.i 0,.s [],.s [],.s [],.s [],.i 0,.i 0,.s [],.i 0,.s [],.s [],.b false] 32))) m2 n2;have c0' :upd g0 i2 (some (.obj [.i 0,.s [],.s [],.s [],.s [],.i 0,.i 0,.s [],.i 0,.s [],.s [],.b false] 32)) i1=_:=(ag _ _ (Ne.symm n21)).trans c0;have d0' :upd g0 i2 (some (.obj [.i 0,.s [],.s [],.s [],.s [],.i 0,.i 0,.s [],.i 0,.s [],.s [],.b false] 32)) i2=_:=ah ..;clear b0 c0;generalize upd g0 i2 (some (.obj [.i 0,.s [],.s [],.s [],.s [],.i 0,.i 0,.s [],.i 0,.s [],.s [],.b false] 32))=g1 at b0' c0' d0'⊢;have b1:=b0';have c1:=c0';have d1:=d0';clear b0' c0' d0';refine b1.step (FC _ w0) fun g2 b2 k2=>?_
 have c2:=(k2 i1 n1).trans c1;have d2:=(k2 i2 n2).trans d1;clear b1 c1 d1 k2;have w1:=lK (lo:= -9223372036854775808) (hi:=9223372036854775807) w0;have q1:=ue w0
 change WfR (gx _).2 at w1
 have hb1:(gx ⟨l,0,false⟩).2.b=l:=Pu;generalize gx ⟨l,0,false⟩=x1 at e w1 q1 hb1 b2⊢;obtain⟨v1,s1⟩:=x1;simp only at e w1 q1 hb1 b2⊢;simp only[go_sem,d2,ah];have b2' :=b2.put (b:=(some (.obj [.i v1,.s [],.s [],.s [],.s [],.i 0,.i 0,.s [],.i 0,.s [],.s [],.b false] 32))) m2 n2;have c2' :upd g2 i2 (some (.obj [.i v1,.s [],.s [],.s [],.s [],.i 0,.i 0,.s [],.i 0,.s [],.s [],.b false] 32)) i1=_:=(ag _ _ (Ne.symm n21)).trans c2;have d2' :upd g2 i2 (some (.obj [.i v1,.s [],.s [],.s [],.s [],.i 0,.i 0,.s [],.i 0,.s [],.s [],.b false] 32)) i2=_:=ah ..;clear b2 c2 d2;generalize upd g2 i2 (some (.obj [.i v1,.s [],.s [],.s [],.s [],.i 0,.i 0,.s [],.i 0,.s [],.s [],.b false] 32))=g3 at b2' c2' d2'⊢;have b3:=b2';have c3:=c2';have d3:=d2';clear b2' c2' d2';refine b3.step (pE _ w1 16 acr) fun g4 b4 k4=>?_
 have c4:=(k4 i1 n1).trans c3;have d4:=(k4 i2 n2).trans d3;clear b3 c3 d3 k4;have w2:=gF (most:=16) w1 acr;have hb2:(bX s1 16).2.b=l:=xh.trans hb1;generalize bX s1 16=x2 at e w2 hb2 b4⊢;obtain⟨v2,s2⟩:=x2;simp only at e w2 hb2 b4⊢;simp only[go_sem];refine b4.step (pE _ w2 16 acr) fun g5 b5 k5=>?_
 have c5:=(k5 i1 n1).trans c4;have d5:=(k5 i2 n2).trans d4;clear b4 c4 d4 k5;have w3:=gF (most:=16) w2 acr;have hb3:(bX s2 16).2.b=l:=xh.trans hb2;generalize bX s2 16=x3 at e w3 hb3 b5⊢;obtain⟨v3,s3⟩:=x3;simp only at e w3 hb3 b5⊢;simp only[go_sem];refine b5.step (pE _ w3 16 acr) fun g6 b6 k6=>?_
 have c6:=(k6 i1 n1).trans c5;have d6:=(k6 i2 n2).trans d5;clear b5 c5 d5 k6;have w4:=gF (most:=16) w3 acr;have hb4:(bX s3 16).2.b=l:=xh.trans hb3;generalize bX s3 16=x4 at e w4 hb4 b6⊢;obtain⟨v4,s4⟩:=x4;simp only at e w4 hb4 b6⊢;simp only[go_sem];refine b6.step (pE _ w4 16 acr) fun g7 b7 k7=>?_
 have c7:=(k7 i1 n1).trans c6;have d7:=(k7 i2 n2).trans d6;clear b6 c6 d6 k7;have w5:=gF (most:=16) w4 acr;have hb5:(bX s4 16).2.b=l:=xh.trans hb4;generalize bX s4 16=x5 at e w5 hb5 b7⊢;obtain⟨v5,s5⟩:=x5;simp only at e w5 hb5 b7⊢;simp only[go_sem,d7,ah];have b7' :=b7.put (b:=(some (.obj [.i v1,.s v2,.s v3,.s v4,.s v5,.i 0,.i 0,.s [],.i 0,.s [],.s [],.b false] 32))) m2 n2;have c7' :upd g7 i2 (some (.obj [.i v1,.s v2,.s v3,.s v4,.s v5,.i 0,.i 0,.s [],.i 0,.s [],.s [],.b false] 32)) i1=_:=(ag _ _ (Ne.symm n21)).trans c7;have d7' :upd g7 i2 (some (.obj [.i v1,.s v2,.s v3,.s v4,.s v5,.i 0,.i 0,.s [],.i 0,.s [],.s [],.b false] 32)) i2=_:=ah ..;clear b7 c7 d7;generalize upd g7 i2 (some (.obj [.i v1,.s v2,.s v3,.s v4,.s v5,.i 0,.i 0,.s [],.i 0,.s [],.s [],.b false] 32))=g8 at b7' c7' d7'⊢;have b8:=b7';have c8:=c7';have d8:=d7';clear b7' c7' d7';rw[show l.map aN=s5.b.map aN by grind]
 refine b8.step (Q6 _ w5 _) fun g9 b9 k9=>?_
 have c9:=(k9 i1 n1).trans c8;have d9:=(k9 i2 n2).trans d8;clear b8 c8 d8 k9;have w6:=HC w5;have q6:=Cd w5;generalize rL s5=x6 at e w6 q6 b9⊢;obtain⟨v6,s6⟩:=x6;simp only at e w6 q6 b9⊢;simp only[go_sem,d9,ah,aU];have b9' :=b9.put (b:=(some (.obj [.i v1,.s v2,.s v3,.s v4,.s v5,.i v6.kind,.i v6.n,.s v6.s,.i 0,.s [],.s [],.b false] 32))) m2 n2;have c9' :upd g9 i2 (some (.obj [.i v1,.s v2,.s v3,.s v4,.s v5,.i v6.kind,.i v6.n,.s v6.s,.i 0,.s [],.s [],.b false] 32)) i1=_:=(ag _ _ (Ne.symm n21)).trans c9;have d9' :upd g9 i2 (some (.obj [.i v1,.s v2,.s v3,.s v4,.s v5,.i v6.kind,.i v6.n,.s v6.s,.i 0,.s [],.s [],.b false] 32)) i2=_:=ah ..;clear b9 c9 d9;generalize upd g9 i2 (some (.obj [.i v1,.s v2,.s v3,.s v4,.s v5,.i v6.kind,.i v6.n,.s v6.s,.i 0,.s [],.s [],.b false] 32))=g10 at b9' c9' d9'⊢;have b10:=b9';have c10:=c9';have d10:=d9';clear b9' c9' d9';refine b10.step (FC _ w6) fun g11 b11 k11=>?_
 have c11:=(k11 i1 n1).trans c10;have d11:=(k11 i2 n2).trans d10;clear b10 c10 d10 k11;have w7:=lK (lo:= -9223372036854775808) (hi:=9223372036854775807) w6;have q7:=ue w6
 change WfR (gx _).2 at w7
 generalize gx s6=x7 at e w7 q7 b11⊢;obtain⟨v7,s7⟩:=x7;simp only at e w7 q7 b11⊢;simp only[go_sem,d11,ah];have b11' :=b11.put (b:=(some (.obj [.i v1,.s v2,.s v3,.s v4,.s v5,.i v6.kind,.i v6.n,.s v6.s,.i v7,.s [],.s [],.b false] 32))) m2 n2;have c11' :upd g11 i2 (some (.obj [.i v1,.s v2,.s v3,.s v4,.s v5,.i v6.kind,.i v6.n,.s v6.s,.i v7,.s [],.s [],.b false] 32)) i1=_:=(ag _ _ (Ne.symm n21)).trans c11;have d11' :upd g11 i2 (some (.obj [.i v1,.s v2,.s v3,.s v4,.s v5,.i v6.kind,.i v6.n,.s v6.s,.i v7,.s [],.s [],.b false] 32)) i2=_:=ah ..;clear b11 c11 d11;generalize upd g11 i2 (some (.obj [.i v1,.s v2,.s v3,.s v4,.s v5,.i v6.kind,.i v6.n,.s v6.s,.i v7,.s [],.s [],.b false] 32))=g12 at b11' c11' d11'⊢;have b12:=b11';have c12:=c11';have d12:=d11';clear b11' c11' d11';refine b12.step (pE _ w7 4096 acr) fun g13 b13 k13=>?_
 have c13:=(k13 i1 n1).trans c12;have d13:=(k13 i2 n2).trans d12;clear b12 c12 d12 k13;have w8:=gF (most:=4096) w7 acr;generalize bX s7 4096=x8 at e w8 b13⊢;obtain⟨v8,s8⟩:=x8;simp only at e w8 b13⊢;simp only[go_sem];refine b13.step (pE _ w8 64 acr) fun g14 b14 k14=>?_
 have c14:=(k14 i1 n1).trans c13;have d14:=(k14 i2 n2).trans d13;clear b13 c13 d13 k14;have w9:=gF (most:=64) w8 acr;generalize bX s8 64=x9 at e w9 b14⊢;obtain⟨v9,s9⟩:=x9;simp only at e w9 b14⊢;simp only[go_sem,d14,ah];have b14' :=b14.put (b:=(some (.obj [.i v1,.s v2,.s v3,.s v4,.s v5,.i v6.kind,.i v6.n,.s v6.s,.i v7,.s v8,.s v9,.b false] 32))) m2 n2;have c14' :upd g14 i2 (some (.obj [.i v1,.s v2,.s v3,.s v4,.s v5,.i v6.kind,.i v6.n,.s v6.s,.i v7,.s v8,.s v9,.b false] 32)) i1=_:=(ag _ _ (Ne.symm n21)).trans c14;have d14' :upd g14 i2 (some (.obj [.i v1,.s v2,.s v3,.s v4,.s v5,.i v6.kind,.i v6.n,.s v6.s,.i v7,.s v8,.s v9,.b false] 32)) i2=_:=ah ..;clear b14 c14 d14;generalize upd g14 i2 (some (.obj [.i v1,.s v2,.s v3,.s v4,.s v5,.i v6.kind,.i v6.n,.s v6.s,.i v7,.s v8,.s v9,.b false] 32))=g15 at b14' c14' d14'⊢;have b15:=b14';have c15:=c14';have d15:=d14';clear b14' c14' d14';refine b15.step (Gp _ w9) fun g16 b16 k16=>?_
 have c16:=(k16 i1 n1).trans c15;have d16:=(k16 i2 n2).trans d15;clear b15 c15 d15 k16;have w10:=HD w9;generalize rM s9=x10 at e w10 b16⊢;obtain⟨v10,s10⟩:=x10;simp only at e w10 b16⊢;simp only[go_sem];refine(Ex true _).pthen ?_;simp only[go_sem,d16,ah,aU,eS];generalize hgl:(v10.kind==1 && (v10.n==1 && v10.s== []))=gl;have egl:eqV v10 (eS true)=gl:=hgl;rw[egl]at e;clear egl hgl;have b16' :=b16.put (b:=(some (.obj [.i v1,.s v2,.s v3,.s v4,.s v5,.i v6.kind,.i v6.n,.s v6.s,.i v7,.s v8,.s v9,.b gl] 32))) m2 n2;have c16' :upd g16 i2 (some (.obj [.i v1,.s v2,.s v3,.s v4,.s v5,.i v6.kind,.i v6.n,.s v6.s,.i v7,.s v8,.s v9,.b gl] 32)) i1=_:=(ag _ _ (Ne.symm n21)).trans c16;have d16' :upd g16 i2 (some (.obj [.i v1,.s v2,.s v3,.s v4,.s v5,.i v6.kind,.i v6.n,.s v6.s,.i v7,.s v8,.s v9,.b gl] 32)) i2=_:=ah ..;clear b16 c16 d16;generalize upd g16 i2 (some (.obj [.i v1,.s v2,.s v3,.s v4,.s v5,.i v6.kind,.i v6.n,.s v6.s,.i v7,.s v8,.s v9,.b gl] 32))=g17 at b16' c16' d16'⊢;have b17:=b16';have c17:=c16';have d17:=d16';clear b16' c16' d16';refine b17.step (QH _) fun g18 b18 k18=>?_
 have c18:=(k18 i1 n1).trans c17;have d18:=(k18 i2 n2).trans d17;clear b17 c17 d17 k18;generalize ho:(⟨v1,v2,v3,v4,v5,v6,v7,v8,v9,gl⟩:OpD)=o at e;have hd:g18 i2=some (.obj (opC o) 32):=by rw[d18,←ho];rfl
 have h64:pQ o:=by rw[←ho];exact⟨q1,q6.1,q6.2,q7⟩
 have hc:g18 i1=some (.obj (opC u6) 32):=c18;clear d18 c18 ho;have hnone:∀(g:Heap),RAt h id g s10→pU l=none→mN [opA u6,.b false] g fun r h' =>r=IS l∧h' =h:=fun g hg en=>
  .mk _ (.refl _) (hg.base m0) ⟨by unfold IS;rw[en];rfl,rfl⟩
 unfold opC u6 ax at hc;unfold opC at hd;cases de:L5 s10
 ·have en:pU l=none:=by grind [pU]
  simp only[go_sem,de,hc,ah];exact afo
 simp only[go_sem,de,hd];refine(GS o _).pthen ?_;cases df:eU o
 ·exact aii
 have hF:=oI df;simp only[go_sem,hd];refine(Cb o h64 (f_l hF) _).pthen ?_;simp only[go_sem];rw[hb5];refine(CH (lJ o) l _ _ _).pthen ?_;cases dp:decide (lJ o=l)
 ·exact aii
 ·have en:pU l=some o:=by grind [pU]
  simp only[go_sem,hc,hd,ah];exact .mk _ (.refl _) ((b18.put m1 n1).base m0) ⟨by unfold IS;rw[en];rfl,rfl⟩
theorem Pc(s q:BitVec 64):IntKind.u64.wrap (IntKind.u64.wrap (((BitVec.ofInt 64 (s.toNat:Int) ^^^ BitVec.ofInt 64 (q.toNat:Int)).toNat:Nat):Int)*1099511628211)=(((s ^^^ q)*1099511628211#64).toNat:Int):=by
 rw[BitVec.ofInt_natCast,BitVec.ofInt_natCast,BitVec.ofNat_toNat,BitVec.ofNat_toNat,BitVec.setWidth_eq,BitVec.setWidth_eq];generalize s ^^^ q=x;rw[OJ _ x.isLt];have e:(x.toNat:Int)*1099511628211=((x.toNat*1099511628211:Nat):Int):=aco;rw[e,PK,BitVec.toNat_mul,BitVec.toNat_ofNat]
theorem Qf(p:BitVec 64):p.toNat % 256=(p &&& 255#64).toNat:=by
 exact(Nat.and_two_pow_sub_one_eq_mod p.toNat 8).symm
theorem CL(prev:BitVec 64)(y:AV)(l:Txt)(h:Heap)(hb:By h y l)(hl:l.length≤1000000):
  ai Tryz.prog 20 [.v (.int .u64 (prev.toNat:Int)),y] h fun r h' =>r= .v (.int .u64 ((se prev l).toNat:Int))∧h' =h:=by
 refine acn Tryz.func20 31 [.tmp 4] fun hwf=>?_
 simp only[go_sem];refine .intro (fun k ρ g=>g=h∧∃(i:Nat) (p s:BitVec 64),i+k=8∧IJ k p s=IJ 8 prev 14695981039346656037#64∧lk ρ 0=some (.v (.int .u64 (p.toNat:Int)))∧lk ρ 1=some y∧lk ρ 5=some (.v (.int .u64 (s.toNat:Int)))∧lk ρ 8=some (.i (i:Int))) 8 ?_ ?_
 ·refine⟨rfl,0,prev,14695981039346656037#64,rfl,rfl,?_,?_,?_,?_⟩<;>simp only[go_sem]
  rfl
 rintro k ρ g ⟨rfl,i,p,s,hk,hv,r0,r1,r5,r8⟩
 rcases k with _|k
 ·have d1:decide ((i:Int)<8)=false:=decide_eq_false aco
  simp only[go_sem,r0,r1,r5,r8,d1,hb.len];refine .intro (fun k ρ g' =>g' =g∧∃(i:Nat) (s:BitVec 64),i+k=l.length∧(l.drop i).foldl (fun h c=>fnv h c.toNat) s=se prev l∧lk ρ 5=some (.v (.int .u64 (s.toNat:Int)))∧lk ρ 18=some y∧lk ρ 19=some (.i (l.length:Int))∧lk ρ 20=some (.i (i:Int))) l.length ?_ ?_
  ·refine⟨rfl,0,s,aco,by grind [IL,se],?_,?_,?_,?_⟩<;>simp only[go_sem,r5,r1]
   all_goals rfl
  clear r0 r1 r5 r8 hv
  rintro k ρ g' ⟨rfl,i,s,hk,hv,r5,r18,r19,r20⟩
  rcases k with _|k
  ·have d1:decide ((i:Int)<(l.length:Int))=false:=decide_eq_false aco
   simp only[go_sem,r5,r18,r19,r20,d1];rw[List.drop_eq_nil_of_le aco]at hv;exact .same (.refl _) ⟨by rw[←hv];rfl,rfl⟩
  ·have hlt:i<l.length:=by omega
   have d1:decide ((i:Int)<(l.length:Int))=true:=decide_eq_true aco;have w1:IntKind.i64.wrap ((i:Int)+1)=((i+1:Nat):Int):=acE;rw[List.drop_eq_getElem_cons hlt]at hv;simp only[go_sem,r5,r18,r19,r20,d1];refine hb.idx i rfl hlt u5 u5a fun q hq=>?_
   generalize l[i]=c at hq hv;have hcl:=c.toNat_lt;have w2:IntKind.u64.wrap (c.toNat:Int)=((BitVec.ofNat 64 c.toNat).toNat:Int):=acF;have hx:=hq (fun v=>v=aN c)
   simp only[go_sem,r5,r18,r19,r20,hq _,aN,w2,w1];refine⟨k,aco,rfl,i+1,fnv s c.toNat,aco,acp,?_,?_,?_,?_⟩<;>simp only[go_sem,r18,r19,fnv]
   exact congrArg (fun z=>some (AV.v (Value.int IntKind.u64 z))) (Pc s _)
 ·have d1:decide ((i:Int)<8)=true:=decide_eq_true aco
  have w1:IntKind.i64.wrap ((i:Int)+1)=((i+1:Nat):Int):=acE;have e8:p.toNat / 256=(p>>>8).toNat:=aeN;have hp:=p.isLt;simp only[go_sem,r0,r1,r5,r8,d1,w1,show p.toNat<18446744073709551616 from hp,Qf,e8]
  refine⟨k,aco,rfl,i+1,p>>>8,fnv s (p &&& 255#64).toNat,aco,by grind [IK],?_,?_,?_,?_⟩<;>simp only[go_sem,r1,fnv,BitVec.ofNat_toNat,BitVec.setWidth_eq]
  exact congrArg (fun z=>some (AV.v (Value.int IntKind.u64 z))) (Pc s _)
def fC(s:an):List AV:=[.i s.tick,fk s.cases,ja s.reviews,jw s.notices,dI s.roles]++fV s.policy++ [.i s.version]
def kQ(jid:Nat)(e:eN)(yl:AV):Blk:=.obj ([.ptr jid 0]++fC e.s++ [yl,.v (.int .u64 (e.ch.toNat:Int))]) 101
theorem cq(s:an):∃a1 a2 a3 a4 a5 a6 a7,fC s= [.i s.tick,fk s.cases,ja s.reviews,jw s.notices,dI s.roles,a1,a2,a3,a4,a5,a6,a7,.i s.version]:=by
 obtain⟨tick,cases,reviews,notices,roles,policy,version⟩:=s;obtain⟨id,set,alg,tgt,rules,kids,obls⟩:=policy;exact⟨_,_,_,_,_,_,_,rfl⟩
def A9(e:eN)(l:Txt):AV:=.tup [opA ((nh e l).getD u6),.v (.bool (nh e l).isSome)]
theorem GX{l:Txt}{o:OpD}(hl:l.length≤1000000)(h:pU l=some o):pQ o:=by
 unfold pU at h;split at h
 ·cases h
  have w0:WfR ⟨l,0,false⟩:=⟨Nat.zero_le _,hl⟩;have w1:WfR (gx ⟨l,0,false⟩).2:=lK w0;have w2:=gF (most:=16) w1 acr;have w3:=gF (most:=16) w2 acr;have w4:=gF (most:=16) w3 acr;have w5:=gF (most:=16) w4 acr;exact⟨ue w0,(Cd w5).1,(Cd w5).2,ue (HC w5)⟩
 grind
theorem KS(l:Txt)(q:Perm)(e:eN)(yl:AV)(jid x:Nat)(h:Heap)(hl:l.length≤900000)(hx:h x=some (kQ jid e yl)):ai Tryz.prog 46 [.ptr x 0,.sl (l.map aN) q] h fun r h' =>r=A9 e l∧h' =h:=by
 obtain⟨a1,a2,a3,a4,a5,a6,a7,es⟩:=cq e.s;have g:=hx;unfold kQ at g;rw[es]at g;simp only[List.cons_append,List.nil_append]at g;refine acn Tryz.func46 33 [.cell 4 32,.tmp 5] fun hwf=>?_
 simp only[go_sem];intro i1 h1;have n1:i1≠x:=fun e=>acp
 by_cases hs:l.length<8
 ·have d1:decide ((l.length:Int)<8)=true:=decide_eq_true aco
  have er:nh e l=none:=by simp_all [nh,if_pos]
  simp only[go_sem,acd,d1,ah];exact .mk _ (.refl _) ((Sub.refl h).new h1 _) ⟨afH,rfl⟩
 have d1:decide ((l.length:Int)<8)=false:=decide_eq_false aco;simp only[go_sem,acd,d1];refine⟨aco,aco,?_⟩;refine(K8 (l.drop 8) _ acp _).pthen ?_;have er0:nh e l=(match pU (l.drop 8)with|some o=>if fX e.ch o=l then some o else none|none=>none):=by unfold nh;grind
 cases hg:pU (l.drop 8)with
 |none=>
  have er:nh e l=none:=acp;simp only[go_sem,IS,hg,opA,opC,u6,ax,Option.getD,Option.isSome];intro i2 h2;have n2:=aC h2;have n21:=aH h2;simp only[go_sem,aj,n21,n21.symm,n1,n1.symm];generalize hH:upd (upd h i1 _) i2 _=H;have k1:H i1=some (.obj (opC u6) 32):=adG;have k2:H i2=some (.obj (opC u6) 32):=aex;have kx:H x=some (kQ jid e yl):=by
   rw[←hH,ag _ _ (fun e2=>acp),ag _ _ (Ne.symm n1)];omega
  have hsub:Ab.Sub h H:=ac2;clear hH g;unfold kQ at kx;rw[es]at kx;simp only[List.cons_append,List.nil_append]at kx;unfold opC u6 ax at k1;refine .quiet acs ?_;simp only[go_sem];simp only[go_sem,k1,ah];exact ahZ
 |some o=>
  obtain⟨hf,hp⟩:=get_some hg;have h64:=GX acp hg;have er1:nh e l=if fX e.ch o=l then some o else none:=acp
  simp only[go_sem,IS,hg,opA,opC,Option.getD,Option.isSome];intro i2 h2;have n2:=aC h2;have n21:=aH h2;simp only[go_sem,aj,n21,n21.symm,n1,n1.symm];generalize hH:upd (upd h i1 _) i2 _=H;have k1:H i1=some (.obj (opC u6) 32):=adG;have k2:H i2=some (.obj (opC o) 32):=aex;have kx:H x=some (kQ jid e yl):=by
   rw[←hH,ag _ _ (fun e2=>acp),ag _ _ (Ne.symm n1)];omega
  have hsub:Ab.Sub h H:=ac2;clear hH g;unfold kQ at kx;rw[es]at kx;simp only[List.cons_append,List.nil_append]at kx;unfold opC u6 ax at k1;unfold opC at k2;refine .quiet acs ?_;simp only[go_sem,kx,k2];refine⟨_,Cg e.ch o h64 (f_l (oI hf)) acp _,?_⟩;simp only[go_sem];refine⟨_,CH (fX e.ch o) l _ _ _,?_⟩;cases dp:decide (fX e.ch o=l)
  ·have er:nh e l=none:=by grind
   simp only[go_sem,k1,ah];exact ahZ
  ·have er:nh e l=some o:=by grind
   simp only[go_sem,k1,k2,ah];exact ahZ
def ldA(d:pX):AV:=.agg (xQ d)
def mM(h:Heap)(y:AV)(ds:List pX)(sp:List Nat):Prop:=(y= .sl [] .full∧ds= []∧sp= [])∨∃k,y= .sl (ds.map ldA) (.own k)∧h k=some (.spare ds.length 16)∧sp= [k]
theorem uD:(U 71).sz=16:=acF
theorem mM.row{h:Heap}{y:AV}{ds:List pX}{sp:List Nat}(hg:mM h y ds sp):∃q,y= .sl (ds.map ldA) q:=by
 rcases hg with⟨rfl,rfl,_⟩|⟨k,rfl,_⟩<;>exact⟨_,rfl⟩
theorem mM.touch{h h' :Heap}{y:AV}{ds:List pX}{sp S:List Nat}(hg:mM h y ds sp)(ht:Touch S h h')(hn:∀i∈sp,i∉S):mM h' y ds sp:=by
 rcases hg with⟨rfl,rfl,rfl⟩|⟨k,rfl,k1,rfl⟩
 ·exact .inl ⟨rfl,rfl,rfl⟩
 ·exact .inr ⟨k,rfl,ht _ _ (hn k acw) k1,rfl⟩
theorem mM.has{h:Heap}{y:AV}{ds:List pX}{sp:List Nat}(hg:mM h y ds sp):∀i∈sp,∃n,h i=some (.spare n 16):=by
 rcases hg with⟨rfl,rfl,rfl⟩|⟨k,rfl,k1,rfl⟩
 ·simp
 grind
theorem Dy(ds:List pX):Sized 16 (ds.map ldA):=fun z hz=>by
 obtain⟨d,_,rfl⟩:=List.mem_map.1 hz;rfl
theorem uDb:∃n,(U 71).bytes=n∧n≠0∧n≤1000:=⟨_,rfl,acr,acr⟩
theorem mM.app{h:Heap}{y:AV}{ds:List pX}{d:pX}{q:Perm}{sp:List Nat}{Q:AV→Heap→Prop}(hg:mM h y ds sp)(hl:ds.length≤1000000)
  (hk:∀y' h' sp',mM h' y' (ds++ [d]) sp'→Touch sp h h'→(∀i∈sp',i∈sp∨h i=none)→Q y' h'):apK U h y (.sl [ldA d] q) Q (.slice 71):=by
 obtain⟨n,hb,hb0,hb1⟩:=uDb;have hm:(ds.length+1)*n≤140737488355328:=by
  have:=Nat.mul_le_mul (show ds.length+1≤1000001 by omega) hb1
  omega
 have s2:Sized 16 [ldA d]:=Dy [d];rcases hg with⟨rfl,rfl,rfl⟩|⟨k,rfl,k1,rfl⟩
 ·refine(pZ ..).mpr ⟨acr,aco,?_⟩
  refine⟨by simp[Sized],by grind [uD],acp,And.intro (fun hn=>by cases hn) (fun hn=>nL.own fun id hid=>?_)⟩
  rw[uD];exact hk _ _ [id] (.inr ⟨id,rfl,agq,rfl⟩) (.of ((Ab.Sub.refl h).new hid _)) acp
 ·refine(BJ ..).mpr ⟨acr,aco,?_⟩
  refine⟨by grind [uD,Dy],by grind [uD],acp,by grind [uD],?_⟩
  rw[uD];exact hk _ _ [k] (.inr ⟨k,acw,agq,rfl⟩) .upd acw
theorem GY(e:eN)(s:an)(d:pX)(p:Txt)(q:Perm)(jid x:Nat)(yl:AV)(sp:List Nat)(h:Heap)(hx:h x=some (kQ jid e yl))(hg:mM h yl e.log sp)(hl:e.log.length≤1000000)(hp:p.length≤1000000):
  ai Tryz.prog 47 [.ptr x 0,cg s,.agg (xQ d),.sl (p.map aN) q] h fun r h' =>r= .tup []∧∃yl' sp',h' x=some (kQ jid {e with s:=s,log:=e.log++ [d],ch:=se e.ch p} yl')∧mM h' yl' (e.log++ [d]) sp'∧Touch (x::sp) h h'∧(∀i∈sp',i∈sp∨h i=none):=by
 obtain⟨a1,a2,a3,a4,a5,a6,a7,es⟩:=cq e.s;obtain⟨b1,b2,b3,b4,b5,b6,b7,es2⟩:=cq s;have g:=hx;unfold kQ at g;rw[es]at g;simp only[List.cons_append,List.nil_append]at g;rw[show cg s= .agg (fC s)from rfl,es2]
 refine ai.of_wp hU Tryz.func47 rfl acF 31 rfl [] rfl (ab9 rfl) ?_;refine .one hU hm ?_;simp only[go_sem];intro i1 h1;simp only[go_sem,xQ,opC];intro i2 h2;have n2:=aC h2;have n21:=aH h2;have x1:i1≠x:=fun e=>afe
 have x2:i2≠x:=fun e=>aff
 generalize hH:upd (upd h i1 _) i2 _=H;have k1:H i1=some (.obj [.i s.tick,fk s.cases,ja s.reviews,jw s.notices,dI s.roles,b1,b2,b3,b4,b5,b6,b7,.i s.version] 67):=by rw[←hH,ag _ _ (Ne.symm n21),ah]
 have k2:H i2=some (.obj [.i d.op.kind,.s d.op.subj,.s d.op.case,.s d.op.field,.s d.op.to,.i d.op.val.kind,.i d.op.val.n,.s d.op.val.s,.i d.op.review,.s d.op.text,.s d.op.reason,.b d.op.glass,.i d.version,aQ d.mark,.b d.glass,ay d.obls] 71):=by rw[←hH,ah]
 have kx:H x=_:=(by rw[←hH,ag _ _ (Ne.symm x2),ag _ _ (Ne.symm x1)]:H x=h x).trans g
 have hsub:Ab.Sub h H:=ac2;clear hH g;simp only[go_sem];refine .one hU hm ?_;simp only[go_sem,kx,k1];generalize hK:upd H x _=K;have kx2:K x=some (.obj [.ptr jid 0,.i s.tick,fk s.cases,ja s.reviews,jw s.notices,dI s.roles,b1,b2,b3,b4,b5,b6,b7,.i s.version,yl,.v (.int .u64 (e.ch.toNat:Int))] 101):=by rw[←hK,ah]
 have k22:K i2=_:=(by rw[←hK,ag _ _ x2]:K i2=H i2).trans k2
 have hT:Touch [x] H K:=by rw[←hK];exact .upd
 clear hK
 show WP _ _ _ _ _ _
 refine .one hU hm ?_;simp only[go_sem];refine .last (hm2 x (.obj [.ptr jid 0,.i s.tick,fk s.cases,ja s.reviews,jw s.notices,dI s.roles,b1,b2,b3,b4,b5,b6,b7,.i s.version,yl,.v (.int .u64 (e.ch.toNat:Int))] 101) i2 (.obj [.i d.op.kind,.s d.op.subj,.s d.op.case,.s d.op.field,.s d.op.to,.i d.op.val.kind,.i d.op.val.n,.s d.op.val.s,.i d.op.review,.s d.op.text,.s d.op.reason,.b d.op.glass,.i d.version,aQ d.mark,.b d.glass,ay d.obls] 71)) [0,1,2,3,4,5,6,7,8,9] (.hm2 kx2 k22) acs rfl acs rfl ?_;simp only[go_sem,kx2,k22,oL _ _ (Ne.symm x2),oN];have hno:∀i∈sp,i≠x∧i≠i1∧i≠i2:=fun i hi=>by
  obtain⟨n,hn⟩:=hg.has i hi;exact⟨fun e=>(by rw[e,hx]at hn;cases hn),fun e=>acp,fun e=>acp⟩
 have hgK:mM K yl e.log sp:=(hg.touch (S:=[]) (.of hsub) acw).touch hT acp;refine hgK.app hl fun z G sp' hg4 ht4 hsp' =>?_
 have kx3:=ht4 _ _ acp kx2;have k23:=ht4 _ _ acp k22;have xG:∀i∈sp',i≠x:=fun i hi e2=>by
  obtain⟨n,hn⟩:=hg4.has i hi;rw[e2,kx3]at hn;cases hn
 refine⟨.hm2 kx3 k23,?_⟩;have hrow:=hg4.row;obtain⟨qz,ez⟩:=hrow;subst ez;simp only[go_sem,kx3];refine .vc hU hm ?_;simp only[go_sem,ah];refine(CL e.ch _ p _ (.sl _ _) hp).pthen ?_;simp only[go_sem,ah,nu];have hF:Touch [x] G (upd G x (some (.obj [.ptr jid 0,.i s.tick,fk s.cases,ja s.reviews,jw s.notices,dI s.roles,b1,b2,b3,b4,b5,b6,b7,.i s.version,(.sl ((e.log++ [d]).map ldA) qz),.v (.int .u64 ((se e.ch p).toNat:Int))] 101))):=.upd;refine .same (.refl _) ⟨rfl,_,sp',?_,hg4.touch hF acp,?_,fun i hi=>?_⟩
 ·simp_all [kQ,ah]
 ·exact((((Touch.of (S:=[]) hsub).trans hT).trans ht4).trans hF).mono acp
 ·rcases hsp' i hi with h3|h3
  ·grind
  ·right
   have:K i=none:=h3;cases hh:h i with
   |none=>rfl
   |some b=>
    have hxi:i≠x:=xG i hi;have:=hT _ _ acp (hsub _ _ hh);rw[h3]at this;cases this
def iH(h:Heap)(x jid did:Nat)(e:eN)(spl spj:List Nat):Prop:=
 ∃yl,h x=some (kQ jid e yl)∧mM h yl e.log spl∧JAt h 173 jid did e.ps e.down spj
theorem Kz(x jid did:Nat)(e:eN)(spl spj:List Nat)(h:Heap)(he:iH h x jid did e spl spj):ai Tryz.prog 19 [.ptr x 0] h fun r h' =>r= .v (.int .u64 (e.ch.toNat:Int))∧h' =h:=by
 obtain⟨yl,hx,hg,hj⟩:=he;obtain⟨a1,a2,a3,a4,a5,a6,a7,es⟩:=cq e.s;have g:=hx;unfold kQ at g;rw[es]at g;refine acn Tryz.func19 7 [.tmp 2] fun hwf=>?_
 simp only[go_sem,g];exact acD
theorem xS(x jid did:Nat)(e:eN)(spl spj:List Nat)(h:Heap)(he:iH h x jid did e spl spj):ai Tryz.prog 32 [.ptr x 0] h fun r h' =>r= .b e.down∧h' =h:=by
 obtain⟨yl,hx,hg,hj⟩:=he;have g:=hx;unfold kQ at g;refine acn Tryz.func32 8 [.tmp 2] fun hwf=>?_
 simp only[go_sem,g];refine(tg jid did e.ps e.down spj h hj).pthen ?_;exact ag2
theorem C3(x jid did:Nat)(e:eN)(spl spj:List Nat)(h:Heap)(he:iH h x jid did e spl spj)(hl:e.ps.length≤1000000)(hp:∀p∈e.ps,p.length≤1000000):ai Tryz.prog 16 [.ptr x 0] h fun r h' =>∃q,r= .sl (e.ps.map kC) q∧Ab.Sub h h' :=by
 obtain⟨yl,hx,hg,hj⟩:=he;have g:=hx;unfold kQ at g;refine acn Tryz.func16 8 [.tmp 2] fun hwf=>?_
 simp only[go_sem,g];refine(zb jid did e.ps e.down spj h hj hl hp).mono fun r h' ⟨q,e1,hs⟩=>?_
 subst e1;simp only[go_sem];exact .same (.refl _) ⟨q,rfl,hs⟩
theorem uH(x jid did:Nat)(e:eN)(spl spj:List Nat)(h:Heap)(he:iH h x jid did e spl spj):ai Tryz.prog 31 [.ptr x 0] h fun r h' =>r=cg e.s∧h' =h:=by
 obtain⟨yl,hx,hg,hj⟩:=he;obtain⟨a1,a2,a3,a4,a5,a6,a7,es⟩:=cq e.s;have g:=hx;unfold kQ at g;rw[es]at g;refine acn Tryz.func31 7 [.cell 2 67] fun hwf=>?_
 simp only[go_sem];intro i1 h1;have n1:i1≠x:=fun e=>acp
 simp only[go_sem,aj,Ne.symm n1,n1,g,ah];refine .mk _ (.refl _) ((Sub.refl h).put h1 _) ⟨?_,rfl⟩;rw[show cg e.s= .agg (fC e.s)from rfl,es]
 rfl
theorem Nv(x jid did:Nat)(e:eN)(spl spj:List Nat)(o:OpD)(h:Heap)(he:iH h x jid did e spl spj)(hd:e.down=true):ai Tryz.prog 15 [.ptr x 0,opA o] h fun r h' =>r= .agg (ku (BR 9))∧h' =h:=by
 obtain⟨yl,hx,hg,hj⟩:=he;have g:=hx;unfold kQ at g;refine acn Tryz.func15 53 [.cell 4 36] fun hwf=>?_
 simp only[go_sem,opA,opC];intro i1 h1;have x1:i1≠x:=fun e=>acp
 simp only[go_sem];intro i2 h2;have n2:=aC h2;have x2:i2≠x:=fun e=>acp
 generalize hH:upd (upd h i1 _) i2 _=H;have kx:H x=_:=(by rw[←hH,ag _ _ (Ne.symm x2),ag _ _ (Ne.symm x1)]:H x=h x).trans g
 have k2:H i2=some (.obj nw 36):=aex;have hsub:Ab.Sub h H:=ac2;unfold nw at k2;simp only[go_sem,kx];refine(tg jid did e.ps e.down spj H (hj.sub hsub)).pthen ?_;rw[hd];simp only[go_sem,k2,ah];refine .mk _ (.refl _) (hsub.put n2 _) ⟨?_,rfl⟩;rfl
theorem mB(s:an)(r:j5)(d:pX)(e:Int):jJ (s,r,d,e)= .tup [cg s,.agg [.i r.err,.v (.complex .f64 (hbit r.mark.1) (hbit r.mark.2)),.b r.glass,.i r.val.kind,.i r.val.n,.s r.val.s,.b r.hidden,.i r.at_],.agg [.i d.op.kind,.s d.op.subj,.s d.op.case,.s d.op.field,.s d.op.to,.i d.op.val.kind,.i d.op.val.n,.s d.op.val.s,.i d.op.review,.s d.op.text,.s d.op.reason,.b d.op.glass,.i d.version,.v (.complex .f64 (hbit d.mark.1) (hbit d.mark.2)),.b d.glass,.sl (d.obls.map aW) .no],.i e]:=rfl
theorem Qt(x jid did:Nat)(e:eN)(spl spj:List Nat)(o:OpD)(h:Heap)(he:iH h x jid did e spl spj)(hd:e.down=false){k:Nat}(hG:jD k e.s)(hk:k≤1000)(h64:pQ o)(her:kR h)(hne:(aV e.s o).2.2.2≠0):ai Tryz.prog 15 [.ptr x 0,opA o] h fun r h' =>r= .agg (ku (aV e.s o).2.1)∧h' =h:=by
 have hgd:=fun(G:Heap) (hG' :Ab.Sub h G)=>mA e.s hG hk o h64 G (her.sub hG')
 have he0:=he;obtain⟨yl,hx,hg,hj⟩:=he;obtain⟨a1,a2,a3,a4,a5,a6,a7,es⟩:=cq e.s;have g:=hx;unfold kQ at g;rw[es]at g;simp only[List.cons_append,List.nil_append]at g;refine acn Tryz.func15 53 [.cell 4 36] fun hwf=>?_
 simp only[go_sem,opA,opC];intro i1 h1;have x1:i1≠x:=fun e=>afe
 simp only[go_sem];intro i2 h2;have n2:=aC h2;have x2:i2≠x:=fun e=>aff
 have n21:=aH h2;generalize hH:upd (upd h i1 _) i2 _=H;have kx:H x=_:=(by rw[←hH,ag _ _ (Ne.symm x2),ag _ _ (Ne.symm x1)]:H x=h x).trans g
 have k2:H i2=some (.obj nw 36):=aex;have k1:H i1=some (.obj (opC o) 32):=adG;have hsub:Ab.Sub h H:=ac2;clear hH g;unfold nw at k2;simp only[go_sem,kx];refine(tg jid did e.ps e.down spj H (hj.sub hsub)).pthen ?_;rw[hd];generalize aV e.s o=gd at hgd hne⊢;obtain⟨S,R,D,E⟩:=gd;simp only at hne⊢;obtain⟨b1,b2,b3,b4,b5,b6,b7,es2⟩:=cq S;rw[mB,show cg e.s= .agg (fC e.s)from rfl,es,show cg S= .agg (fC S)from rfl,es2]at hgd
 simp only[opA,opC]at hgd;unfold opC at k1;simp only[go_sem];refine .tree _ (.quiet [0,1,2,3,4] 5 (.news [6,7,8,9,10] [11,12,13] (.seq [14,15,16,17]))) (.refl _) acs rfl ?_;simp only[go_sem,kx,k1];refine⟨_,fun G hs=>hgd G (hsub.trans hs),?_⟩
 simp only[go_sem];refine⟨.refl _,acw,?_⟩;intro jd hjd je hje jf hjf;have ned:=aH hje;have kje:=aC hje;have nfe:=aH hjf;have nfd:=aH (aC hjf);have kjf:=aC (aC hjf);simp only[go_sem,aj,ned,ned.symm,nfe,nfe.symm,nfd,nfd.symm];refine⟨acC,acC,acC,?_⟩;have mjd:=hsub.none hjd;have mje:=hsub.none kje;have mjf:=hsub.none kjf;have j2:jd≠i2:=fun e=>afY
 have j2e:je≠i2:=fun e=>afZ
 have j2f:jf≠i2:=fun e=>af0
 have dE:(E==0)=false:=beq_eq_false_iff_ne.mpr hne;have dE2:(E !=0)=true:=bne_iff_ne.mpr hne;simp only[go_sem,aj,dE,dE2,ned,ned.symm,nfe,nfe.symm,nfd,nfd.symm,j2,j2.symm,j2e,j2e.symm,j2f,j2f.symm,k2];refine .mk _ (.refl _) ?_ ⟨rfl,rfl⟩
 repeat (first|exact hsub|refine Ab.Sub.put ?_ acB _)
theorem CW{P:Program}{U:TypeId→TI}{n:Nat}{l:List Oper}{ρ:Env}{h:Heap}{K:Exit→Env→Heap→Prop}(hh:∀H2,H2=h→lN P U n l ρ H2 K):lN P U n l ρ h K:=hh h rfl
theorem bR.upd{h:Heap}{id i:Nat}{d:D}{cs:List AV}{t:TypeId}{b:Option Blk}(hd:bR h id d)(hi:h i=some (.obj cs t))(h1:t≠96)(h2:t≠5):bR (Ab.upd h i b) id d:=by
 obtain⟨y,hy,hb⟩:=hd;refine⟨y,?_,?_⟩
 ·grind [ag,Option.some.inj]
 ·rcases hb with hb|⟨j,off,cs2,rfl,a1,a2,a3⟩
  ·exact agk
  ·refine .oa ?_ a2 a3
   grind [ag,Option.some.inj]
theorem Qv(x jid did:Nat)(e:eN)(d:D)(spl spj:List Nat)(o:OpD)(h:Heap)(he:iH h x jid did e spl spj)(hdk:bR h did d)(hdo:d.ok)(hps:e.ps.length≤1000000)(hlg:e.log.length≤1000000)(hd:e.down=false){k:Nat}(hG:jD k e.s)(hk:k≤1000)(h64:pQ o)(her:kR h)(hne:(aV e.s o).2.2.2=0)(hcode:(jadd d e.ps false (fX e.ch o)).2≠0):
  ai Tryz.prog 15 [.ptr x 0,opA o] h fun r h' =>r= .agg (ku (doE e d o).2.2)∧∃spl' spj',iH h' x jid did (doE e d o).1 spl' spj'∧bR h' did (doE e d o).2.1∧Touch (x::did::jid::(spl++spj)) h h'∧(∀i∈spl',i∈spl∨h i=none)∧(∀i∈spj',i∈spj∨h i=none):=by
 have hF:=oI (ji hne);have hrl:=ug (h:=e.ch) hF;have hpl:=rA hF;have edo:doE e d o=(let a:=jadd d e.ps false (fX e.ch o);if a.2=0 then({nS e (aV e.s o) (fX e.ch o)with ps:=a.1.2.1,down:=a.1.2.2},a.1.1,(aV e.s o).2.1)else({e with ps:=a.1.2.1,down:=a.1.2.2},a.1.1,BR (a.2:Int))):=by
  exact aie
 have hgd:=fun(G:Heap) (hG' :Ab.Sub h G)=>mA e.s hG hk o h64 G (her.sub hG')
 have he0:=he;obtain⟨yl,hx,hg,hj⟩:=he;obtain⟨a1,a2,a3,a4,a5,a6,a7,es⟩:=cq e.s;have g:=hx;unfold kQ at g;rw[es]at g;simp only[List.cons_append,List.nil_append]at g;refine acn Tryz.func15 53 [.cell 4 36] fun hwf=>?_
 simp -implicitDefEqProofs only[go_sem,opA,opC];intro i1 h1;have x1:i1≠x:=fun e=>afe
 simp -implicitDefEqProofs only[go_sem];intro i2 h2;have n2:=aC h2;have x2:i2≠x:=fun e=>aff
 have n21:=aH h2;generalize hH:upd (upd h i1 _) i2 _=H;have kx:H x=_:=(by rw[←hH,ag _ _ (Ne.symm x2),ag _ _ (Ne.symm x1)]:H x=h x).trans g
 have k2:H i2=some (.obj nw 36):=aex;have k1:H i1=some (.obj (opC o) 32):=adG;have hsub:Ab.Sub h H:=ac2;clear hH g;unfold nw at k2;simp -implicitDefEqProofs only[go_sem,kx];refine(tg jid did e.ps e.down spj H (hj.sub hsub)).pthen ?_;rw[hd];generalize aV e.s o=gd at hgd hne edo⊢;obtain⟨S,R,D,E⟩:=gd;simp only at hne edo⊢;subst hne;obtain⟨b1,b2,b3,b4,b5,b6,b7,es2⟩:=cq S;rw[mB,show cg e.s= .agg (fC e.s)from rfl,es,show cg S= .agg (fC S)from rfl,es2]at hgd
 simp only[opA,opC]at hgd;unfold opC at k1;simp -implicitDefEqProofs only[go_sem];refine .tree _ (.quiet [0,1,2,3,4] 5 (.news [6,7,8,9,10] [11,12,13] (.seq [14,15,16,17]))) (.refl _) acs rfl ?_;simp -implicitDefEqProofs only[go_sem,kx,k1];refine⟨_,fun G hs=>hgd G (hsub.trans hs),?_⟩
 simp -implicitDefEqProofs only[go_sem];refine⟨.refl _,acw,?_⟩;intro jd hjd je hje jf hjf;have ned:=aH hje;have kje:=aC hje;have nfe:=aH hjf;have nfd:=aH (aC hjf);have kjf:=aC (aC hjf);simp -implicitDefEqProofs only[go_sem,aj,ned,ned.symm,nfe,nfe.symm,nfd,nfd.symm];refine⟨acC,acC,acC,?_⟩;have mjd:=hsub.none hjd;have mje:=hsub.none kje;have mjf:=hsub.none kjf;have j2:jd≠i2:=fun e=>afY
 have j2e:je≠i2:=fun e=>afZ
 have j2f:jf≠i2:=fun e=>af0
 refine CW fun H2 w2=>?_
 have xjd:jd≠x:=fun e=>af2
 have xje:je≠x:=fun e=>af3
 have xjf:jf≠x:=fun e=>af4
 have y1:jd≠i1:=fun e=>by rw[e,k1]at hjd;cases hjd
 have y2:je≠i1:=fun e=>by rw[e,k1]at kje;cases kje
 have y3:jf≠i1:=fun e=>by rw[e,k1]at kjf;cases kjf
 have hs2:Ab.Sub h H2:=aef;have fx:H2 x=_:=(by rw[w2];simp only[aj,xjd,xjd.symm,xje,xje.symm,xjf,xjf.symm,ne_eq,not_false_eq_true]:H2 x=H x).trans kx
 have f1:H2 i1=_:=(by rw[w2];simp only[aj,y1,y1.symm,y2,y2.symm,y3,y3.symm,ne_eq,not_false_eq_true]:H2 i1=H i1).trans k1
 have f2:H2 i2=_:=(by rw[w2];simp only[aj,j2,j2.symm,j2e,j2e.symm,j2f,j2f.symm,ne_eq,not_false_eq_true]:H2 i2=H i2).trans k2
 have fd:H2 jd=some (.obj [.i S.tick,fk S.cases,ja S.reviews,jw S.notices,dI S.roles,b1,b2,b3,b4,b5,b6,b7,.i S.version] 67):=acL;have fe:H2 je=some (.obj [.i R.err,.v (.complex .f64 (hbit R.mark.1) (hbit R.mark.2)),.b R.glass,.i R.val.kind,.i R.val.n,.s R.val.s,.b R.hidden,.i R.at_] 36):=acL;have ff:H2 jf=some (.obj (xQ D) 71):=adh;clear w2;refine .quiet acs ?_;simp -implicitDefEqProofs only[go_sem,fx,f1];refine⟨_,Cg e.ch o h64 (f_l hF) aco _,?_⟩;simp -implicitDefEqProofs only[go_sem,fx];refine(Hh d hdo did jid e.ps e.down spj H2 _ (fX e.ch o) (hdk.keep hs2.fK) (hj.sub hs2) (.sl _ _) aco hps).mono fun r H3 ⟨er,spj',hd3,hj3,hT3,hs3⟩=>?_
 subst er;have hin:∀q∈did::jid::spj,∃b,h q=some b∧∀cs,b≠ .obj cs 101:=fun q hq=>by
  exact ag6
 have out:∀q,h q=none→q∉did::jid::spj:=fun q hq hi=>by
  obtain⟨b,hb,_⟩:=hin q hi;rw[hq]at hb;cases hb
 have outx:x∉did::jid::spj:=fun hi=>by
  exact ail
 have fx3:=hT3 _ _ outx fx;have f23:=hT3 _ _ (out i2 n2) f2;have fd3:=hT3 _ _ (out jd mjd) fd;have fe3:=hT3 _ _ (out je mje) fe;have ff3:=hT3 _ _ (out jf mjf) ff;rw[hd]at hd3 hj3⊢;generalize jadd d e.ps false (fX e.ch o)=a at hd3 hj3 edo hcode⊢;obtain⟨⟨d2,ps2,dn2⟩,code⟩:=a;simp only at hd3 hj3 edo hcode⊢;cases dc:((code:Int)==0)
 ·have hc:code≠0:=fun e2=>by subst e2;cases dc
  have dc2:((code:Int) !=0)=true:=by rw[bne,dc];rfl
  rw[if_neg hc]at edo;simp -implicitDefEqProofs only[go_sem,dc2,f23,ah];have hsp:∀i∈spl,i∉did::jid::spj:=fun i hi hq=>by
   exact ag5
  have hg3:=(hg.touch (S:=[]) (.of hs2) (fun i hi hh=>adP)).touch hT3 hsp
  have hnl:∀i∈spl,i∉ [i2]:=fun i hi hh=>by
   obtain⟨n,hn⟩:=hg.has i hi;rw[List.mem_singleton.1 hh,n2]at hn;cases hn
  have hF4:∀b,Touch [i2] H3 (upd H3 i2 b):=fun b=> .upd
  have hj3' :=hj3;obtain⟨z,zs,hz1,hz2,_⟩:=hj3';refine .same (.refl _) ⟨by rw[edo];rfl,spl,spj',?_,?_,?_,fun i hi=> .inl hi,fun i hi=>?_⟩
  ·rw[edo]
   refine⟨yl,?_,hg3.touch (hF4 _) hnl,hj3.touch (hF4 _) ?_ ?_⟩
   ·rw[ag _ _ (Ne.symm x2),fx3]
    unfold kQ;rw[es];rfl
   ·intro hh
    rw[List.mem_singleton.1 hh,f23]at hz1;cases hz1
   ·intro i hi hh
    obtain⟨n,hn⟩:=hz2.has i hi;rw[List.mem_singleton.1 hh,f23]at hn;cases hn
  ·rw[edo]
   exact hd3.upd f23 acr acr
  ·exact(((Touch.of (S:=[]) hs2).trans hT3).trans (hF4 _)).mono (fun i hi=>by
    simp only[List.nil_append,List.mem_append,List.mem_cons,List.mem_singleton,List.not_mem_nil,or_false]at hi;rcases hi with(h3|h3|h3)|h3
    ·left;simp[h3]
    ·left;simp[h3]
    ·left;simp[h3]
    ·right;rw[h3];exact n2)
  ·rcases hs3 i hi with h3|h3
   ·exact .inl h3
   ·right;exact hs2.none h3
 ·exact absurd (eq_of_beq dc) aco
theorem bR.touch{h h' :Heap}{id:Nat}{d:D}{S:List Nat}(hd:bR h id d)(ht:Touch S h h')(hS:∀i∈S,∀cs,h i≠some (.obj cs 96)∧h i≠some (.obj cs 5)):bR h' id d:=by
 obtain⟨y,hy,hb⟩:=hd;refine⟨y,ht _ _ acp hy,?_⟩;rcases hb with hb|⟨j,off,cs2,rfl,a1,a2,a3⟩
 ·exact agk
 ·exact .oa (ht _ _ acp a1) a2 a3
theorem Qu(x jid did:Nat)(e:eN)(d:D)(spl spj:List Nat)(o:OpD)(h:Heap)(he:iH h x jid did e spl spj)(hdk:bR h did d)(hdo:d.ok)(hps:e.ps.length≤1000000)(hlg:e.log.length≤1000000)(hd:e.down=false){k:Nat}(hG:jD k e.s)(hk:k≤1000)(h64:pQ o)(her:kR h)(hne:(aV e.s o).2.2.2=0)(hcode:(jadd d e.ps false (fX e.ch o)).2=0):
  ai Tryz.prog 15 [.ptr x 0,opA o] h fun r h' =>r= .agg (ku (doE e d o).2.2)∧∃spl' spj',iH h' x jid did (doE e d o).1 spl' spj'∧bR h' did (doE e d o).2.1∧Touch (x::did::jid::(spl++spj)) h h'∧(∀i∈spl',i∈spl∨i∈spj∨h i=none)∧(∀i∈spj',i∈spj∨h i=none):=by
 have hF:=oI (ji hne);have hrl:=ug (h:=e.ch) hF;have hpl:=rA hF;have edo:doE e d o=(let a:=jadd d e.ps false (fX e.ch o);if a.2=0 then({nS e (aV e.s o) (fX e.ch o)with ps:=a.1.2.1,down:=a.1.2.2},a.1.1,(aV e.s o).2.1)else({e with ps:=a.1.2.1,down:=a.1.2.2},a.1.1,BR (a.2:Int))):=by
  exact aie
 have hgd:=fun(G:Heap) (hG' :Ab.Sub h G)=>mA e.s hG hk o h64 G (her.sub hG')
 have he0:=he;obtain⟨yl,hx,hg,hj⟩:=he;obtain⟨a1,a2,a3,a4,a5,a6,a7,es⟩:=cq e.s;have g:=hx;unfold kQ at g;rw[es]at g;simp only[List.cons_append,List.nil_append]at g;refine acn Tryz.func15 53 [.cell 4 36] fun hwf=>?_
 simp -implicitDefEqProofs only[go_sem,opA,opC];intro i1 h1;have x1:i1≠x:=fun e=>afe
 simp -implicitDefEqProofs only[go_sem];intro i2 h2;have n2:=aC h2;have x2:i2≠x:=fun e=>aff
 have n21:=aH h2;generalize hH:upd (upd h i1 _) i2 _=H;have kx:H x=_:=(by rw[←hH,ag _ _ (Ne.symm x2),ag _ _ (Ne.symm x1)]:H x=h x).trans g
 have k2:H i2=some (.obj nw 36):=aex;have k1:H i1=some (.obj (opC o) 32):=adG;have hsub:Ab.Sub h H:=ac2;clear hH g;unfold nw at k2;simp -implicitDefEqProofs only[go_sem,kx];refine(tg jid did e.ps e.down spj H (hj.sub hsub)).pthen ?_;rw[hd];generalize aV e.s o=gd at hgd hne edo⊢;obtain⟨S,R,D,E⟩:=gd;simp only at hne edo⊢;subst hne;obtain⟨b1,b2,b3,b4,b5,b6,b7,es2⟩:=cq S;rw[mB,show cg e.s= .agg (fC e.s)from rfl,es,show cg S= .agg (fC S)from rfl,es2]at hgd
 simp only[opA,opC]at hgd;unfold opC at k1;simp -implicitDefEqProofs only[go_sem];refine .tree _ (.quiet [0,1,2,3,4] 5 (.news [6,7,8,9,10] [11,12,13] (.seq [14,15,16,17]))) (.refl _) acs rfl ?_;simp -implicitDefEqProofs only[go_sem,kx,k1];refine⟨_,fun G hs=>hgd G (hsub.trans hs),?_⟩
 simp -implicitDefEqProofs only[go_sem];refine⟨.refl _,acw,?_⟩;intro jd hjd je hje jf hjf;have ned:=aH hje;have kje:=aC hje;have nfe:=aH hjf;have nfd:=aH (aC hjf);have kjf:=aC (aC hjf);simp -implicitDefEqProofs only[go_sem,aj,ned,ned.symm,nfe,nfe.symm,nfd,nfd.symm];refine⟨acC,acC,acC,?_⟩;have mjd:=hsub.none hjd;have mje:=hsub.none kje;have mjf:=hsub.none kjf;have j2:jd≠i2:=fun e=>afY
 have j2e:je≠i2:=fun e=>afZ
 have j2f:jf≠i2:=fun e=>af0
 refine CW fun H2 w2=>?_
 have xjd:jd≠x:=fun e=>af2
 have xje:je≠x:=fun e=>af3
 have xjf:jf≠x:=fun e=>af4
 have y1:jd≠i1:=fun e=>by rw[e,k1]at hjd;cases hjd
 have y2:je≠i1:=fun e=>by rw[e,k1]at kje;cases kje
 have y3:jf≠i1:=fun e=>by rw[e,k1]at kjf;cases kjf
 have hs2:Ab.Sub h H2:=aef;have fx:H2 x=_:=(by rw[w2];simp only[aj,xjd,xjd.symm,xje,xje.symm,xjf,xjf.symm,ne_eq,not_false_eq_true]:H2 x=H x).trans kx
 have f1:H2 i1=_:=(by rw[w2];simp only[aj,y1,y1.symm,y2,y2.symm,y3,y3.symm,ne_eq,not_false_eq_true]:H2 i1=H i1).trans k1
 have f2:H2 i2=_:=(by rw[w2];simp only[aj,j2,j2.symm,j2e,j2e.symm,j2f,j2f.symm,ne_eq,not_false_eq_true]:H2 i2=H i2).trans k2
 have fd:H2 jd=some (.obj [.i S.tick,fk S.cases,ja S.reviews,jw S.notices,dI S.roles,b1,b2,b3,b4,b5,b6,b7,.i S.version] 67):=acL;have fe:H2 je=some (.obj [.i R.err,.v (.complex .f64 (hbit R.mark.1) (hbit R.mark.2)),.b R.glass,.i R.val.kind,.i R.val.n,.s R.val.s,.b R.hidden,.i R.at_] 36):=acL;have ff:H2 jf=some (.obj (xQ D) 71):=adh;clear w2;refine .quiet acs ?_;simp -implicitDefEqProofs only[go_sem,fx,f1];refine⟨_,Cg e.ch o h64 (f_l hF) aco _,?_⟩;simp -implicitDefEqProofs only[go_sem,fx];refine(Hh d hdo did jid e.ps e.down spj H2 _ (fX e.ch o) (hdk.keep hs2.fK) (hj.sub hs2) (.sl _ _) aco hps).mono fun r H3 ⟨er,spj',hd3,hj3,hT3,hs3⟩=>?_
 subst er;have hin:∀q∈did::jid::spj,∃b,h q=some b∧∀cs,b≠ .obj cs 101:=fun q hq=>by
  exact ag6
 have out:∀q,h q=none→q∉did::jid::spj:=fun q hq hi=>by
  obtain⟨b,hb,_⟩:=hin q hi;rw[hq]at hb;cases hb
 have outx:x∉did::jid::spj:=fun hi=>by
  exact ail
 have fx3:=hT3 _ _ outx fx;have f23:=hT3 _ _ (out i2 n2) f2;have fd3:=hT3 _ _ (out jd mjd) fd;have fe3:=hT3 _ _ (out je mje) fe;have ff3:=hT3 _ _ (out jf mjf) ff;rw[hd]at hd3 hj3⊢;generalize jadd d e.ps false (fX e.ch o)=a at hd3 hj3 edo hcode⊢;obtain⟨⟨d2,ps2,dn2⟩,code⟩:=a;simp only at hd3 hj3 edo hcode⊢;subst hcode;rw[if_pos rfl]at edo;simp only[xQ,opC,List.cons_append,List.nil_append]at ff3;have hsp:∀i∈spl,i∉did::jid::spj:=fun i hi hq=>by
  exact ag5
 have hg3:=(hg.touch (S:=[]) (.of hs2) (fun i hi hh=>adP)).touch hT3 hsp
 have hx3:H3 x=some (kQ jid e yl):=by rw[fx3];unfold kQ;rw[es];rfl
 have hgo:=GY e S D (fX e.ch o) .no jid x yl spl H3 hx3 hg3 hlg aco;rw[show cg S= .agg (fC S)from rfl,es2]at hgo
 simp only[xQ,opC,List.cons_append,List.nil_append]at hgo;simp -implicitDefEqProofs only[go_sem,fd3,ff3];refine hgo.mono fun r H4 ⟨er,yl',spl',hx4,hg4,hT4,hs4⟩=>?_
 subst er;have hnl:∀q,h q=none→q∉x::spl:=fun q hq hh=>by
  rcases List.mem_cons.1 hh with rfl|hh
  ·rw[hx]at hq;cases hq
  ·obtain⟨n,hn⟩:=hg.has q hh
   rw[hn]at hq;cases hq
 have fe4:=hT4 _ _ (hnl je mje) fe3;have f24:=hT4 _ _ (hnl i2 n2) f23;simp -implicitDefEqProofs only[go_sem,fe4,f24,ah];have hF4:∀b,Touch [i2] H4 (upd H4 i2 b):=fun b=> .upd
 have hj3' :=hj3;obtain⟨z,zs,hz1,hz2,_⟩:=hj3';have jx:jid∉x::spl:=fun hh=>by
  exact ahD
 have sx:∀i∈spj',i∉x::spl:=fun i hi hh=>by
  obtain⟨n,hn⟩:=hz2.has i hi;rcases List.mem_cons.1 hh with rfl|hh
  ·rw[hx3]at hn;cases hn
  ·obtain⟨n2,hn2⟩:=hg3.has i hh
   rw[hn2]at hn;cases hn
 have hj4:=hj3.touch hT4 jx sx;have hj4' :=hj4;obtain⟨z4,zs4,hz41,hz42,_⟩:=hj4';have hd4:=hd3.touch hT4 (fun i hi cs=>by
  rcases List.mem_cons.1 hi with rfl|hi
  ·rw[hx3];exact⟨fun hh=>adP,fun hh=>adP⟩
  ·obtain⟨n,hn⟩:=hg3.has i hi
   rw[hn];exact⟨fun hh=>adP,fun hh=>adP⟩)
 refine .same (.refl _) ⟨by rw[edo];rfl,spl',spj',?_,?_,?_,fun i hi=>?_,fun i hi=>?_⟩
 ·rw[edo]
  refine⟨yl',?_,hg4.touch (hF4 _) ?_,hj4.touch (hF4 _) ?_ ?_⟩
  ·rw[ag _ _ (Ne.symm x2),hx4]
   unfold kQ;simp only[nS]
  ·intro i hi hh
   obtain⟨n,hn⟩:=hg4.has i hi;rw[List.mem_singleton.1 hh,f24]at hn;cases hn
  ·intro hh
   rw[List.mem_singleton.1 hh,f24]at hz41;cases hz41
  ·intro i hi hh
   obtain⟨n,hn⟩:=hz42.has i hi;rw[List.mem_singleton.1 hh,f24]at hn;cases hn
 ·rw[edo]
  exact hd4.upd f24 acr acr
 ·exact((((Touch.of (S:=[]) hs2).trans hT3).trans hT4).trans (hF4 _)).mono (fun i hi=>by
   simp only[List.nil_append,List.mem_append,List.mem_cons,List.mem_singleton,List.not_mem_nil,or_false]at hi;rcases hi with((h3|h3|h3)|(h3|h3))|h3
   ·left;simp[h3]
   ·left;simp[h3]
   ·left;simp[h3]
   ·left;simp[h3]
   ·left;simp[h3]
   ·right;rw[h3];exact n2)
 ·rcases hs4 i hi with h3|h3
  ·exact .inl h3
  ·right
   cases hh:h i with
   |none=>exact .inr rfl
   |some b=>
    left
    by_cases hm3:i∈did::jid::spj
    ·simp only[List.mem_cons]at hm3
     rcases hm3 with rfl|rfl|hm3
     ·obtain⟨w,hw,_⟩:=hd3
      rw[hw]at h3;cases h3
     ·rw[hz1]at h3;cases h3
     ·exact hm3
    ·have:=hT3 _ _ hm3 (hs2 _ _ hh)
     rw[h3]at this;cases this
 ·rcases hs3 i hi with h3|h3
  ·exact .inl h3
  ·right;exact hs2.none h3
theorem O8(x jid did:Nat)(e:eN)(d:D)(spl spj:List Nat)(o:OpD)(h:Heap)(he:iH h x jid did e spl spj)(hdk:bR h did d)(hdo:d.ok)(hps:e.ps.length≤1000000)(hlg:e.log.length≤1000000){k:Nat}(hG:jD k e.s)(hk:k≤1000)(h64:pQ o)(her:kR h):
  ai Tryz.prog 15 [.ptr x 0,opA o] h fun r h' =>r= .agg (ku (doE e d o).2.2)∧∃spl' spj',iH h' x jid did (doE e d o).1 spl' spj'∧bR h' did (doE e d o).2.1∧Touch (x::did::jid::(spl++spj)) h h'∧(∀i∈spl',i∈spl∨i∈spj∨h i=none)∧(∀i∈spj',i∈spj∨h i=none):=by
 have stay:∀R:j5,doE e d o=(e,d,R)→∀(r:AV) (h' :Heap),(r= .agg (ku R)∧h' =h)→r= .agg (ku (doE e d o).2.2)∧∃spl' spj',iH h' x jid did (doE e d o).1 spl' spj'∧bR h' did (doE e d o).2.1∧Touch (x::did::jid::(spl++spj)) h h'∧(∀i∈spl',i∈spl∨i∈spj∨h i=none)∧(∀i∈spj',i∈spj∨h i=none):=fun R ed r h' ⟨e1,e2⟩=>by
  subst e2;rw[ed];exact⟨e1,spl,spj,he,hdk,.refl _ _,fun i hi=> .inl hi,fun i hi=> .inl hi⟩
 cases hd:e.down
 case true=>
  exact(Nv x jid did e spl spj o h he hd).mono (stay _ (by simp_all [doE,if_pos]))
 by_cases hne:(aV e.s o).2.2.2=0
 case neg=>
  exact(Qt x jid did e spl spj o h he hd hG hk h64 her hne).mono (stay _ (by
   simp_all [doE,if_neg,if_pos]))
 by_cases hcode:(jadd d e.ps false (fX e.ch o)).2=0
 ·exact Qu x jid did e d spl spj o h he hdk hdo hps hlg hd hG hk h64 her hne hcode
 ·exact(Qv x jid did e d spl spj o h he hdk hdo hps hlg hd hG hk h64 her hne hcode).mono fun r h' ⟨a,s1,s2,b,c,f,g,i⟩=>⟨a,s1,s2,b,c,f,fun q hq=>(g q hq).imp id .inr,i⟩
theorem Tu{P:Program}{U:TypeId→TI}{n:Nat}{a b:Code}{ρ:Env}{h:Heap}{K:Exit→Env→Heap→Prop}{y:AV}(hh:∀H2,H2=h→nM P U n a b ρ H2 K y):nM P U n a b ρ h K y:=hh h rfl
theorem kR.touch{h h' :Heap}{S:List Nat}(he:kR h)(ht:Touch S h h')(hS:∀i∈S,∀b vs,h i≠some (.ro b vs)):kR h' :=by
 obtain⟨ev,hev,id,hi⟩:=he;exact⟨ev,hev,id,ht _ _ acp hi⟩
theorem Ft{e:eN}{l:List Txt}{i:Nat}(hi:i<l.length){e1:eN}(h:pJ e (l.take i)=some e1):pJ e (l.take (i+1))=rU e1 l[i]:=by
 grind [List.take_succ_eq_append_getElem,yc]
theorem Fs{e:eN}{l:List Txt}{i:Nat}(h:pJ e (l.take i)=none):pJ e l=none:=by
 rw[←List.take_append_drop i l];generalize l.take i=a at h⊢
 induction a generalizing e with
 |nil=>cases h
 |cons p a ih=>
  simp only[List.cons_append,pJ]at h⊢
  grind
theorem Og{e:eN}{p:Txt}{o:OpD}(h:nh e p=some o)(hl:p.length≤1000000):pQ o:=by
 grind [nh,GX,List.length_drop]
def xq(h h' :Heap)(did:Nat)(ps:List Txt)(r:AV):Prop:=match Gf ps with
 |none=>r= .tup [.v (.pointer none),.i 7]
 |some e=>∃x jid spl spj,r= .tup [.ptr x 0,.i 0]∧iH h' x jid did e spl spj∧(∀i∈x::jid::(spl++spj),h i=none)
theorem newL:fC sD= [.i 0,.sl [] .no,.sl [] .no,.sl [] .no,.sl [] .no,.s jy,.b false,.i 6,.sl [] .no,.sl [] .no,.sl [] .no,.sl [] .no,.i 0]:=rfl
theorem Mn(d:D)(hdo:d.ok)(did:Nat)(h:Heap)(hdk:bR h did d)(her:kR h)(hps:(scan d.b).1.length≤900):
  ai Tryz.prog 14 [.ptr did 0] h fun r h' =>bR h' did d.ck.1∧Keep did h h'∧if d.ck.2=0 then xq h h' did (scan d.b).1 r else r= .tup [.v (.pointer none),.i (d.ck.2:Nat)]:=by
 have hlen:=(Oo d.b).2;refine acn Tryz.func14 62 [.tmp 2,.tmp 3] fun hwf=>?_
 simp -implicitDefEqProofs only[go_sem];refine(Lm d hdo did h hdk).mono fun r h1 ⟨J,e1,hd1,kp1,hif⟩=>?_
 subst e1;have her1:kR h1:=her.touch (.keep kp1) (fun i hi b vs hh=>by
  obtain⟨y,hy,_⟩:=hdk;rw[List.mem_singleton.1 hi,hy]at hh;cases hh)
 generalize (scan d.b).1=ps at hps hlen hif⊢;generalize d.ck=od at hd1 hif⊢;obtain⟨d1,c1⟩:=od;simp only at hd1 hif⊢
 by_cases hc:c1=0
 case neg=>
  rw[if_neg hc]at hif;subst hif;have t1:(((c1:Nat):Int) !=0)=true:=by simp[hc]
  simp -implicitDefEqProofs only[go_sem,t1];exact .same (.refl _) ⟨hd1,kp1,by rw[if_neg hc];rfl⟩
 subst hc;rw[if_pos rfl]at hif;obtain⟨jid,spj,rfl,hjn,hj,hsn⟩:=hif;simp -implicitDefEqProofs only[go_sem];refine(LH h1 her1).pthen ?_;rw[show cg sD= .agg (fC sD)from rfl,newL]
 simp -implicitDefEqProofs only[go_sem];intro x hx;have hxh:h x=none:=by
  cases hh:h x with
  |none=>rfl
  |some k=>
   by_cases e:x=did
   ·subst e
    obtain⟨y,hy,_⟩:=hd1;rw[hy]at hx;cases hx
   ·rw[kp1 _ _ e hh]at hx;cases hx
 simp -implicitDefEqProofs only[go_sem];refine inH fun H1 w1=>?_
 have hs1:Ab.Sub h1 H1:=by rw[w1];exact(Sub.refl h1).new hx _
 have hE1:iH H1 x jid did (iN ps) [] spj:=⟨_,by rw[w1,ah];rfl,.inl ⟨rfl,rfl,rfl⟩,hj.sub hs1⟩
 clear w1;have hK1:Keep did h H1:=kp1.trans (hs1.keep did);refine(zb jid did ps false spj H1 (hj.sub hs1) aco (fun p hp=>by have:=hlen p hp;omega)).mono fun r h2 ⟨q,er,hs2⟩=>?_
 subst er;simp -implicitDefEqProofs only[go_sem,acd];refine .intro (fun m ρ H=>∃(i:Nat) (e:eN) (spl:List Nat),pJ (iN ps) (ps.take i)=some e∧e.ps=ps∧e.down=false∧e.log.length=i∧jD i e.s∧iH H x jid did e spl spj∧bR H did d1∧Keep did h H∧(∀j∈spl,h j=none)∧i≤ps.length∧m=ps.length - i∧lk ρ 6=some (.ptr x 0)∧lk ρ 28=some (.sl (ps.map kC) q)∧lk ρ 29=some (.i ps.length)∧lk ρ 30=some (.i i)) (ps.length - 0) ?_ ?_
 ·obtain⟨yl,a,b,c⟩:=hE1
  refine⟨0,iN ps,[],rfl,rfl,rfl,rfl,sj,⟨yl,hs2 _ _ a,b.touch (S:=[]) (.of hs2) (fun i hi=>by cases hi),c.sub hs2⟩,(hd1.keep hs1.fK).keep hs2.fK,hK1.trans (hs2.keep did),fun j hj=>(by cases hj),aco,rfl,?_,?_,?_,?_⟩<;>simp -implicitDefEqProofs only[go_sem]
 rintro m ρ H ⟨i,e,spl,hf,hps2,hdn,hlg,hG,hE,hD,hK,hsl,hi,rfl,r6,r28,r29,r30⟩
 by_cases hlt:i<ps.length
 case neg=>
  have ei:i=ps.length:=aco;have t1:decide ((i:Int)<(ps.length:Int))=false:=decide_eq_false aco;rw[ei,List.take_length]at hf;simp -implicitDefEqProofs only[go_sem,r6,r28,r29,r30,t1];refine .same (.refl _) ⟨hD,hK,?_⟩
  show xq h H did ps (.tup [.ptr x 0,.i 0])
  unfold xq Gf;rw[hf];exact⟨x,jid,spl,spj,rfl,hE,fun j hj=>by
   simp only[List.mem_cons,List.mem_append]at hj;rcases hj with rfl|rfl|hj|hj
   ·exact hxh
   ·exact hjn
   ·exact hsl _ hj
   ·exact(hsn _ hj).1⟩
 have t1:decide ((i:Int)<(ps.length:Int))=true:=decide_eq_true aco;have w3:=acj i aco;have ix:=fun k=>fc.eq (xs:=ps.map kC) (sz:=1) i acN acz k
 have hf1:=Ft hlt hf;have hpl:=hlen _ (aci hlt);rw[ace]at ix;obtain⟨p,ep⟩:∃p,ps[i]=p:=⟨_,rfl⟩;rw[ep]at ix hf1 hpl;simp only[kC]at ix;have hEx:=hE;obtain⟨yl,hx2,hgl,hj2⟩:=hE;simp -implicitDefEqProofs only[go_sem,r6,r28,r29,r30,t1,ix];refine(KS p .no e yl jid x H aco hx2).pthen ?_;unfold A9;have her2:kR H:=her.touch (.keep hK) (fun i hi b vs hh=>by
  obtain⟨y,hy,_⟩:=hdk;rw[List.mem_singleton.1 hi,hy]at hh;cases hh)
 have bad:∀H',Ab.Sub H H'→rU e p=none→bR H' did d1∧Keep did h H'∧xq h H' did ps (.tup [.v (.pointer none),.i 7]):=fun H' hs hn=>by
  refine⟨hD.keep hs.fK,hK.trans (hs.keep did),?_⟩;unfold xq Gf;rw[Fs (hf1.trans hn)]
 cases hr:nh e p with
 |none=>
  have hn:rU e p=none:=by unfold rU;rw[hr]
  simp -implicitDefEqProofs only[go_sem,hr,opA,opC,u6,ax,Option.getD,Option.isSome];intro i9 h9;simp -implicitDefEqProofs only[go_sem];exact .mk _ (.refl _) (.refl _) (bad _ ((Sub.refl H).new h9 _) hn)
 |some o=>
  have h64:=Og hr aco;have hst:rU e p=if(aV e.s o).2.2.2=0 then some (nS e (aV e.s o) p)else none:=by unfold rU;rw[hr]
  obtain⟨a1,a2,a3,a4,a5,a6,a7,es⟩:=cq e.s;have hgd:=fun(G:Heap) (hG' :Ab.Sub H G)=>mA e.s hG aco o h64 G (her2.sub hG')
  have hG2:=qB o hG;have g:=hx2;unfold kQ at g;rw[es]at g;simp only[List.cons_append,List.nil_append]at g;simp -implicitDefEqProofs only[go_sem,hr,opA,opC,Option.getD,Option.isSome];intro i9 h9;have x9:i9≠x:=fun e=>by rw[e,hx2]at h9;cases h9
  simp -implicitDefEqProofs only[go_sem];generalize hH:upd H i9 _=H1;have kx:H1 x=_:=(by rw[←hH,ag _ _ (Ne.symm x9)]:H1 x=H x).trans g
  have k9:H1 i9=some (.obj (opC o) 32):=aex;have hsub:Ab.Sub H H1:=by rw[←hH];exact(Sub.refl H).new h9 _
  clear hH g;generalize aV e.s o=gd at hgd hst hG2⊢;obtain⟨S,R,D,E⟩:=gd;simp only at hst hG2;obtain⟨b1,b2,b3,b4,b5,b6,b7,es2⟩:=cq S;rw[mB,show cg e.s= .agg (fC e.s)from rfl,es,show cg S= .agg (fC S)from rfl,es2]at hgd
  simp only[opA,opC]at hgd;unfold opC at k9;refine .tree _ (.quiet [0,1,2,3,4] 5 (.news [6,7,8,9,10] [11,12,13] (.seq [14,15,16,17]))) (.refl _) acs rfl ?_;simp -implicitDefEqProofs only[go_sem,r6,kx,k9];refine⟨_,fun G hs=>hgd G (hsub.trans hs),?_⟩
  simp -implicitDefEqProofs only[go_sem];refine⟨.refl _,acw,?_⟩;intro jd hjd je hje jf hjf;have ned:=aH hje;have kje:=aC hje;have nfe:=aH hjf;have nfd:=aH (aC hjf);have kjf:=aC (aC hjf);simp -implicitDefEqProofs only[go_sem,aj,ned,ned.symm,nfe,nfe.symm,nfd,nfd.symm];refine⟨acC,acC,acC,?_⟩;refine Tu fun H2 w2=>?_
  have xjd:jd≠x:=fun e=>af2
  have xje:je≠x:=fun e=>af3
  have xjf:jf≠x:=fun e=>af4
  have hs2:Ab.Sub H H2:=by
   have:=hsub.none hjd;have:=hsub.none kje;have:=hsub.none kjf;rw[w2];repeat (first|exact hsub|refine Ab.Sub.put ?_ acB _)
  have fx:H2 x=_:=(by rw[w2];simp only[aj,xjd,xjd.symm,xje,xje.symm,xjf,xjf.symm,ne_eq,not_false_eq_true]:H2 x=H1 x).trans kx
  have fd:H2 jd=some (.obj [.i S.tick,fk S.cases,ja S.reviews,jw S.notices,dI S.roles,b1,b2,b3,b4,b5,b6,b7,.i S.version] 67):=by rw[w2];simp only[aj,ned,ned.symm,nfe,nfe.symm,nfd,nfd.symm,ah,ne_eq,not_false_eq_true]
  have ff:H2 jf=some (.obj (xQ D) 71):=by rw[w2];simp only[aj,ned,ned.symm,nfe,nfe.symm,nfd,nfd.symm,ah,ne_eq,not_false_eq_true];rfl
  clear w2;simp only[xQ,opC,List.cons_append,List.nil_append]at ff
  by_cases hE0:E=0
  case neg=>
   have t2:(E !=0)=true:=by simp[hE0]
   rw[if_neg hE0]at hst;simp -implicitDefEqProofs only[go_sem,t2];exact .same (.refl _) (bad _ hs2 hst)
  subst hE0;rw[if_pos rfl]at hst;have hx3:H2 x=some (kQ jid e yl):=by rw[fx];unfold kQ;rw[es];rfl
  have hg3:=hgl.touch (S:=[]) (.of hs2) (fun i hi hh=>adP)
  have hgo:=GY e S D p .no jid x yl spl H2 hx3 hg3 aco aco;rw[show cg S= .agg (fC S)from rfl,es2]at hgo
  simp only[xQ,opC,List.cons_append,List.nil_append]at hgo;simp -implicitDefEqProofs only[go_sem,r6,fd,ff];refine hgo.mono fun r H4 ⟨er,yl',spl',hx4,hg4,hT4,hs4⟩=>?_
  subst er;simp -implicitDefEqProofs only[go_sem,r6,r28,r29,r30,w3];have hout:∀j∈x::spl,h j=none:=fun j hj=>by
   rcases List.mem_cons.1 hj with rfl|hj
   ·exact hxh
   ·exact hsl _ hj
  have hdid:h did≠none:=by
   obtain⟨y,hy,_⟩:=hdk;rw[hy];simp
  have hj3:=hj2.sub hs2;have hD2:=hD.keep hs2.fK;refine⟨_,?_,i+1,nS e (S,R,D,0) p,spl',hf1.trans hst,hps2,hdn,?_,hG2,⟨yl',hx4,hg4,?_⟩,?_,?_,?_,aco,rfl,?_,?_,?_,?_⟩
  ·omega
  ·simp[nS,hlg]
  ·refine hj3.touch hT4 ?_ ?_
   ·obtain⟨z,zs,hz1,_⟩:=hj3
    intro hh;exact ahD
   ·obtain⟨z,zs,_,hz2,_⟩:=hj3
    intro j hj hh;obtain⟨n,hn⟩:=hz2.has j hj;rcases List.mem_cons.1 hh with rfl|hh
    ·rw[hx3]at hn;cases hn
    ·obtain⟨n2,hn2⟩:=hg3.has j hh
     rw[hn2]at hn;cases hn
  ·exact hD2.touch hT4 (fun j hj cs=>by
    rcases List.mem_cons.1 hj with rfl|hj
    ·rw[hx3];exact⟨fun hh=>adP,fun hh=>adP⟩
    ·obtain⟨n,hn⟩:=hg3.has j hj
     rw[hn];exact⟨fun hh=>adP,fun hh=>adP⟩)
  ·intro j k hj hk
   exact hT4 _ _ (fun hh=>by rw[hout j hh]at hk;cases hk) (hs2 _ _ (hK _ _ hj hk))
  ·intro j hj
   rcases hs4 j hj with hh|hh
   ·exact hsl _ hh
   ·cases hk:h j with
    |none=>rfl
    |some k=>
     by_cases e1:j=did
     ·subst e1
      obtain⟨y,hy,_⟩:=hD2;rw[hy]at hh;cases hh
     ·rw[hs2 _ _ (hK _ _ e1 hk)]at hh;cases hh
  all_goals simp -implicitDefEqProofs only[go_sem,r6,r28,r29]
theorem iH.sub{h h' :Heap}{x jid did:Nat}{e:eN}{spl spj:List Nat}(he:iH h x jid did e spl spj)(hs:Ab.Sub h h'):iH h' x jid did e spl spj:=by
 obtain⟨yl,a,b,c⟩:=he;exact⟨yl,hs _ _ a,b.touch (S:=[]) (.of hs) acw,c.sub hs⟩
end Go.Proofs.YtcochaoekecfdaaGreatDoor
namespace Go.Bf
open Go Go.Ab Go.Proofs.YtcochaoekecfdaaGreatDoor
def Ui(e:eN)(o:OpD):eN:={nS e (aV e.s o) (fX e.ch o)with ps:=e.ps++ [fX e.ch o],down:=false}
theorem TA{e:eN}(d:D){o:OpD}(h:e.down=false)(hg:(aV e.s o).2.2.2≠0):doE e d o=(e,d,(aV e.s o).2.1):=by
 simp_all [doE,if_neg,if_pos]
theorem TB{e:eN}{d d' :D}{o:OpD}{ps:List Txt}{dn:Bool}{c:Nat}(h:e.down=false)(hg:(aV e.s o).2.2.2=0)(hj:jadd d e.ps false (fX e.ch o)=((d',ps,dn),c)):
  doE e d o=if c=0 then({nS e (aV e.s o) (fX e.ch o)with ps:=ps,down:=dn},d',(aV e.s o).2.1)else({e with ps:=ps,down:=dn},d',BR (c:Int)):=by
 simp_all [doE,if_neg]
theorem GL{e:eN}{d:D}{o:OpD}(h:e.down=false)(hg:(aV e.s o).2.2.2=0)(h1:d.off=false)(h2:d.f=0)(hr:d.b.length+(frame (fX e.ch o)).length≤d.q):
  doE e d o=({nS e (aV e.s o) (fX e.ch o)with ps:=e.ps++ [fX e.ch o],down:=false},{d with b:=d.b++frame (fX e.ch o),sy:=(d.b++frame (fX e.ch o)).length},(aV e.s o).2.1):=by
 have hl:=ug (h:=e.ch) (oI (ji hg));rw[TB h hg (Ua h1 h2 aco aco hr),if_pos rfl]
theorem Nw{e:eN}{d:D}{o:OpD}(h:e.down=false)(hg:(aV e.s o).2.2.2=0)(h1:d.off=false)(hr:d.q<d.b.length+(frame (fX e.ch o)).length):doE e d o=(e,d,BR 8):=by
 have hl:=ug (h:=e.ch) (oI (ji hg));rw[TB h hg (Ll h1 aco aco hr),if_neg acr];obtain⟨_,_,_,_,dn⟩:=e;cases h;rfl
end Go.Bf
namespace Go.Proofs.YtcochaoekecfdaaGreatDoor
open Go Go.Ab Go.Bf
theorem vr{h0 h h' :Heap}{S:List Nat}(hs:Ab.Sub h0 h)(ht:Touch S h h')(hn:∀i∈S,h0 i=none):Ab.Sub h0 h' :=fun j k hj=>ht j k acp (hs j k hj)
theorem Eu{h0 h h' :Heap}{i:Nat}(hs:Ab.Sub h0 h)(ht:Keep i h h')(hn:h0 i=none):Ab.Sub h0 h' :=vr hs (.keep ht) acp
theorem KL{h:Heap}{x jid did:Nat}{e:eN}{d:D}{spl spj:List Nat}(he:iH h x jid did e spl spj)(hd:bR h did d):∀i∈x::did::jid::(spl++spj),h i≠none:=fun i hi=>by
 obtain⟨yl,a,b,z,zs,c1,c2,_⟩:=he;obtain⟨y,d1,_⟩:=hd;simp only[List.mem_cons,List.mem_append]at hi;rcases hi with rfl|rfl|rfl|hi|hi
 ·grind
 ·grind
 ·grind
 ·obtain⟨n,e⟩:=b.has i hi;grind
 ·obtain⟨n,e⟩:=c2.has i hi;grind
theorem Bg(q:Nat)(hq:q≤1048576)(did:Nat)(h:Heap)(hdk:bR h did ⟨q,[],0,0,false⟩)(her:kR h):
  ai Tryz.prog 14 [.ptr did 0] h fun r h' =>∃x jid spl spj,r= .tup [.ptr x 0,.i 0]∧iH h' x jid did (iN []) spl spj∧bR h' did ⟨q,[],0,0,false⟩∧Keep did h h'∧(∀i∈x::jid::(spl++spj),h i=none):=by
 have hok:D.ok ⟨q,[],0,0,false⟩:=⟨Nat.zero_le _,hq,Nat.zero_le _,(by decide:(0:Nat)<9223372036854775808)⟩
 have ho:=D.Rg hok rfl rfl;simp only[zh,List.take_nil]at ho;refine(Mn _ hok did h hdk her (by simp[zh])).mono fun r h' ⟨h1,h2,h3⟩=>?_
 simp only[if_true,zh]at h3;obtain⟨x,jid,spl,spj,a,b,c⟩:=h3
 grind
theorem Pw:(aV sD qM).2.1=⟨0,bl,false,ax,false,0⟩∧(aV sD qM).2.2.2=0:=⟨acF,acF⟩
theorem LG:pQ qM:=⟨⟨acr,acr⟩,⟨acr,acr⟩,⟨acr,acr⟩,⟨acr,acr⟩⟩
theorem Ug:opA qM= .agg [.i 1,.s [97,110,110],.s [99],.s [],.s [],.i 0,.i 0,.s [],.i 0,.s [],.s [],.b false]:=rfl
theorem zL(h:Heap)(he:kR h):ai Tryz.prog 3 [] h fun r h' =>r= .b true∧h' =h:=
 ai.freeze fun g hgs _=>by
 have he:=he.sub hgs;have hF:=oI (ji Pw.2);have hput:=rA hF;have hrl:=ug (h:=0#64) hF;have hrec:=fun G=>Cg 0#64 qM LG (f_l hF) aco G
 have hpl:=oJ (fX 0#64 qM);have hdo:=GL (e:=iN []) (d:=⟨1000,[],0,0,false⟩) (o:=qM) rfl Pw.2 rfl rfl acr;rw[Ug]at hrec;refine acn Tryz.func3 67 [.tmp 0] fun hwf=>?_
 simp only[go_sem];refine(CV 1000 acr g).mono fun r h1 ⟨did,hn,er,hdk,s1⟩=>?_
 subst er;simp only[go_sem];refine(Bg 1000 acr did h1 hdk (he.sub s1)).mono fun r h2 ⟨x,jid,spl,spj,er,hE,hD,hK,hnew⟩=>?_
 subst er;have s2:Ab.Sub g h2:=Eu s1 hK hn;have hnew' :∀i∈x::did::jid::(spl++spj),g i=none:=fun i hi=>by
  simp only[List.mem_cons]at hi hnew;rcases hi with rfl|rfl|hi
  ·exact s1.none (hnew _ (.inl rfl))
  ·omega
  ·exact s1.none (hnew _ (.inr hi))
 simp only[go_sem];intro i5 h5;simp only[go_sem];have e5:∀ {b:Option Blk},Ab.Sub h2 (upd h2 i5 b):=fun {b}=>(Sub.refl h2).new h5 b
 generalize hH:upd h2 i5 _=H;have f5:H i5=some (.obj (opC qM) 32):=aex;have s5:Ab.Sub h2 H:=by rw[←hH];exact e5
 clear hH;have f5' :H i5=some (.obj [.i 1,.s [97,110,110],.s [99],.s [],.s [],.i 0,.i 0,.s [],.i 0,.s [],.s [],.b false] 32):=f5;refine(show ai Tryz.prog _ [.ptr x 0,opA qM] _ _ from(O8 x jid did (iN []) ⟨1000,[],0,0,false⟩ spl spj qM H (hE.sub s5) (hD.keep s5.fK) ⟨Nat.zero_le _,acr,Nat.zero_le _,acr⟩ acr acr sj acr LG ((he.sub s2).sub s5)).mono fun r h3 ⟨er,spl',spj',hE3,hD3,hT3,_⟩=>?_)
 subst er;rw[hdo]at hE3 hD3⊢;have n5:i5∉x::did::jid::(spl++spj):=fun hi=>KL hE hD _ hi h5
 have f53:=hT3 _ _ n5 f5';have s3:Ab.Sub g h3:=vr (s2.trans s5) hT3 hnew';have er2:ku (aV (iN []).s qM).2.1= [.i 0,.v (.complex .f64 4607182418800017408 0),.b false,.i 0,.i 0,.s [],.b false,.i 0]:=acF;rw[er2];obtain⟨E,eE⟩:∃E,({nS (iN []) (aV (iN []).s qM) (fX (iN []).ch qM)with ps:=(iN []).ps++ [fX (iN []).ch qM],down:=false}:eN)=E:=⟨_,rfl⟩
 have eps:E.ps= [fX 0#64 qM]:=by rw[←eE];rfl
 have ech:E.ch=se 0#64 (fX 0#64 qM):=by rw[←eE];rfl
 simp only[eE]at hE3;clear eE hdo er2;simp only[go_sem];intro i6 h6;simp only[go_sem];generalize hH4:upd h3 i6 _=H4;have f6:H4 i6=some (.obj [.i 0,.v (.complex .f64 4607182418800017408 0),.b false,.i 0,.i 0,.s [],.b false,.i 0] 36):=by rw[←hH4,ah]
 have s6:Ab.Sub h3 H4:=by rw[←hH4];exact(Sub.refl h3).new h6 _
 clear hH4;obtain⟨p,ep⟩:∃p,fX 0#64 qM=p:=⟨_,rfl⟩;rw[ep]at eps ech hrec hrl hpl;refine(C3 x jid did E spl' spj' H4 (hE3.sub s6) agv (by rw[eps];intro q hq;rw[List.mem_singleton.1 hq];omega)).mono fun r H5 ⟨q,er,s7⟩=>?_
 subst er;rw[eps];have f65:=s7 _ _ f6;have f55:=s7 _ _ (s6 _ _ f53);have hE5:=(hE3.sub s6).sub s7;have ix:=fun(K:AV→Prop)=>fc.eq (xs:=[kC p]) (sz:=1) 0 acw rfl K
 simp only[Int.natCast_zero,List.getElem_cons_zero,kC]at ix;have qd:eqC (.v (.complex .f64 4607182418800017408 0)) (.v (.complex .f64 4607182418800017408 0))=true:=rfl;simp only[go_sem];refine .quiet acs ?_;simp only[go_sem,f65,f55,qd,ix,List.map_cons,List.map_nil,kC];refine⟨_,show ai Tryz.prog _ [.v (.int .u64 0),_] _ _ from hrec H5,?_⟩
 have d8:decide ((8:Int)<(p.length:Int))=true:=decide_eq_true aco;simp only[go_sem,f65,f55,qd,ix];refine⟨_,Om _ _ p p _ (.sl _ _) (.sl _ _) aco,?_⟩;rw[show decide (p=p)=true from acw]
 simp only[go_sem,ix,acd,d8];refine⟨_,Kz x jid did E spl' spj' H5 hE5,?_⟩;simp only[go_sem,ix];refine⟨_,show ai Tryz.prog _ [.v (.int .u64 0),_] _ _ from CL 0#64 _ p _ (.sl _ _) aco,?_⟩
 simp only[go_sem,ech,beq_self_eq_true];exact .same (.refl _) ⟨s3.trans (s6.trans s7),_,.pure rfl,rfl⟩
end Go.Proofs.YtcochaoekecfdaaGreatDoor
