/- The law EngineKeeps: pack 7 of its texts. -/
import Derived.Test.YtokahfmoollblaaGreatDoorPk1
import Derived.Test.YtokahfmoollblaaGreatDoorPk2
import Derived.Test.YtokahfmoollblaaGreatDoorPk3
import Derived.Test.YtokahfmoollblaaGreatDoorPk4
import Derived.Test.YtokahfmoollblaaGreatDoorPk5
import Derived.Test.YtokahfmoollblaaGreatDoorPk6
set_option linter.unusedSimpArgs false
set_option linter.unusedVariables false
set_option maxRecDepth 100000
namespace Go.Proofs.YtokahfmoollblaaGreatDoor
open Go Go.Ab Go.Bf Tryz
theorem wR:∀(p q:bF) (h:Heap),ai prog 64 [aL p,aL q] h fun r h' =>r= .b (eqP p q)∧h' =h
 |.mk i1 s1 a1 t1 r1 k1 o1,.mk i2 s2 a2 t2 r2 k2 o2,h=>by
  have ihk:∀(j:Nat) (hj:j<k1.length) (q:bF) (h:Heap),ai prog 64 [aL k1[j],aL q] h fun r h' =>r= .b (eqP k1[j] q)∧h' =h:=
   fun j hj q h=>wR k1[j] q h
  refine ad2 func64 134 [.tmp 4] fun hwf=>?_
  have hlen:k1.length<9223372036854775808∧r1.length<9223372036854775808:=by have:=hwf (aL (.mk i1 s1 a1 t1 r1 k1 o1)) aea;simp only[aL,wfA]at this;have g1:=this (.sl (fc k1) .no) aea;have g2:=this (.sl (r1.map aC) .no) aea;simp only[wf1,adT,aQ]at g1 g2;exact⟨g1,g2⟩
  simp only[go_sem,aL,aT,ay];intro ia hia;simp only[go_sem];intro ib hib;have nab:=zp hib;have hs0:=fun b=>(Sub.ak hia).trans (.ak (k:=b) hib)
  generalize hH:upd (upd h ia _) ib _=hb;have hs0:Ab.Sub h hb:=by rw[←hH];exact hs0 _
  have ga:hb ia=some (.obj [.s i1,.b s1,.i a1,.sl (t1.map cB) .no,.sl (r1.map aC) .no,.sl (fc k1) .no,.sl (o1.map bh) .no] 38):=by rw[←hH,ag _ _ nab.symm,ah]
  have gb:hb ib=some (.obj [.s i2,.b s2,.i a2,.sl (t2.map cB) .no,.sl (r2.map aC) .no,.sl (fc k2) .no,.sl (o2.map bh) .no] 38):=by rw[←hH,ah]
  clear hH;have bad:eqP (.mk i1 s1 a1 t1 r1 k1 o1) (.mk i2 s2 a2 t2 r2 k2 o2)=false→(.b false:AV)= .b (eqP (.mk i1 s1 a1 t1 r1 k1 o1) (.mk i2 s2 a2 t2 r2 k2 o2))∧h=h:=fun e=>⟨by rw[e],rfl⟩
  cases d1:(i1==i2)
  case false=>simp only[go_sem,ga,gb,d1];exact .mk _ (.refl _) hs0 (bad (by simp[eqP,d1]))
  cases d2:(s1==s2)
  case false=>simp only[go_sem,ga,gb,d1,d2];exact .mk _ (.refl _) hs0 (bad (by simp only[eqP,d2,Bool.false_and,Bool.and_false]))
  cases d3:(a1==a2)
  case false=>
   have d3' :(a1 !=a2)=true:=by simp only[bne,d3,Bool.not_false]
   simp only[go_sem,ga,gb,d1,d2,d3'];exact .mk _ (.refl _) hs0 (bad (by simp only[eqP,d3,Bool.false_and,Bool.and_false]))
  have d3' :(a1 !=a2)=false:=by simp only[bne,d3,Bool.not_true]
  have f1:=zW t1 t2 hb;have f2:=tu o1 o2 hb;simp only[aT]at f1;simp only[ay]at f2;simp only[go_sem,ga,gb,d1,d2,d3'];refine f1.pthen ?_;cases d4:eqT t1 t2
  case false=>simp only[go_sem,ga,gb,d4];exact .mk _ (.refl _) hs0 (bad (by simp only[eqP,d4,Bool.false_and,Bool.and_false]))
  simp only[go_sem,ga,gb,d4];refine f2.pthen ?_;cases d5:eqL oP o1 o2
  case false=>simp only[go_sem,ga,gb,d5];exact .mk _ (.refl _) hs0 (bad (by simp only[eqP,d5,Bool.false_and,Bool.and_false]))
  cases d6:((r1.length:Int) !=(r2.length:Int))
  case true=>
   have e6:r1.length≠r2.length:=by intro e;rw[e]at d6;simp at d6
   simp only[go_sem,ga,gb,d5,adT,d6];exact .mk _ (.refl _) hs0 (bad (by simp only[eqP,iD e6,Bool.false_and,Bool.and_false]))
  have e6:r1.length=r2.length:=by have:(r1.length:Int)=r2.length:=(by simpa using d6);omega
  cases d7:((k1.length:Int) !=(k2.length:Int))
  case true=>
   have e7:k1.length≠k2.length:=by intro e;rw[e]at d7;simp at d7
   simp only[go_sem,ga,gb,d5,adT,d6,aQ,d7];exact .mk _ (.refl _) hs0 (bad (by simp only[eqP,xH,iD e7,Bool.false_and,Bool.and_false]))
  have e7:k1.length=k2.length:=by have:(k1.length:Int)=k2.length:=(by simpa using d7);omega
  simp only[go_sem,ga,gb,d5,adT,d6,aQ,d7];refine .intro (fun m ρ h' =>Ab.Sub hb h'∧∃i:Nat,i≤r1.length∧m=r1.length - i∧(∀j (h1:j<r1.length) (h2:j<r2.length),j<i→eqR r1[j] r2[j]=true)∧lk ρ 2=some (.ptr ia 0)∧lk ρ 3=some (.ptr ib 0)∧lk ρ 64=some (.i r1.length)∧lk ρ 65=some (.i i)) r1.length ?_ ?_
  ·exact ajw
  ·rintro m ρ h' ⟨hs,i,hi,rfl,hc,q2,q3,q64,q65⟩
   have ga1:=hs _ _ ga;have gb1:=hs _ _ gb;simp only[go_sem,q2,q3,q64,q65];refine .intro (fun e=>?_) (fun e=>?_)
   ·have hlt:i<r1.length:=ad0 e
    have hlt2:i<r2.length:=ad3;have w1:=adZ i ad3;simp only[go_sem,q2,q3,q64,q65];refine .tree h' (.news [0,1,2,3,4,5,6,7,8,9] [10,11] (.seq [12,13])) (.refl _) ad7 rfl ?_;simp only[go_sem,q2,q3,q64,q65,ga1,gb1];refine .at i aep aec ?_;simp only[go_sem,q2,q3,q64,q65,ga1,gb1,adU,aC];refine .at i (by simpa using hlt2) aec ?_
    simp only[go_sem,q2,q3,q64,q65,ga1,gb1,adU,aC];refine⟨.refl _,aea,?_⟩;intro j6 h6 j7 h7;have n76:=zp h7;have h7a:=h7;rw[ag _ _ n76]at h7a;have sb:=fun a b=>((Sub.refl h').put h6 a).put h7a b
    simp only[go_sem,aj,n76,n76.symm];refine⟨(sb _ _).put h6 _,((sb _ _).put h6 _).put h7a _,?_⟩;generalize hH:upd (upd (upd (upd h' j6 _) j7 _) j6 _) j7 _=h2;have hs2:Ab.Sub h' h2:=by rw[←hH];exact((sb _ _).put h6 _).put h7a _
    have g6:h2 j6=some (.obj [.s r1[i].id,.b r1[i].deny,.sl (r1[i].tgt.map cB) .no,.sl (r1[i].cond.map cN) .no,.sl (r1[i].obls.map bh) .no] 217):=by rw[←hH,ag _ _ n76.symm,ah];rfl
    have g7:h2 j7=some (.obj [.s r2[i].id,.b r2[i].deny,.sl (r2[i].tgt.map cB) .no,.sl (r2[i].cond.map cN) .no,.sl (r2[i].obls.map bh) .no] 217):=afW;clear hH;have hs3:=hs.trans hs2;have f1:=zW r1[i].tgt r2[i].tgt h2;have f2:=EY r1[i].cond r2[i].cond h2;have f3:=tu r1[i].obls r2[i].obls h2;have bad2:eqR r1[i] r2[i]=false→(.b false:AV)= .b (eqP (.mk i1 s1 a1 t1 r1 k1 o1) (.mk i2 s2 a2 t2 r2 k2 o2))∧h=h:=fun e=>bad (by simp only[eqP,jy i hlt hlt2 e,Bool.false_and,Bool.and_false])
    cases c1:(r1[i].id==r2[i].id)
    case false=>simp only[go_sem,q2,q3,q64,q65,g6,g7,c1];exact .mk _ (.refl _) (hs0.trans hs3) (bad2 (by simp only[eqR,c1,Bool.false_and,Bool.and_false]))
    cases c2:(r1[i].deny==r2[i].deny)
    case false=>simp only[go_sem,q2,q3,q64,q65,g6,g7,c1,c2];exact .mk _ (.refl _) (hs0.trans hs3) (bad2 (by simp only[eqR,c2,Bool.false_and,Bool.and_false]))
    simp only[go_sem,q2,q3,q64,q65,g6,g7,c1,c2];refine f1.pthen ?_;cases c3:eqT r1[i].tgt r2[i].tgt
    case false=>simp only[go_sem,q2,q3,q64,q65,g6,g7,c3];exact .mk _ (.refl _) (hs0.trans hs3) (bad2 (by simp only[eqR,c3,Bool.false_and,Bool.and_false]))
    simp only[go_sem,q2,q3,q64,q65,g6,g7,c3];refine f2.pthen ?_;cases c4:eqL pI r1[i].cond r2[i].cond
    case false=>simp only[go_sem,q2,q3,q64,q65,g6,g7,c4];exact .mk _ (.refl _) (hs0.trans hs3) (bad2 (by simp only[eqR,c4,Bool.false_and,Bool.and_false]))
    simp only[go_sem,q2,q3,q64,q65,g6,g7,c4];refine f3.pthen ?_;cases c5:eqL oP r1[i].obls r2[i].obls
    case false=>simp only[go_sem,q2,q3,q64,q65,g6,g7,c5];exact .mk _ (.refl _) (hs0.trans hs3) (bad2 (by simp only[eqR,c5,Bool.false_and,Bool.and_false]))
    simp only[go_sem,q2,q3,q64,q65,g6,g7,c5,w1];refine⟨_,?_,hs3,i+1,ad3,rfl,fun j h1 h2 hj=>?_,?_,?_,?_,?_⟩
    ·omega
    ·by_cases hji:j=i
     ·subst hji;simp only[eqR,c1,c2,c3,c4,c5,Bool.and_self]
     ·exact hc j h1 h2 ad3
    all_goals simp only[go_sem,q2,q3,q64,q65,w1]
   ·have hge:i=r1.length:=by have:=adW e;omega
    subst hge;have hrr:eqL eqR r1 r2=true:=cU e6 fun j h1 h2=>hc j h1 h2 h1
    simp only[go_sem,q2,q3,q64,q65,ga1,gb1,aQ,adT];refine .intro (fun m ρ h' =>Ab.Sub hb h'∧∃i:Nat,i≤k1.length∧m=k1.length - i∧(∀j (h1:j<k1.length) (h2:j<k2.length),j<i→eqP k1[j] k2[j]=true)∧lk ρ 2=some (.ptr ia 0)∧lk ρ 3=some (.ptr ib 0)∧lk ρ 117=some (.i k1.length)∧lk ρ 118=some (.i i)) k1.length ?_ ?_
    ·refine⟨hs,0,ad3,rfl,fun j _ _ hj=>ad3,?_,?_,?_,?_⟩<;>simp only[go_sem,q2,q3]
    ·rintro m ρ h' ⟨hs,i,hi,rfl,hc,q2,q3,q117,q118⟩
     have ga1:=hs _ _ ga;have gb1:=hs _ _ gb;simp only[go_sem,q2,q3,q117,q118];refine .intro (fun e=>?_) (fun e=>?_)
     ·have hlt:i<k1.length:=ad0 e
      have hlt2:i<k2.length:=ad3;have w1:=adZ i ad3;have ihi:=ihk i hlt k2[i] h';simp only[go_sem,q2,q3,q117,q118,ga1,gb1];refine .quiet ad7 ?_;simp only[go_sem,q2,q3,q117,q118,ga1,gb1,aQ];cases ek1:k1[i]with
      |mk x1 x2 x3 x4 x5 x6 x7=>
      cases ek2:k2[i]with
      |mk y1 y2 y3 y4 y5 y6 y7=>
      have ihi2:=ihi;rw[ek1,ek2]at ihi;simp only[aL,aT,ay]at ihi;refine .at i aep (by rw[adU];exact zB _) ?_
      simp only[go_sem,q2,q3,q117,q118,ga1,gb1,adU,ek1,aL,aT,ay,aQ];refine .at i (by simpa using hlt2) (by rw[adU];exact zB _) ?_
      simp only[go_sem,q2,q3,q117,q118,ga1,gb1,adU,ek2,aL,aT,ay,aQ];simp only[aQ]at ihi;refine⟨_,ihi,?_⟩;rw[←ek1,←ek2];cases c6:eqP k1[i] k2[i]
      ·simp only[go_sem,q2,q3,q117,q118]
       exact .mk _ (.refl _) (hs0.trans hs) (bad (by simp only[eqP,xH,jy i hlt hlt2 c6,Bool.and_false]))
      ·simp only[go_sem,q2,q3,q117,q118,w1]
       refine⟨_,?_,hs,i+1,ad3,rfl,fun j h1 h2 hj=>?_,?_,?_,?_,?_⟩
       ·omega
       ·by_cases hji:j=i
        ·subst hji;exact c6
        ·exact hc j h1 h2 ad3
       all_goals simp only[go_sem,q2,q3,q117,q118,w1]
     ·have hge:i=k1.length:=by have:=adW e;omega
      subst hge;have hkk:eqL eqP k1 k2=true:=cU e7 fun j h1 h2=>hc j h1 h2 h1
      simp only[go_sem,q2,q3,q117,q118];exact .mk _ (.refl _) (hs0.trans hs) ⟨by simp only[eqP,d1,d2,d3,d4,d5,hrr,xH,hkk,Bool.and_self];rfl,rfl⟩
termination_by p=>SizeOf.sizeOf p
decreasing_by
 have:=List.sizeOf_lt_of_mem (adY hj);simp only[bF.mk.sizeOf_spec];omega
def qM(s t:an):Bool:=s.tick==t.tick && eqL lD s.cases t.cases && eqL pK s.reviews t.reviews && eqL pJ s.notices t.notices && eqL mG s.roles t.roles && s.version==t.version && eqP s.policy t.policy
theorem sM(s:an):qM s s=true:=by
 have h1:eqL pK s.reviews s.reviews=true:=cU rfl fun j _ _=>by simp[pK]
 have h2:eqL pJ s.notices s.notices=true:=cU rfl fun j _ _=>by simp[pJ]
 simp[qM,FH,h1,h2,Ks,(L6 s.policy s.policy).2 rfl]
theorem yf(s t:an)(h:Heap):ai prog 26 [bN s,bN t] h fun r h' =>r= .b (qM s t)∧h' =h:=by
 obtain⟨d,ed⟩:∃d,qM s t=d:=⟨_,rfl⟩;rw[ed];unfold qM at ed;have hs:=o6 s;have ht:=o6 t;obtain⟨tick,cs,rv,nt,ro,⟨pid,pset,palg,ptgt,prules,pkids,pobls⟩,ver⟩:=s;obtain⟨tick',cs',rv',nt',ro',⟨pid',pset',palg',ptgt',prules',pkids',pobls'⟩,ver'⟩:=t;simp only at ed;rw[hs,ht];simp only[sL,fO,jR,ku,dW];refine ad2 func26 52 [.tmp 4] fun hwf=>?_
 simp only[go_sem];intro i1 h1;simp only[go_sem];intro i2 h2;have n21:=aF h2;have n2:=aB h2;have hsub:∀a b,Ab.Sub h (upd (upd h i1 a) i2 b):=fun a b=>((Sub.refl h).put h1 _).put n2 _
 cases d1:(tick==tick')
 ·simp only[go_sem,aj,n21.symm,d1]
  exact .mk _ (.refl _) (hsub _ _) ⟨by rw[←ed,d1];rfl,rfl⟩
 simp only[go_sem,aj,n21.symm,d1];refine(LG (crows cs) (crows cs') .no .no _).pthen ?_;cases d2:eqL lD cs cs'
 ·simp only[go_sem]
  exact .mk _ (.refl _) (hsub _ _) ⟨by rw[←ed,d1,d2];rfl,rfl⟩
 simp only[go_sem,aj,n21.symm];refine(GU rv rv' .no .no _).pthen ?_;cases d3:eqL pK rv rv'
 ·simp only[go_sem]
  exact .mk _ (.refl _) (hsub _ _) ⟨by rw[←ed,d1,d2,d3];rfl,rfl⟩
 simp only[go_sem,aj,n21.symm];refine(GS nt nt' .no .no _).pthen ?_;cases d4:eqL pJ nt nt'
 ·simp only[go_sem]
  exact .mk _ (.refl _) (hsub _ _) ⟨by rw[←ed,d1,d2,d3,d4];rfl,rfl⟩
 simp only[go_sem,aj,n21.symm];refine(EZ ro ro' .no .no _).pthen ?_;cases d5:eqL mG ro ro'
 ·simp only[go_sem]
  exact .mk _ (.refl _) (hsub _ _) ⟨by rw[←ed,d1,d2,d3,d4,d5];rfl,rfl⟩
 cases d6:(ver==ver')
 ·simp only[go_sem,aj,n21.symm,d6]
  exact ajW
 simp only[go_sem,aj,n21.symm,d6];refine ai.pthen (show ai prog 64 [_,_] _ _ from wR (.mk pid pset palg ptgt prules pkids pobls) (.mk pid' pset' palg' ptgt' prules' pkids' pobls') _) ?_
 simp only[go_sem];exact ajW
end Go.Proofs.YtokahfmoollblaaGreatDoor
namespace Go.Bf
open Go Go.Ab Go.Proofs.YtokahfmoollblaaGreatDoor
theorem OO{k n:Nat}{e:cI}{b:Txt}{sy:Nat}(o:OpD)(hd:e.down=false)(hG:fM k e.s)(hok:D.ok ⟨n,b,sy,0,false⟩):
  ∃e' b' sy' RR,doE e ⟨n,b,sy,0,false⟩ o=(e',⟨n,b',sy',0,false⟩,RR)∧D.ok ⟨n,b',sy',0,false⟩∧e'.down=false∧e'.ps.length≤e.ps.length+1∧e'.log.length≤e.log.length+1∧fM (k+1) e'.s∧
   (((aI e.s o).2.2.2≠0∧RR=(aI e.s o).2.1∧e' =e)∨((aI e.s o).2.2.2=0∧n<b.length+16+(gO o).length∧RR=xq 8∧e' =e)∨((aI e.s o).2.2.2=0∧b.length+16+(gO o).length≤n∧RR=(aI e.s o).2.1∧e' =nv e o)):=by
 have up:fM (k+1) e.s:={hG.tojV.up with ticks:=hG.ticks}
 have hl:(frame (cK e.ch o)).length=16+(gO o).length:=by grind [cJ,cK,fS]
 by_cases hg:(aI e.s o).2.2.2=0
 case neg=>exact⟨e,b,sy,_,LU _ hd hg,hok,hd,ad3,ad3,up,.inl ⟨hg,rfl,rfl⟩⟩
 by_cases hr:b.length+16+(gO o).length≤n
 ·refine⟨_,_,_,_,Cm (d:=⟨n,b,sy,0,false⟩) hd hg rfl rfl ad4,⟨?_,hok.2.1,Nat.le_refl _,hok.2.2.2⟩,rfl,aea,by simp[mz],nQ o hG,.inr (.inr ⟨hg,hr,rfl,rfl⟩)⟩
  grind
 ·exact⟨e,b,sy,_,HK (d:=⟨n,b,sy,0,false⟩) hd hg rfl ad4,hok,hd,ad3,ad3,up,.inr (.inl ⟨hg,ad3,rfl,rfl⟩)⟩
end Go.Bf
namespace Go.Proofs.YtokahfmoollblaaGreatDoor
open Go Go.Ab Go.Bf Tryz
theorem Ln(s:an)(L:List AV)(hL:cD s=L)(h:Heap):ai prog 26 [bN s,.agg L] h fun r h' =>r= .b true∧h' =h:=by subst hL;have:=yf s s h;rw[sM]at this;exact aeE
theorem yO{k:Nat}{s:an}(h:jV k s)(o:OpD):M9 (aI s o).2.1.mark∧M9 (aI s o).2.2.1.mark:=by
 have hm:M9 (gM s o).1:=(xI _ _).m9;unfold aI;split
 ·exact⟨M9.na,M9.na⟩
 ·split
  ·exact⟨M9.na,M9.na⟩
  ·exact⟨hm,hm⟩
theorem DC{m:aU}(h:M9 m):eqC (.v (.complex .f64 (hbit m.1) (hbit m.2))) (.v (.complex .f64 (hbit m.1) (hbit m.2)))=true:=by have:=L4 h h;rw[beq_self_eq_true]at this;exact aeE
theorem mC.upd{h0 h:Heap}{x jid did:Nat}{e:cI}{d:D}{spl spj:List Nat}(w:mC h0 h x jid did e d spl spj){i:Nat}{cs:List AV}{t:TypeId}(b:Option Blk)(hi:h i=some (.obj cs t))(hn:i∉x::did::jid::(spl++spj))(h0i:h0 i=none)(t1:t≠121)(t2:t≠5):mC h0 (Ab.upd h i b) x jid did e d spl spj:=by obtain⟨yl,a,bb,c⟩:=w.eng;exact⟨⟨yl,by simp_all [ag,Ne.symm],bb.touch .upd ad4,c.touch .upd ad4 ad4⟩,w.disk.upd hi t1 t2,w.ok,fun j k hj=>(by rw[ag _ _ ad4];exact w.sub _ _ hj),w.new⟩
theorem CO(r:jW):kH r= [.i r.err,.v (.complex .f64 (hbit r.mark.1) (hbit r.mark.2)),.b r.glass,.i r.val.kind,.i r.val.n,.s r.val.s,.b r.hidden,.i r.at_]:=rfl
end Go.Proofs.YtokahfmoollblaaGreatDoor
namespace Go.Bf
open Go Go.Ab Go.Proofs.YtokahfmoollblaaGreatDoor
variable {n sy sy' T:Nat}{e e':cI}{o:OpD}
structure sJ (e:cI) (b:Txt):Prop where
 ok:C0 e
 b:b=frames e.ps
 len:∀p∈e.ps,9≤p.length∧p.length≤5008
 log:e.log.length=e.ps.length
theorem DB:sJ (gE []) []:=⟨rfl,rfl,fun p hp=>(by cases hp),rfl⟩
theorem LV{b:Txt}(hd:e.down=false)(h64:kW o)(hw:sJ e b){b' :Txt}{R:jW}(he:doE e ⟨n,b,sy,0,false⟩ o=(e',⟨n,b',sy',0,false⟩,R)):
  sJ e' b'∧(e'.ps=e.ps∨dH o=true∧e'.ps=e.ps++ [cK e.ch o])∧(sy=b.length→sy' =b'.length):=by
 have stay:e' =e→b' =b→sy' =sy→sJ e' b'∧(e'.ps=e.ps∨dH o=true∧e'.ps=e.ps++ [cK e.ch o])∧(sy=b.length→sy' =b'.length):=fun h1 h2 h3=>by subst h1 h2 h3;exact⟨hw,.inl rfl,fun h=>h⟩
 have hl:(frame (cK e.ch o)).length=16+(gO o).length:=by grind [cJ,cK,fS]
 by_cases hg:(aI e.s o).2.2.2=0
 case neg=>
  rw[LU _ hd hg]at he;injection he with h1 h2
  injection h2 with h2 _
  injection h2 with _ h3 h4
  exact stay h1.symm h3.symm h4.symm
 by_cases hr:b.length+16+(gO o).length≤n
 ·rw[Cm (d:=⟨n,b,sy,0,false⟩) hd hg rfl rfl ad4]at he
  injection he with h1 h2
  injection h2 with h2 _
  injection h2 with _ h3 h4
  subst h1 h3 h4;have hrl:=mL (h:=e.ch) (jz (dP hg));refine⟨⟨L1 hw.ok hg h64,?_,?_,?_⟩,.inr ⟨dP hg,rfl⟩,fun _=>rfl⟩
  ·show b++frame _=frames (e.ps++ [_])
   rw[jM,hw.b]
  ·intro p hp
   rcases List.mem_append.1 hp with hp|hp
   ·exact hw.len p hp
   grind
  ·simp[mz,hw.log]
 ·rw[HK (d:=⟨n,b,sy,0,false⟩) hd hg rfl ad4]at he
  injection he with h1 h2
  injection h2 with h2 _
  injection h2 with _ h3 h4
  exact stay h1.symm h3.symm h4.symm
theorem EJ(hf:OpF o)(ht:o.text.length≤T):(gO o).length≤T+400:=by unfold gO;simp only[adX];have h1:=iV o.kind;have h2:=dD o.subj;have h3:=dD o.case;have h4:=dD o.field;have h5:=dD o.to;have h6:=xW hf.val;have h7:=iV o.review;have h8:=dD o.text;have h9:=dD o.reason;have h10:=xW (v:=dR o.glass) (.inr (z8 _));have:=hf.subj;have:=hf.case;have:=hf.field;have:=hf.to;have:=hf.reason;omega
end Go.Bf
namespace Go.Proofs.YtokahfmoollblaaGreatDoor
open Go Go.Ab Go.Bf Tryz
theorem mC.doW{h0 h:Heap}{x jid did n k:Nat}{e:cI}{b:Txt}{sy:Nat}{spl spj:List Nat}(w:mC h0 h x jid did e ⟨n,b,sy,0,false⟩ spl spj)(hW:sJ e b)(o:OpD)(hdn:e.down=false)(hps:e.ps.length≤999999)(hG:fM k e.s)(hk:k≤1000)(h64:kW o)(her:kP h0):
  ai prog 22 [.ptr x 0,opA o] h fun r h' =>∃e' b' sy' RR spl' spj',doE e ⟨n,b,sy,0,false⟩ o=(e',⟨n,b',sy',0,false⟩,RR)∧r= .agg (kH RR)∧mC h0 h' x jid did e' ⟨n,b',sy',0,false⟩ spl' spj'∧sJ e' b'∧fM (k+1) e'.s∧e'.down=false∧(e'.ps=e.ps∨dH o=true∧e'.ps=e.ps++ [cK e.ch o])∧(sy=b.length→sy' =b'.length)∧
   (((aI e.s o).2.2.2≠0∧RR=(aI e.s o).2.1∧e' =e)∨((aI e.s o).2.2.2=0∧n<b.length+16+(gO o).length∧RR=xq 8∧e' =e)∨((aI e.s o).2.2.2=0∧b.length+16+(gO o).length≤n∧RR=(aI e.s o).2.1∧e' =nv e o))∧
   Touch (x::did::jid::(spl++spj)) h h'∧(∀i∈x::did::jid::(spl' ++spj'),i∈x::did::jid::(spl++spj)∨h i=none):=by
 obtain⟨e',b',sy',RR,ed,hok,hdn',hps',hlg',hG',hways⟩:=OO o hdn hG w.ok;obtain⟨hW',hp',hy'⟩:=LV hdn h64 hW ed;have hlg:=hW.log;refine(w.doS o ad3 ad3 hG hk h64 her ad4).mono fun r h' ⟨er,spl',spj',w',hT,hin⟩=>?_
 grind
end Go.Proofs.YtokahfmoollblaaGreatDoor
namespace Go.Bf
open Go Go.Ab Go.Proofs.YtokahfmoollblaaGreatDoor
variable {o:OpD}{e:cI}
theorem JN(s:an)(o:OpD):(aI s o).2.1.err≠8∧(aI s o).2.1.err≠9:=by grind [kE,wP,bQ,bX,fy,aI,oD]
theorem Ew(h:dH (vG o)=true):(vG o).text.length≤1000:=by
 have:=(jz h).text;unfold vG at this⊢;simp only at this⊢;split
 ·rw[List.length_take];omega
 ·rename_i hn;rw[if_neg hn]at this;omega
theorem tE{b:Txt}(hW:sJ e b):scan b=(e.ps,b.length):=by
 have:=BO e.ps [] (fun p hp=>by have:=hW.len p hp;omega) ad6
 rw[List.append_nil,←hW.b]at this;exact aeE
theorem Ad{n sy:Nat}{b:Txt}(hW:sJ e b)(hok:D.ok ⟨n,b,sy,0,false⟩):D.bW ⟨n,b,sy,0,false⟩=(⟨n,b,b.length,0,false⟩,0):=by rw[D.GI hok rfl rfl];simp only[tE hW,List.take_length]
theorem FP{n k t:Nat}{b p:Txt}(hW:sJ e b)(hp:9≤p.length∧p.length≤5008)(ht:t≤4)(hn:b.length+(frame p).length≤n∧n≤1048576):
  ∃G B,(G=e.ps∨G=e.ps++ [p])∧B=frames G∧D.ok (D.boot ⟨n,b++frame p,b.length,0,true⟩ k t)∧(D.boot ⟨n,b++frame p,b.length,0,true⟩ k t).bW=(⟨n,B,B.length,0,false⟩,0)∧(scan (D.boot ⟨n,b++frame p,b.length,0,true⟩ k t).b).1=G:=by
 obtain⟨G,hG,hs,htk⟩:=I5 n e.ps p (fun q hq=>by have:=hW.len q hq;omega) ad3 ad3 k t ht
 rw[←hW.b]at hs htk;have hok:D.ok (D.boot ⟨n,b++frame p,b.length,0,true⟩ k t):=D.xD ⟨ad4,hn.2,aea,aea⟩ k t;refine⟨G,frames G,hG,rfl,hok,?_,by rw[hs]⟩
 rw[D.GI hok rfl rfl,hs,htk];rfl
theorem GD{b:Txt}(hW:sJ e b)(hg:(aI e.s o).2.2.2=0)(h64:kW o):sJ (nv e o) (frames (nv e o).ps):=by
 have hrl:=mL (h:=e.ch) (jz (dP hg));refine⟨L1 hW.ok hg h64,rfl,fun p hp=>?_,by simp[nv,mz,hW.log]⟩
 rcases List.mem_append.1 hp with hp|hp
 ·exact hW.len p hp
 grind
end Go.Bf
namespace Go.Proofs.YtokahfmoollblaaGreatDoor
open Go Go.Ab Go.Bf Tryz
variable {k n:Nat}{s:an}{P:Program}{a d c:Code}{K:Exit→Env→Heap→Prop}{ρ:Env}{h:Heap}
theorem MX(l:List cE):eqL oP l l=true:=cU rfl fun j _ _=>by simp[oP]
theorem J5(l:List pn)(h9:∀d∈l,M9 d.mark)(hl:l.length≤1000000)(q1 q2:Perm)(h:Heap):ai prog 28 [.sl (l.map ldA) q1,.sl (l.map ldA) q2] h fun r h' =>r= .b true∧h' =h:=by
 refine ad2 func28 81 [.tmp 4] fun hwf=>?_
 simp only[go_sem,adT,bne_self_eq_false];refine .intro (fun m ρ H=>∃(i:Nat),H=h∧i≤l.length∧m=l.length - i∧lk ρ 0=some (.sl (l.map ldA) q1)∧lk ρ 1=some (.sl (l.map ldA) q2)∧lk ρ 12=some (.i l.length)∧lk ρ 13=some (.i i)) l.length ?_ ?_
 ·refine⟨0,rfl,ad3,rfl,?_,?_,?_,?_⟩<;>simp only[go_sem]
  all_goals rfl
 rintro m ρ H ⟨i,rfl,hi,rfl,r0,r1,r12,r13⟩
 by_cases hlt:i<l.length
 ·have t1:decide ((i:Int)<(l.length:Int))=true:=decide_eq_true ad3
  have w1:IntKind.i64.wrap ((i:Int)+1)=((i+1:Nat):Int):=aeg;have m9:=h9 _ (adY hlt);obtain⟨d,ed⟩:∃d,l[i]=d:=⟨_,rfl⟩;rw[ed]at m9;have ix:=fun(K:AV→Prop)=>fC.eq (xs:=l.map ldA) (sz:=16) i ad4 aec K
  rw[adU,ed]at ix;simp only[ldA,tP,opC,aR,ay,List.cons_append,List.nil_append]at ix;have qn:∀K,gy .neq (.complex .f64 (hbit d.mark.1) (hbit d.mark.2)) (.complex .f64 (hbit d.mark.1) (hbit d.mark.2)) K=K (.b false):=fun K=>by simp_all [Bu,beq_self_eq_true]
  simp only[go_sem,r12,r13,t1,Bool.and_self,Bool.not_true];refine .quiet ad7 ?_;simp only[go_sem,r0,r1,ix,bne_self_eq_false,beq_self_eq_true,Bool.and_self,Bool.not_true,and_self,reduceIte,qn];refine⟨_,show ai prog _ [ay d.obls,ay d.obls] _ _ from tu _ _ _,?_⟩
  rw[MX];simp only[go_sem,r13,w1];refine⟨_,?_,i+1,rfl,ad3,rfl,?_,?_,?_,?_⟩
  ·omega
  all_goals simp only[go_sem,r0,r1,r12]
 ·have t1:decide ((i:Int)<(l.length:Int))=false:=decide_eq_false ad3
  simp only[go_sem,r12,r13,t1];exact aeO
theorem RU(hG:fM k s)(o:OpD):(aI s o).2.2.1.obls.length≤10000000∧M9 (aI s o).2.2.1.mark:=by
 refine⟨?_,(yO hG.tojV o).2⟩;unfold aI;split
 ·exact af5
 ·split
  ·exact af5
  ·exact DK _ hG.mJ
theorem DP:∀(l:List Txt) {e e' :cI} {k:Nat},lP e l=some e'→fM k e.s→(∀d∈e.log,d.obls.length≤10000000∧M9 d.mark)→(∀d∈e'.log,d.obls.length≤10000000∧M9 d.mark)
 | [],e,e',k,h,_,hl=>by cases h;omega
 |p::l,e,e',k,h,hG,hl=>by
  simp only[lP]at h;cases hs:kJ e p with
  |none=>grind
  |some e1=>
   rw[hs]at h;refine DP l h (S6 hs hG) fun d hd=>?_
   unfold kJ at hs;cases hr:jc e p with
   |none=>grind
   |some o=>
    rw[hr]at hs;simp only at hs;split at hs
    ·cases hs
     rcases List.mem_append.1 hd with hd|hd
     ·grind
     grind [List.mem_singleton,RU]
    grind
theorem Gu{e:cI}(he:C0 e):∀d∈e.log,d.obls.length≤10000000∧M9 d.mark:=
 DP e.ps (e' :={e with down:=false}) he pP (fun d hd=>by cases hd)
theorem ym{f:Nat}{b:Txt}{off:Bool}(K T:Int):D.boot ⟨n,b,b.length,f,off⟩ K T=⟨n,b,b.length,0,false⟩:=by simp[D.boot,D.left,D.bad,bO]
theorem zT(y:cI){B:Txt}(hW:sJ y B)(hdn:y.down=false)(hps:y.ps.length≤900)(d:D)(hdo:d.ok)(hop:d.bW=(⟨n,B,B.length,0,false⟩,0))(hsc:(scan d.b).1=y.ps)(did:Nat)(g H:Heap)(hdk:bA H did d)(hs:Ab.Sub g H)(hn:g did=none)(her:kP g):
  ai prog 15 [.ptr did 0] H fun r H' =>∃x jid spl spj,r= .tup [.ptr x 0,.i 0]∧mC g H' x jid did y ⟨n,B,B.length,0,false⟩ spl spj∧Keep did H H'∧(∀i∈x::jid::(spl++spj),H i=none):=
 (E9 d hdo did H hdk (her.sub hs) ad4).mono fun r H' ⟨h1,h2,h3⟩=>by
  have hok:=D.M1 hdo;rw[hop]at h1 h3 hok;unfold u7 at h3;have hy:vO y.ps=some y:=by have:=hW.ok;rw[this];obtain⟨_,_,_,_,_⟩:=y;cases hdn;rfl
  rw[hsc,hy]at h3;obtain⟨x,jid,spl,spj,a,b,c⟩:=h3;exact⟨x,jid,spl,spj,a,⟨b,h1,hok,uL hs h2 hn,fun i hi=>by
   simp only[List.mem_cons]at hi c;rcases hi with rfl|rfl|hi
   ·exact hs.none (c _ (.inl rfl))
   ·omega
   ·exact hs.none (c _ (.inr hi))⟩,h2,c⟩
theorem aW.assoc{U:TypeId→TI}{b:Code}(hc:aW P U n ((a.seq b).seq d) ρ h K):aW P U n (a.seq (b.seq d)) ρ h K:=by
 have e:tH P U n (b.seq d) K=tH P U n b (tH P U n d K):=by
  funext e ρ' h'
  cases e<;>rfl
 show aW P U n a ρ h (tH P U n (b.seq d) K)
 rw[e];exact hc
theorem aW.join{U:TypeId→TI}(I:Env→Heap→Prop)(hd:∀ρ' H',I ρ' H'→aW P U n d ρ' H' K)(ha:∀K' :Exit→Env→Heap→Prop,(∀ρ' H',I ρ' H'→K' .normal ρ' H')→aW P U n a ρ h K'):aW P U n (a.seq d) ρ h K:=ha _ hd
theorem oJ.join{U:TypeId→TI}(ex:Exit)(I:Env→Heap→Prop)(hK:∀ρ' H',I ρ' H'→K ex ρ' H')(hc:∀K' :Exit→Env→Heap→Prop,(∀ρ' H',I ρ' H'→K' ex ρ' H')→oJ P U n c ρ h K'):oJ P U n c ρ h K:=hc K hK
theorem bA.ne{id i:Nat}{d:D}{cs:List AV}{t:TypeId}(hd:bA h id d)(hi:h i=some (.obj cs t))(ht:t≠121):i≠id:=fun e=>by
 obtain⟨z,hz,_⟩:=hd
 grind
theorem Gc{o:OpD}(h:(aI s o).2.2.2≠0):(aI s o).1=s:=by
 unfold aI at h⊢
 grind
theorem Hg(q:Nat)(hq:q≤1048576)(did:Nat)(h0 h:Heap)(hdk:bA h did ⟨q,[],0,0,false⟩)(hs:Ab.Sub h0 h)(hn:h0 did=none)(her:kP h0):
  ai prog 15 [.ptr did 0] h fun r h' =>∃x jid spl spj,r= .tup [.ptr x 0,.i 0]∧mC h0 h' x jid did (gE []) ⟨q,[],0,0,false⟩ spl spj∧Keep did h h'∧(∀i∈x::jid::(spl++spj),h i=none):=
 zT (gE []) DB rfl ad6 ⟨q,[],0,0,false⟩ ⟨Nat.zero_le _,hq,Nat.zero_le _,(by decide:(0:Nat)<9223372036854775808)⟩ aei (by rw[uJ];rfl) did h0 h hdk hs hn her
theorem yC(x y z u v:AV)(dx:Dat U 67 x)(dy:Dat U 46 y)(dz:Dat U 3 z)(du:Dat U 3 u)(dv:Dat U 3 v)(h:Heap)(he:kP h):ai prog 4 [x,y,z,u,v] h fun r h' =>r= .b true∧h' =h:=
 ai.freeze fun g hgs _=>by
 replace he:=he.sub hgs;obtain⟨l0,rfl,hl0,h640⟩:=OM dx;obtain⟨o0,rfl,o64⟩:=LP dy;obtain⟨fu,rfl,f64⟩:=dz.i64 aed;obtain⟨ke,rfl,k64⟩:=du.i64 aed;obtain⟨to,rfl,t64⟩:=dv.i64 aed;have hfin:∀G,Ab.Sub g G→ai prog 29 [] G fun r h' =>r= .b true∧h' =G:=fun G hG=>Aq G (he.sub hG)
 have hop:=fun(G:Heap)=>SO l0 15 ad6 G
 have h64:∀o∈sv l0 15,kW o:=VY h640;have htx:∀o∈sv l0 15,dH o=true→(gO o).length≤1400:=fun o ho hf=>by obtain⟨o1,_,rfl⟩:=List.mem_map.1 ho;exact EJ (jz hf) (Ew hf)
 have hll:(sv l0 15).length≤15:=by simp[sv];omega
 obtain⟨l,el⟩:∃l,sv l0 15=l:=⟨_,rfl⟩;rw[el]at hop h64 hll htx;have hok:=M3 o0;have hto:dH (vG o0)=true→(gO (vG o0)).length≤1400:=fun hf=>EJ (jz hf) (Ew hf)
 replace o64:=SN o64;obtain⟨o,eo⟩:∃o,vG o0=o:=⟨_,rfl⟩;simp only[eo]at hok hto;rw[eo]at o64;simp only[opA,opC]at hok;refine ad2 func4 237 [.tmp 10] fun hwf=>?_
 simp only[go_sem,opA,opC];intro i6 h6;simp only[go_sem];refine(Dv 60000 ad6 _).mono fun r h1 ⟨did,hn,er,hdk,s1⟩=>?_
 subst er;have hs6:∀b,Ab.Sub g (upd g i6 b):=fun b=>(Sub.refl g).new h6 b
 have hdg:g did=none:=(hs6 _).none hn;simp only[go_sem];refine(Hg 60000 ad6 did g h1 hdk ((hs6 _).trans s1) hdg he).mono fun r h2 ⟨x,jid,spl,spj,er,w,hk2,hnn⟩=>?_
 subst er;have g6:h1 i6=some (.obj (opC o0) 46):=s1 _ _ (ah ..);have n6d:i6≠did:=fun e=>by rw[←e]at hn;rw[ah]at hn;cases hn
 have f6:h2 i6=some (.obj (opC o0) 46):=hk2 _ _ n6d g6;have n6:i6∉x::did::jid::(spl++spj):=fun hi=>by
  simp only[List.mem_cons]at hi hnn;rcases hi with hi|hi|hi
  ·rw[hnn _ (.inl hi)]at g6;cases g6
  ·exact n6d hi
  ·rw[hnn _ (.inr hi)]at g6;cases g6
 clear g6 hnn hk2;simp only[go_sem];refine(MP h2 (he.sub w.sub)).pthen ?_;rw[show bN td= .agg (cD td)from rfl,newL]
 simp only[go_sem];intro i15 h15;have n15:=w.fresh h15;have g15:g i15=none:=w.sub.none h15;have q65:i6≠i15:=fun e=>by rw[←e,f6]at h15;cases h15
 unfold opC at f6;simp only[go_sem,aj,q65,f6];refine(hok _).pthen ?_;simp only[go_sem,aj,q65,f6];refine inH fun H1 w1=>?_
 have j15:H1 i15=some (.obj (cD td) 40):=by rw[w1];grind [upd,newL]
 have j6:H1 i6=some (.obj (opC o) 46):=by rw[w1];exact ah ..
 have v1:mC g H1 x jid did (gE []) ⟨60000,[],0,0,false⟩ spl spj:=by rw[w1];exact(w.up ((Sub.refl h2).new h15 _)).upd _ (by rw[ag _ _ q65];exact f6) n6 h6 ad6 ad6
 clear w1;refine(hop _).pthen ?_;simp only[go_sem,adT];refine oJ.join (.exit 0) (fun ρ H=>∃(i:Nat) (e:cI) (b:Txt) (spl spj:List Nat),mC g H x jid did e ⟨60000,b,b.length,0,false⟩ spl spj∧sJ e b∧fM i e.s∧e.down=false∧b.length≤i*1416∧e.ps.length≤i∧H i15=some (.obj (cD e.s) 40)∧H i6=some (.obj (opC o) 46)∧i15∉x::did::jid::(spl++spj)∧i6∉x::did::jid::(spl++spj)∧i≤15∧lk ρ 2=some (.i fu)∧lk ρ 3=some (.i ke)∧lk ρ 4=some (.i to)∧lk ρ 6=some (.ptr i6 0)∧lk ρ 11=some (.ptr did 0)∧lk ρ 13=some (.ptr x 0)∧lk ρ 15=some (.ptr i15 0)∧lk ρ 16=some (.i e.ps.length)) ?_ fun K1 hK1=>?_
 ·rintro ρ H ⟨i,e,b,spl,spj,w,hW,hG,hdn,hbl,hps,f15,f6,n15,n6,hi,r2,r3,r4,r6,r11,r13,r15,r16⟩
  obtain⟨a1,a2,a3,a4,a5,a6,a7,es⟩:=bE e.s;have hgd:=jA e.s hG ad3 o o64;have m9:=(yO hG.tojV o).1;have hfr:(aI e.s o).2.2.2=0→(gO o).length≤1400:=fun h0=>hto (dP h0)
  obtain⟨⟨S,R,Dc,E⟩,eg⟩:∃t,aI e.s o=t:=⟨_,rfl⟩;obtain⟨b1,b2,b3,b4,b5,b6,b7,es2⟩:=bE S;rw[eg]at hgd m9 hfr;rw[jB,show bN e.s= .agg (cD e.s)from rfl,es,show bN S= .agg (cD S)from rfl,es2]at hgd
  simp only[opA,opC]at hgd m9 hfr;have hb0:=Nat.mul_le_mul_right 1416 hi;have hwl:=tF fu 1;obtain⟨k,ek⟩:∃k,lK fu 1=k:=⟨_,rfl⟩;rw[ek]at hwl
  show aW prog U _ (Code.seq _ _) _ _ _
  refine aW.assoc (aW.assoc (aW.assoc (aW.assoc ?_)));refine aW.join (fun ρ H' =>∃i21 d1,bA H' did d1∧d1.ok∧Ab.Sub g H'∧(∀K T:Nat,T≤4→∃y B,sJ y B∧y.down=false∧(d1.boot K T).bW=(⟨60000,B,B.length,0,false⟩,0)∧(scan (d1.boot K T).b).1=y.ps∧(y=e∨E=0∧y=nv e o))∧H' i15=some (.obj (cD e.s) 40)∧H' i6=some (.obj (opC o) 46)∧H' i21=some (.obj (cD S) 40)∧lk ρ 3=some (.i ke)∧lk ρ 4=some (.i to)∧lk ρ 6=some (.ptr i6 0)∧lk ρ 11=some (.ptr did 0)∧lk ρ 15=some (.ptr i15 0)∧lk ρ 16=some (.i e.ps.length)∧lk ρ 21=some (.ptr i21 0)∧lk ρ 24=some (.i E)) ?_ fun K2 hK2=>?_
  ·rintro ρ H ⟨i21,d1,hd1,hok1,hsH,hboot,f15,f6,f21,r3,r4,r6,r11,r15,r16,r21,r24⟩
   have hwK:=tF ke 9000;have hwT:=tF to 4;obtain⟨y,B,hWy,hdy,hop1,hsc1,hye⟩:=hboot (lK ke 9000) (lK to 4) hwT;obtain⟨K,eK⟩:∃K,lK ke 9000=K:=⟨_,rfl⟩;obtain⟨T,eT⟩:∃T,lK to 4=T:=⟨_,rfl⟩;rw[eK,eT]at hop1 hsc1;have hyp:y.ps.length≤16∧(∃k≤16,fM k y.s)∧B.length≤16*1416:=by
    rw[hWy.b];rcases hye with rfl|⟨h0,rfl⟩
    ·exact⟨ad3,⟨i,ad3,hG⟩,by rw[←hW.b];omega⟩
    ·refine⟨by simp[nv];omega,⟨i+1,ad3,nQ o hG⟩,?_⟩
     show(frames (e.ps++ [cK e.ch o])).length≤_
     rw[jM,adX,cJ,←hW.b];have:=hfr h0;simp[cK,fS];omega
   obtain⟨hyp,⟨k2,hk2,hGy⟩,hBl⟩:=hyp
   show aW prog U _ (Code.seq _ _) _ _ _
   refine aW.assoc (aW.assoc (aW.assoc (aW.assoc (aW.assoc ?_))));refine aW.join (fun ρ H' =>∃x2 jid2 spl2 spj2 i28,mC g H' x2 jid2 did y ⟨60000,B,B.length,0,false⟩ spl2 spj2∧H' i28=some (.obj (cD y.s) 40)∧H' i6=some (.obj (opC o) 46)∧i28∉x2::did::jid2::(spl2++spj2)∧i6∉x2::did::jid2::(spl2++spj2)∧lk ρ 6=some (.ptr i6 0)∧lk ρ 11=some (.ptr did 0)∧lk ρ 26=some (.ptr x2 0)∧lk ρ 28=some (.ptr i28 0)) ?_ fun K3 hK3=>?_
   ·rintro ρ H ⟨x2,jid2,spl2,spj2,i28,v2,f28,f6,n28,n6,r6,r11,r26,r28⟩
    simp only[go_sem,r11];refine(zT y hWy hdy ad3 ⟨60000,B,B.length,0,false⟩ v2.ok (Ad hWy v2.ok) (by rw[tE hWy]) did g H v2.disk v2.sub hdg he).mono fun r H1 ⟨x3,jid3,spl3,spj3,er,v3,hk3,hnn⟩=>?_
    subst er;have w2:=v2.did v3.disk hk3 v3.ok;have ned:∀ {j:Nat},j∉x2::did::jid2::(spl2++spj2)→j≠did:=fun hj e=>hj ah7
    have out:∀ {j:Nat} {b:Blk},j≠did→H j=some b→j∉x3::did::jid3::(spl3++spj3):=fun hj hb hi=>by exact ai9
    have n28' :=out (ned n28) f28;have n6' :=out (ned n6) f6;replace f28:=hk3 _ _ (ned n28) f28;replace f6:=hk3 _ _ (ned n6) f6;obtain⟨c1,c2,c3,c4,c5,c6,c7,esy⟩:=bE y.s;have hal:=Ln y.s _ esy;rw[esy]at f28;have hgd:=jA y.s hGy ad3 o o64;have m9:=(yO hGy.tojV o).1;have hfry:(aI y.s o).2.2.2=0→(gO o).length≤1400:=fun h0=>hto (dP h0)
    have hly:=hWy.log;have hlk:=Gu hWy.ok;simp only[go_sem];refine .quiet ad7 ?_;simp only[go_sem,r26,r28,f28];refine⟨_,Ba x3 jid3 did y spl3 spj3 H1 v3.eng,?_⟩;simp only[go_sem,r28,f28];refine⟨_,hal H1,?_⟩;simp only[go_sem,r26];refine⟨_,yp x3 jid3 did y spl3 spj3 H1 v3.eng,?_⟩;simp only[go_sem,r26];refine⟨_,yp x2 jid2 did y spl2 spj2 H1 w2.eng,?_⟩;simp only[go_sem,bne_self_eq_false,r26];refine⟨_,xE x3 jid3 did y spl3 spj3 H1 v3.eng ad3 (fun d hd=>(hlk d hd).1),?_⟩
    simp only[go_sem,r26];refine⟨_,xE x2 jid2 did y spl2 spj2 H1 w2.eng ad3 (fun d hd=>(hlk d hd).1),?_⟩
    simp only[go_sem];refine⟨_,J5 y.log (fun d hd=>(hlk d hd).2) ad3 .no .no H1,?_⟩
    unfold opC at f6;obtain⟨⟨S2,R2,D2,E2⟩,eg2⟩:∃t,aI y.s o=t:=⟨_,rfl⟩;obtain⟨d1,d2,d3,d4,d5,d6,d7,es3⟩:=bE S2;rw[eg2,jB,show bN y.s= .agg (cD y.s)from rfl,esy,show bN S2= .agg (cD S2)from rfl,es3]at hgd
    rw[eg2]at m9 hfry;simp only[opA,opC]at hgd m9 hfry;simp only[go_sem,r28,f28,r6,f6];refine(hgd H1 (he.sub v3.sub)).pthen ?_;simp only[go_sem];intro i33 h33;simp only[go_sem];intro i34 h34;simp only[go_sem];intro i35 h35;have n43:=aF h34;have n54:=aF h35;have n53:=aF (aB h35);simp only[go_sem,aj,n43,n43.symm,n53,n53.symm,n54,n54.symm];refine Dw fun H2 w2' =>?_
    have s2:Ab.Sub H1 H2:=by rw[w2'];grind [upd,Ab.Sub]
    have f34:H2 i34=some (.obj [.i R2.err,.v (.complex .f64 (hbit R2.mark.1) (hbit R2.mark.2)),.b R2.glass,.i R2.val.kind,.i R2.val.n,.s R2.val.s,.b R2.hidden,.i R2.at_] 53):=by rw[w2'];grind [upd]
    have m34:=v3.fresh (aB h34);clear w2';replace f6:=s2 _ _ f6;have n634:i6≠i34:=fun e=>by
     rw[e,f34]at f6;injection f6 with f6
     injection f6 with _ f6
     cases f6
    refine .calls (hm2 i6 (.obj [.i o.kind,.s o.subj,.s o.case,.s o.field,.s o.to,.i o.val.kind,.i o.val.n,.s o.val.s,.i o.review,.s o.text,.s o.reason,.b o.glass] 46) i34 (.obj [.i R2.err,.v (.complex .f64 (hbit R2.mark.1) (hbit R2.mark.2)),.b R2.glass,.i R2.val.kind,.i R2.val.n,.s R2.val.s,.b R2.hidden,.i R2.at_] 53)) [0,1,3,2,4,5,6,7,8] (.hm2 f6 f34) ad7 rfl ?_;simp only[go_sem,r6,pR _ _ n634,pS];refine(show ai prog _ [.ptr x3 0,opA o] _ _ from((v3.up s2).doW hWy o hdy ad3 hGy ad3 o64 he).mono fun r H3 ⟨e4,b4,sy4,R4,spl4,spj4,_,er,v4,_,_,_,_,_,hways,hT4,_⟩=>?_)
    subst er;rw[eg2]at hways;simp only at hways;have hR:R4=R2:=by
     rcases hways with⟨_,h2,_⟩|⟨h1,h2,_,_⟩|⟨_,_,h2,_⟩
     ·exact ahR
     ·have:=hfry h1;omega
     ·exact ahR
    subst hR;have qm:=DC m9;have k6:=hT4 _ _ n6' f6;have k34:=hT4 _ _ m34 f34;rw[CO];refine⟨.hm2 k6 k34,?_⟩;simp only[go_sem,qm,beq_self_eq_true];refine(hfin H3 v4.sub).mono fun r H4 ⟨er,eh⟩=>?_
    subst er eh;refine⟨.hm2 k6 k34,?_⟩;simp only[go_sem];exact .same (.refl _) ⟨v4.sub,_,.pure rfl,rfl⟩
   simp only[go_sem,r3,r4,r11];refine(vV ke 9000 _ k64 ad6).pthen ?_;rw[eK];simp only[go_sem,r4];refine(vV to 4 _ t64 ad6).pthen ?_;rw[eT];simp only[go_sem,r11];refine(xD d1 hok1 did H K T hd1).mono fun r H1 ⟨hdb,hkb⟩=>?_
   have n6d:i6≠did:=hd1.ne f6 ad6;have n15d:i15≠did:=hd1.ne f15 ad6;have n21d:i21≠did:=hd1.ne f21 ad6;have j6:=hkb _ _ n6d f6;simp only[go_sem,r11];refine(zT y hWy hdy ad3 (d1.boot K T) (D.xD hok1 _ _) hop1 hsc1 did g H1 hdb (uL hsH hkb hdg) hdg he).mono fun r H2 ⟨x2,jid2,spl2,spj2,er,v2,hk3,hnn⟩=>?_
   subst er;have out:∀ {j:Nat} {b:Blk},j≠did→H1 j=some b→j∉x2::did::jid2::(spl2++spj2):=fun hj hb hi=>by exact ai9
   have y6:=hk3 _ _ n6d j6;have y15:=hk3 _ _ n15d (hkb _ _ n15d f15);have y21:=hk3 _ _ n21d (hkb _ _ n21d f21);have n6' :=out n6d j6;simp only[go_sem];refine(Ba x2 jid2 did y spl2 spj2 H2 v2.eng).pthen ?_;obtain⟨c1,c2,c3,c4,c5,c6,c7,esy⟩:=bE y.s;have hal1:=yf y.s e.s;have hal2:=yf y.s S;rw[show bN y.s= .agg (cD y.s)from rfl,esy]
   rw[show bN y.s= .agg (cD y.s)from rfl,esy,show bN e.s= .agg (cD e.s)from rfl,es]at hal1
   rw[show bN y.s= .agg (cD y.s)from rfl,esy,show bN S= .agg (cD S)from rfl,es2]at hal2
   simp only[go_sem];intro i28 h28;have x28:∀ {i:Nat} {b:Blk},H2 i=some b→i≠i28:=fun hh e=>by rw[←e,hh]at h28;cases h28
   have n28:=v2.fresh h28;rw[es]at y15;rw[es2]at y21;simp only[go_sem,r15,aj,x28 y15,y15];generalize hH:upd H2 i28 _=H3;have s3:Ab.Sub H2 H3:=by rw[←hH];exact(Sub.refl H2).new h28 _
   have f28:H3 i28=some (.obj [.i y.s.tick,fO y.s.cases,jR y.s.reviews,ku y.s.notices,dW y.s.roles,c1,c2,c3,c4,c5,c6,c7,.i y.s.version] 40):=ahy;clear hH;have v3:=v2.up s3;have z21:=s3 _ _ y21;have hfinal:∀ρ',lk ρ' 6=some (.ptr i6 0)→lk ρ' 11=some (.ptr did 0)→lk ρ' 26=some (.ptr x2 0)→lk ρ' 28=some (.ptr i28 0)→K3 .normal ρ' H3:=fun ρ' a b c d=>hK3 _ _ ⟨x2,jid2,spl2,spj2,i28,v3,by rw[esy];exact f28,s3 _ _ y6,n28,n6',a,b,c,d⟩
   refine(hal1 H3).pthen ?_;have hly:=hWy.log;have hlg:ai prog 24 [.ptr x2 0] H3 fun r h' =>r= .sl (y.log.map ldA) .no∧h' =H3:=xE x2 jid2 did y spl2 spj2 H3 v3.eng ad3 fun d hd=>(Gu hWy.ok d hd).1
   have w5:IntKind.i64.wrap ((e.ps.length:Int)+1)=((e.ps.length+1:Nat):Int):=aez;rcases hye with rfl|⟨h0,rfl⟩
   ·rw[sM]
    have p2:((y.ps.length:Int)==((y.ps.length+1:Nat):Int))=false:=beq_eq_false_iff_ne.mpr ad3;simp only[go_sem];refine hlg.pthen ?_;cases t3:(E==0)
    ·simp only[go_sem,adT,hly,r16,r24,t3,beq_self_eq_true]
     exact hfinal _ ae9 ae8 aeu aeu
    ·simp only[go_sem,adT,hly,r16,r24,t3,beq_self_eq_true,r21,z21,f28]
     refine(hal2 H3).pthen ?_;cases qM y.s S
     ·simp only[go_sem]
      exact hfinal _ ae9 ae8 aeu aeu
     ·simp only[go_sem]
      refine hlg.pthen ?_;simp only[go_sem,adT,hly,r16,w5,p2];exact hfinal _ ae9 ae8 aeu aeu
   ·have hpy:(nv e o).ps.length=e.ps.length+1:=by simp[nv]
    have hsy:(nv e o).s=S:=by show(aI e.s o).1=S;rw[eg]
    have t3:(E==0)=true:=by simp[h0]
    have p1:(((e.ps.length+1:Nat):Int)==(e.ps.length:Int))=false:=beq_eq_false_iff_ne.mpr ad3;rw[hpy]at hly;have hall:qM (nv e o).s S=true:=by rw[hsy,sM]
    rw[hall]at hal2;cases qM (nv e o).s e.s
    ·simp only[go_sem,r24,t3,f28,r21,z21]
     refine(hal2 H3).pthen ?_;simp only[go_sem];refine hlg.pthen ?_;simp only[go_sem,adT,hly,r16,w5,beq_self_eq_true];exact hfinal _ ae9 ae8 aeu aeu
    ·simp only[go_sem]
     refine hlg.pthen ?_;simp only[go_sem,adT,hly,r16,p1,r24,t3,f28,r21,z21];refine(hal2 H3).pthen ?_;simp only[go_sem];refine hlg.pthen ?_;simp only[go_sem,adT,hly,r16,w5,beq_self_eq_true];exact hfinal _ ae9 ae8 aeu aeu
  rw[es]at f15;unfold opC at f6;simp only[go_sem,r15,f15,r6,f6];refine(hgd _ (he.sub w.sub)).pthen ?_;simp only[go_sem];intro i21 h21;simp only[go_sem];intro i22 h22;simp only[go_sem];intro i23 h23;have n21:=aF h22;have n32:=aF h23;have n31:=aF (aB h23);simp only[go_sem,aj,n21,n21.symm,n31,n31.symm,n32,n32.symm,r2,r11];refine inH fun H2 w2=>?_
  have s2:Ab.Sub H H2:=by rw[w2];grind [upd,Ab.Sub]
  have f21:H2 i21=some (.obj (cD S) 40):=by rw[w2,es2];grind [upd]
  have f22:H2 i22=some (.obj [.i R.err,.v (.complex .f64 (hbit R.mark.1) (hbit R.mark.2)),.b R.glass,.i R.val.kind,.i R.val.n,.s R.val.s,.b R.hidden,.i R.at_] 53):=by rw[w2];grind [upd]
  have m21:=w.fresh h21;have m22:=w.fresh (aB h22);clear w2;refine(vV fu 1 _ f64 ad6).pthen ?_;rw[ek];have w1:IntKind.i64.wrap (1+(k:Int))=((1+k:Nat):Int):=aez;have v2:=w.up s2;simp only[go_sem,w1,r11];refine(Oy _ (1+k) did H2 v2.disk).mono fun r H3 ⟨hd3,hk3⟩=>?_
  have v3:=v2.did hd3 hk3 ⟨v2.ok.1,v2.ok.2.1,v2.ok.2.2.1,by show 1+k<9223372036854775808;omega⟩
  have ned:∀ {j:Nat},j∉x::did::jid::(spl++spj)→j≠did:=fun hj e=>hj ah7
  have k15:=hk3 _ _ (ned n15) (s2 _ _ f15);have k6:=hk3 _ _ (ned n6) (s2 _ _ f6);have k21:=hk3 _ _ (ned m21) f21;have k22:=hk3 _ _ (ned m22) f22;simp only at v3;obtain⟨e1,d1,R1,ed,hcase,hok1⟩:∃e1 d1 R1,doE e ⟨60000,b,b.length,1+k,false⟩ o=(e1,d1,R1)∧((E≠0∧e1=e∧d1=⟨60000,b,b.length,1+k,false⟩∧R1=R)∨(E=0∧e1= {e with down:=true}∧d1=⟨60000,b++frame (cK e.ch o),b.length,0,true⟩∧R1=xq 9))∧d1.ok:=by
   by_cases h0:E=0
   ·have hl:(frame (cK e.ch o)).length=16+(gO o).length:=by rw[cJ];simp[cK,fS];omega
    have:=hfr h0;refine⟨_,_,_,RV (d:=⟨60000,b,b.length,1+k,false⟩) hdn ahr rfl (by show 1+k=1∨1+k=2;omega) (by show b.length+_≤60000;omega),.inr ⟨h0,rfl,rfl,rfl⟩,?_,adS rfl,?_,(by decide:(0:Nat)<9223372036854775808)⟩
    ·show(b++_).length≤60000
     rw[adX];omega
    ·show b.length≤(b++_).length
     simp
   ·exact⟨_,_,_,LU _ hdn ahr,.inl ⟨h0,rfl,rfl,by rw[eg]⟩,v3.ok⟩
  simp only[go_sem,r13,r6,k6];refine(show ai prog _ [.ptr x 0,opA o] _ _ from(v3.doS o ad3 (by have:=hW.log;omega) hG ad3 o64 he (by rw[ed];exact hok1)).mono fun r H4 ⟨er,spl',spj',v4,hT4,hin4⟩=>?_)
  subst er;rw[ed]at v4⊢;simp only at v4⊢;have y15:=hT4 _ _ n15 k15;have y6:=hT4 _ _ n6 k6;have y21:=hT4 _ _ m21 k21;have y22:=hT4 _ _ m22 k22;rw[CO];simp only[go_sem];intro i25 h25;simp only[go_sem];generalize hH:upd H4 i25 _=H5;have s5:Ab.Sub H4 H5:=by rw[←hH];exact(Sub.refl H4).new h25 _
  have f25:H5 i25=some (.obj [.i R1.err,.v (.complex .f64 (hbit R1.mark.1) (hbit R1.mark.2)),.b R1.glass,.i R1.val.kind,.i R1.val.n,.s R1.val.s,.b R1.hidden,.i R1.at_] 53):=ahy;clear hH;have v5:=v4.up s5;have u22:=s5 _ _ y22;have hlog:=hW.log;have hln:∀G,ij G x jid did e1 spl' spj'→e1.log.length=e.ps.length→(∀d∈e1.log,d.obls.length≤10000000)→ai prog 24 [.ptr x 0] G fun r h' =>r= .sl (e1.log.map ldA) .no∧h' =G:=fun G hG hl ho=>xE x jid did e1 spl' spj' G hG ad3 ho
  have hob:∀d∈e.log,d.obls.length≤10000000:=fun d hd=>(Gu hW.ok d hd).1
  have qm:=DC m9;have qd:eqC (.v (.complex .f64 0 0)) (.v (.complex .f64 0 0))=true:=rfl;rcases hcase with⟨h0,rfl,rfl,rfl⟩|⟨h0,rfl,rfl,rfl⟩
  ·have t2:(E !=0)=true:=by simp[h0]
   have t3:(E==0)=false:=by simp[h0]
   simp only[go_sem,t2,t3,f25,u22,qm,beq_self_eq_true,r13];refine(hln H5 v5.eng hlog hob).pthen ?_;simp only[go_sem,adT,hlog,r16,bne_self_eq_false,t3];refine hK2 _ _ ⟨i21,_,v5.disk,hok1,v5.sub,fun K T hT=>⟨e1,b,hW,hdn,?_,?_,.inl rfl⟩,by rw[es];exact s5 _ _ y15,s5 _ _ y6,s5 _ _ y21,?_,?_,?_,?_,?_,?_,?_,?_⟩
   ·rw[ym,Ad hW ⟨v3.ok.1,v3.ok.2.1,v3.ok.2.2.1,(by decide:(0:Nat)<9223372036854775808)⟩]
   ·rw[ym,tE hW]
   all_goals simp only[go_sem,r3,r4,r6,r11,r15,r16]
  ·have t2:(E !=0)=false:=by simp[h0]
   have t3:(E==0)=true:=by simp[h0]
   have hF:=jz (dP (s:=e.s) (o:=o) ahr);have hrl:=mL (h:=e.ch) hF;have hl:(frame (cK e.ch o)).length=16+(gO o).length:=by rw[cJ];simp[cK,fS];omega
   have hfr0:=hfr h0;rw[←CO,Tp]at f25;simp only[go_sem,t2,t3,f25,qd,r13];refine(hln H5 v5.eng hlog hob).pthen ?_;simp only[go_sem,adT,hlog,r16,bne_self_eq_false,t3,r13];refine(LX x jid did _ spl' spj' H5 v5.eng).pthen ?_;simp only[go_sem];refine hK2 _ _ ⟨i21,_,v5.disk,hok1,v5.sub,fun K T hT=>?_,by rw[es];exact s5 _ _ y15,s5 _ _ y6,s5 _ _ y21,?_,?_,?_,?_,?_,?_,?_,?_⟩
   ·obtain⟨G,B,hG',rfl,_,hop1,hsc1⟩:=FP (k:=K) (t:=T) hW ⟨hrl.1,hrl.2⟩ hT (n:=60000) ⟨ad3,ad6⟩
    rcases hG' with rfl|rfl
    ·exact⟨e,_,⟨hW.ok,rfl,hW.len,hW.log⟩,hdn,hop1,hsc1,.inl rfl⟩
    ·exact⟨nv e o,_,GD hW ahr o64,rfl,hop1,hsc1,.inr ⟨h0,rfl⟩⟩
   all_goals simp only[go_sem,r3,r4,r6,r11,r15,r16]
 refine .intro (fun m ρ H=>∃(i:Nat) (e:cI) (b:Txt) (sy:Nat) (spl spj:List Nat),mC g H x jid did e ⟨60000,b,sy,0,false⟩ spl spj∧sJ e b∧sy=b.length∧fM i e.s∧e.down=false∧b.length≤i*1416∧e.ps.length≤i∧H i15=some (.obj (cD e.s) 40)∧H i6=some (.obj (opC o) 46)∧i15∉x::did::jid::(spl++spj)∧i6∉x::did::jid::(spl++spj)∧i≤l.length∧m=l.length - i∧lk ρ 2=some (.i fu)∧lk ρ 3=some (.i ke)∧lk ρ 4=some (.i to)∧lk ρ 6=some (.ptr i6 0)∧lk ρ 11=some (.ptr did 0)∧lk ρ 13=some (.ptr x 0)∧lk ρ 15=some (.ptr i15 0)∧lk ρ 16=some (.i e.ps.length)∧lk ρ 62=some (.sl (l.map opA) .no)∧lk ρ 63=some (.i l.length)∧lk ρ 64=some (.i i)) l.length ?_ ?_
 ·refine⟨0,gE [],[],0,spl,spj,v1,DB,rfl,pP,rfl,Nat.le_refl _,Nat.le_refl _,j15,j6,n15,n6,ad3,rfl,?_,?_,?_,?_,?_,?_,?_,?_,?_,?_,?_⟩<;>simp only[go_sem]
  all_goals rfl
 rintro m ρ H ⟨i,e,b,sy,spl,spj,w,hW,hsy,hG,hdn,hbl,hps,f15,f6,n15,n6,hi,rfl,r2,r3,r4,r6,r11,r13,r15,r16,r62,r63,r64⟩
 obtain⟨a1,a2,a3,a4,a5,a6,a7,es⟩:=bE e.s
 by_cases hlt:i<l.length
 case neg=>have t1:decide ((i:Int)<(l.length:Int))=false:=decide_eq_false ad3;simp only[go_sem,r62,r63,r64,t1];subst hsy;refine hK1 _ _ ⟨i,e,b,spl,spj,w,hW,hG,hdn,hbl,hps,f15,f6,n15,n6,ad3,?_,?_,?_,?_,?_,?_,?_,?_⟩<;>simp only[go_sem,r2,r3,r4,r6,r11,r13,r15,r16]
 have t1:decide ((i:Int)<(l.length:Int))=true:=decide_eq_true ad3;have w1:IntKind.i64.wrap ((i:Int)+1)=((i+1:Nat):Int):=aeg;have ix:=fun k=>fC.eq (xs:=l.map opA) (sz:=12) i aep aec k
 obtain⟨q,eq⟩:∃q,l[i]=q:=⟨_,rfl⟩;have q64:=h64 q (by rw[←eq];exact adY _)
 have qtx:=htx q (by rw[←eq];exact adY _)
 rw[adU,eq]at ix;simp only[opA,opC]at ix;have hgd:=jA e.s hG ad3 q q64;have hge:=JN e.s q;have hfr:(aI e.s q).2.2.2=0→(gO q).length≤1400:=fun h0=>qtx (dP h0)
 obtain⟨⟨S,R,D,E⟩,eg⟩:∃t,aI e.s q=t:=⟨_,rfl⟩;obtain⟨b1,b2,b3,b4,b5,b6,b7,es2⟩:=bE S;rw[eg]at hgd hge hfr;rw[jB,show bN e.s= .agg (cD e.s)from rfl,es,show bN S= .agg (cD S)from rfl,es2]at hgd
 simp only[opA,opC]at hgd hge hfr;simp only[go_sem,r62,r63,r64,t1,ix];intro i18 h18;simp only[go_sem,ah,r13];refine inH fun H2 w2=>?_
 have s2:Ab.Sub H H2:=by rw[w2];grind [upd,Ab.Sub]
 have j18:H2 i18=some (.obj [.i q.kind,.s q.subj,.s q.case,.s q.field,.s q.to,.i q.val.kind,.i q.val.n,.s q.val.s,.i q.review,.s q.text,.s q.reason,.b q.glass] 46):=by rw[w2];grind [upd]
 have n18:=w.fresh h18;clear w2;refine(show ai prog _ [.ptr x 0,opA q] _ _ from((w.up s2).doW hW q hdn ad3 hG ad3 q64 he).mono fun r H3 ⟨e',b',sy',RR,spl',spj',ed,er,w3,hW',hG',hdn',hp',hy',hways,hT3,hin⟩=>?_)
 subst er;have hgk:E≠0→S=e.s:=fun h0=>by have:=Gc (s:=e.s) (o:=q) ahr;rw[eg]at this;exact this
 rw[eg]at hways;simp only at hways;have hb0:=Nat.mul_le_mul_right 1416 (show i≤14 by omega)
 have hnx:RR=R∧((E≠0∧e' =e)∨(E=0∧e' =nv e q)):=by
  rcases hways with⟨h1,h2,h3⟩|⟨h1,h2,_,_⟩|⟨h1,_,h2,h3⟩
  ·exact⟨h2,.inl ⟨h1,h3⟩⟩
  ·have:=hfr h1;omega
  ·exact⟨h2,.inr ⟨h1,h3⟩⟩
 obtain⟨rfl,hnx⟩:=hnx;have hbl' :b'.length≤(i+1)*1416:=by
  rw[hW'.b];rcases hnx with⟨_,rfl⟩|⟨h0,rfl⟩
  ·rw[←hW.b];omega
  ·show(frames (e.ps++ [cK e.ch q])).length≤_
   rw[jM,adX,cJ,←hW.b];have:=hfr h0;simp[cK,fS];omega
 have hpl' :e'.ps.length=e.ps.length+if E=0 then 1 else 0:=by
  rcases hnx with⟨h0,rfl⟩|⟨h0,rfl⟩
  ·rw[if_neg h0];rfl
  ·rw[if_pos h0];simp[nv]
 have hes:e'.s=S:=by
  rcases hnx with⟨h0,rfl⟩|⟨h0,rfl⟩
  ·exact(hgk h0).symm
  ·show(aI e.s q).1=S;rw[eg]
 have k15:=hT3 _ _ n15 (s2 _ _ f15);have k6:=hT3 _ _ n6 (s2 _ _ f6);have k18:=hT3 _ _ n18 j18;have out:∀j,j∉x::did::jid::(spl++spj)→H2 j≠none→j∉x::did::jid::(spl' ++spj'):=fun j a b hh=>(hin _ hh).elim a b
 have n15' :=out _ n15 (by rw[s2 _ _ f15];simp)
 have n6' :=out _ n6 (by rw[s2 _ _ f6];simp)
 rw[CO];have e9:(RR.err==9)=false:=beq_eq_false_iff_ne.mpr hge.2;have e8:(RR.err==8)=false:=beq_eq_false_iff_ne.mpr hge.1;simp only[go_sem];intro i19 h19;have x19:∀ {i:Nat} {b:Blk},H3 i=some b→i≠i19:=fun hh e=>by rw[←e,hh]at h19;cases h19
 rw[es]at k15;simp only[go_sem,ah,e9,e8,aj,x19 k15,x19 k18,k15,k18,r15];refine inH fun H4 w4=>?_
 have s4:Ab.Sub H3 H4:=by rw[w4];grind [upd,Ab.Sub]
 clear w4;refine(hgd H4 ((he.sub w3.sub).sub s4)).pthen ?_;have y15:=s4 _ _ k15;simp only[go_sem,r15,y15];refine Qw fun H5 w5=>?_
 have g15:g i15=none:=g15;have v5:mC g H5 x jid did e' ⟨60000,b',sy',0,false⟩ spl' spj' :=by rw[w5];exact(w3.up s4).upd _ y15 n15' g15 ad6 ad6
 have z15:H5 i15=some (.obj (cD e'.s) 40):=by rw[w5,hes,es2];exact ah ..
 have z6:H5 i6=some (.obj (opC o) 46):=by rw[w5,ag _ _ q65];exact s4 _ _ k6
 clear w5
 by_cases hE:E=0
 ·have t2:(E==0)=true:=by simp[hE]
  have w6:IntKind.i64.wrap ((e.ps.length:Int)+1)=(e'.ps.length:Int):=by rw[hpl',if_pos hE,IntWalk.i64_in _ ad3];omega
  simp only[go_sem,t2,r16,w6,r64,w1];refine⟨_,?_,i+1,e',b',sy',spl',spj',v5,hW',hy' hsy,hG',hdn',hbl',by rw[hpl',if_pos hE];omega,z15,z6,n15',n6',ad3,rfl,?_,?_,?_,?_,?_,?_,?_,?_,?_,?_,?_⟩
  ·omega
  all_goals simp only[go_sem,r2,r3,r4,r6,r11,r13,r15,r62,r63]
 ·have t2:(E==0)=false:=by simp[hE]
  simp only[go_sem,t2,r64,w1];refine⟨_,?_,i+1,e',b',sy',spl',spj',v5,hW',hy' hsy,hG',hdn',hbl',by rw[hpl',if_neg hE];omega,z15,z6,n15',n6',ad3,rfl,?_,?_,?_,?_,?_,?_,?_,?_,?_,?_,?_⟩
  ·omega
  all_goals simp only[go_sem,r2,r3,r4,r6,r11,r13,r15,r16,r62,r63]
  rw[hpl',if_neg hE];rfl
theorem xp(ev:Value)(hev:ev= .nilIface∨∃te pe,ev= .iface te pe)(x y z u v:AV)(dx:Dat U 67 x)(dy:Dat U 46 y)(dz:Dat U 3 z)(du:Dat U 3 u)(dv:Dat U 3 v):ai prog 4 [x,y,z,u,v] (xC [(3,CI),(2,[ev])]) fun r _=>r= .b true:=(yC x y z u v dx dy dz du dv _ (KF hev)).mono fun _ _ h=>h.1
end Go.Proofs.YtokahfmoollblaaGreatDoor
