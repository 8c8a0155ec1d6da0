/- The law TopAtomic: pack 6 of its texts. -/
import Derived.Shelf.Strings.OnBuilder
import Derived.Shelf.Small.Wraps
import Derived.Shelf.Strconv.Itoa3
import Derived.Test.YtelkmnkejghkeaaGreatDoorProg
import Derived.KernelRfl
import Derived.Lib.ItoaLen
import Derived.Shelf.Strings.BuilderK
import Derived.Test.YtelkmnkejghkeaaGreatDoorPk1
import Derived.Test.YtelkmnkejghkeaaGreatDoorPk2
import Derived.Test.YtelkmnkejghkeaaGreatDoorPk3
import Derived.Test.YtelkmnkejghkeaaGreatDoorPk4
import Derived.Test.YtelkmnkejghkeaaGreatDoorPk5
set_option linter.unusedSimpArgs false
set_option linter.unusedVariables false
set_option maxRecDepth 100000
namespace Go.Proofs.YtelkmnkejghkeaaGreatDoor
open Go Go.Ab Go.Bf Tryz
theorem Ce(l:List j9):Sized 2 (l.map rsA):=bx (f:=rsA) (fun _=>rfl) l
theorem Hr{id:Txt}{set:Bool}{alg:Int}(ha:1≤alg∧alg≤6){tgt:gu}{rules:List cR}{kids:List bC}{obls:List cE}(ho:obls.length≤1000000)(t:Nat)(ht:t=1∨t=2)(parts:List j9)(hp:∀x∈parts,M6 x.1)(hn:parts.length≤32){B:Nat}(hB:B≤10000000)(hpb:∀x∈parts,x.2.length≤B)(q:Perm)(h:Heap):
  ai prog 206 [aM (.mk id set alg tgt rules kids obls),.i t,.sl (parts.map rsA) q] h fun r h' =>r=rsA (qH alg obls t parts)∧h' =h:=by
 have hm6:∀m∈parts.map (·.1),M6 m:=fun m hm=>by obtain⟨x,hx,rfl⟩:=List.mem_map.1 hm;exact hp x hx
 have hc6:M6 (iG alg (parts.map (·.1))):=IL hm6
 have uR:=XQ;have uO:=XP;have uM:=XO;have hall:=fun(p:Perm) (G:Heap)=>S7 alg ha (parts.map (·.1)) (by rw[afj];omega) hm6 p G
 simp only[kI]at hall;refine aw func206 84 [.cell 6 103] ?_
 simp only[go_sem,aM];intro i3 h3;simp only[go_sem];intro i6 h6;have n63:=aH h6;have n6' :=aA h6;obtain⟨H0,eH⟩:∃H0,upd (upd h i3 (some (.obj [.s id,.b set,.i alg,aU tgt,.sl (rules.map aC) .no,.sl (fl kids) .no,ay obls] 39))) i6 (some (.obj [.v (.complex .f64 0 0),.sl [] .full] 103))=H0:=⟨_,rfl⟩;have hH0:Ab.Sub h H0:=aiv;have g3:H0 i3=some (.obj [.s id,.b set,.i alg,aU tgt,.sl (rules.map aC) .no,.sl (fl kids) .no,ay obls] 39):=by rw[←eH,ag _ _ n63.symm,ah]
 have g6:H0 i6=some (.obj [.v (.complex .f64 0 0),.sl [] .full] 103):=agZ;simp only[go_sem,afj];rw[eH];clear eH;refine .intro (fun m ρ H=>∃(i:Nat) (y:AV),Acc U 55 H0 H y (((parts.map (·.1)).take i).map aO)∧i≤parts.length∧m=parts.length - i∧lk ρ 1=some (.i t)∧lk ρ 2=some (.sl (parts.map rsA) q)∧lk ρ 3=some (.ptr i3 0)∧lk ρ 6=some (.ptr i6 0)∧lk ρ 7=some y∧lk ρ 15=some (.sl (parts.map rsA) q)∧lk ρ 16=some (.i parts.length)∧lk ρ 17=some (.i i)) parts.length ?_ ?_
 ·refine⟨0,.sl [] .full,.full (.refl _),afu,rfl,?_,?_,?_,?_,?_,?_,?_,?_⟩<;>simp only[go_sem]
 ·rintro m ρ H ⟨i,y,hy,hi,rfl,r1,r2,r3,r6,r7,r15,r16,r17⟩
  obtain⟨qy,eqy⟩:=hy.row;subst eqy;simp only[go_sem,r16,r17];refine .intro (fun e=>?_) (fun e=>?_)
  ·have hlt:i<parts.length:=afq e
   have w1:=afp i afu;have hsn:((parts.map (·.1)).take (i+1)).map aO=((parts.map (·.1)).take i).map aO++ [aO parts[i].1]:=by rw[List.take_succ_eq_append_getElem afQ,List.map_append,afk];rfl
   have ix:=fun k=>fF.eq (xs:=parts.map rsA) (sz:=2) i afQ afD k
   rw[afk]at ix;obtain⟨x,ex⟩:∃x,parts[i]=x:=⟨_,rfl⟩;rw[ex]at ix hsn;simp only[rsA,aO,ay]at ix;simp only[go_sem,r15,r17,ix];intro i9 h9;simp only[go_sem,r7];refine(hy.sub (.aj h9)).app (zs:=[aO x.1]) (by rw[uM];decide) afz (fun k hk=>hk) (by rw[uM];exact bx (f:=aO) (fun _=>rfl) _) (by rw[uM];intro z hz;rw[List.mem_singleton.1 hz];rfl) afN fun y' H' hy' kp=>?_
   simp only[go_sem,r17,w1];refine⟨_,?_,i+1,y',by rw[hsn];exact hy',afu,rfl,?_,?_,?_,?_,?_,?_,?_,?_⟩
   ·omega
   all_goals simp only[go_sem,r1,r2,r3,r6,r15,r16]
  ·have hge:i=parts.length:=by have:=afm e;omega
   subst hge;have htl:(parts.map (·.1)).take parts.length=parts.map (·.1):=List.take_of_length_le afB
   rw[htl]at hy;have k3:=hy.1 _ _ g3;have k6:=hy.1 _ _ g6;have hsH:=hH0.trans hy.1;have hjp:qH alg obls t parts=if t=0 then(naM,[])else if t=1 then(iq (iG alg (parts.map (·.1))),[])else if iG alg (parts.map (·.1))≠bf∧iG alg (parts.map (·.1))≠cJ then(iG alg (parts.map (·.1)),[])
     else(iG alg (parts.map (·.1)),fj alg (iG alg (parts.map (·.1))) parts++fc obls (iG alg (parts.map (·.1)))):=rfl
   have hple:(fj alg (iG alg (parts.map (·.1))) parts).length≤32*B+B:=uS hpb hn
   have hal:=fun G=>hall qy G
   obtain⟨m,em⟩:∃m,iG alg (parts.map (·.1))=m:=⟨_,rfl⟩
   rw[em]at hc6 hjp hal hple;have hin:=fun G=>zv m hc6.m9 G
   have npe:=(nb hc6.m9).npe;have nde:=(nb hc6.m9).nde;simp only[aO]at hal hin;rw[htl]at r7;simp only[go_sem,r3,r7,k3];refine(hal _).pthen ?_;rcases ht with rfl|rfl
   ·simp only[go_sem,r1]
    refine(hin _).pthen ?_;simp only[go_sem,r6,k6];exact .mk (rsA (iq m,[])) (rW [] (iq m) rfl _) (hsH.put n6' _) ⟨by rw[hjp];rfl,rfl⟩
   have k6H:=k6;cases dp:(m==bf)
   case true=>
    have e1:m=bf:=by simpa using dp
    have hne:¬(m≠bf∧m≠cJ):=fun hh=>hh.1 e1
    have hdu:=fun G=>sr obls ho m (.inl e1) G
    simp only[ay,aO]at hdu;simp only[go_sem,r1,npe,dp];exact ajH
   case false=>
    cases dd:(m==cJ)
    case true=>
     have e1:m=cJ:=by simpa using dd
     have hne:¬(m≠bf∧m≠cJ):=fun hh=>hh.2 e1
     have hdu:=fun G=>sr obls ho m (.inr e1) G
     simp only[ay,aO]at hdu;simp only[go_sem,r1,npe,nde,dp,dd];exact ajH
    case false=>
     have e1:m≠bf:=by simpa using dp
     have e2:m≠cJ:=by simpa using dd
     simp only[go_sem,r1,r6,npe,nde,dp,dd,k6];exact .mk (rsA (m,[])) (rW [] m rfl _) (hsH.put n6' _) ⟨by rw[hjp,if_neg afy,if_neg afy,if_pos ⟨e1,e2⟩],rfl⟩
theorem BB:∀(n d:Nat),d+n=5→∀(p:bC),mU d p→∀(gs:List bt),sM gs→∀(h:Heap),ai prog 151 [aM p,bN gs] h fun r h' =>r=rsA (fR gs p)∧h' =h
 |0,d,hd,.mk id set alg tgt rules kids obls,hE,gs,hf,h=>by simp only[mU]at hE;omega
 |n+1,d,hd,.mk id set alg tgt rules kids obls,hE,gs,hf,h=>by
  have ih:=BB n (d+1) afu;simp only[mU,rK]at hE;obtain⟨_,_,ha1,ha2,_,_,hT,hO,hR,hK,hRE,hKE⟩:=hE;have hob:=(lB hO).1;have hmt:=fun G=>N7 tgt (Dv hT) gs hf G
  have hev:fR gs (.mk id set alg tgt rules kids obls)=if nP gs tgt=0 then(naM,[])else qH alg obls (nP gs tgt) (rules.map (iP gs)++kids.map (fR gs)):=by simp only[fR,uq]
  have hjo:=fun(ht:nP gs tgt=1∨nP gs tgt=2) (q:Perm) (G:Heap)=>Hr (id:=id) (set:=set) (alg:=alg) ⟨ha1,ha2⟩ (tgt:=tgt) (rules:=rules) (kids:=kids) (obls:=obls) afu (nP gs tgt) ht (rules.map (iP gs)++kids.map (fR gs)) (fun x hx=>by
   rcases List.mem_append.1 hx with hx|hx
   ·obtain⟨r,_,rfl⟩:=List.mem_map.1 hx;exact BE _ _ _
   ·obtain⟨r,_,rfl⟩:=List.mem_map.1 hx;exact yj gs r) afZ (B:=10000000) (Nat.le_refl _) (fun x hx=>by
   rcases List.mem_append.1 hx with hx|hx
   ·obtain⟨r,hr,rfl⟩:=List.mem_map.1 hx
    have h1:=BD r (nP gs r.tgt) (ry gs r.cond);have h2:=(lB (hRE r hr).2.2.2).1
    show(oo r (nP gs r.tgt) (ry gs r.cond)).2.length≤_
    omega
   ·obtain⟨r,hr,rfl⟩:=List.mem_map.1 hx
    have h1:=CX gs n (d+1) r afu (hKE r hr);have h2:oB n≤oB 4:=by have:n≤4:=afu;rcases(show n=0∨n=1∨n=2∨n=3∨n=4 by omega)with rfl|rfl|rfl|rfl|rfl<;>decide
    exact Nat.le_trans h1 (Nat.le_trans h2 afy)) q G
  have hrl:=fun(r:cR) (hr:FE r) (G:Heap)=>Km r hr gs hf G
  have hml:=N6 gs tgt;obtain⟨t,et⟩:∃t,nP gs tgt=t:=⟨_,rfl⟩;rw[et]at hmt hjo hev hml;simp only[aM,bN,aR,aU,ay]at hmt hjo hrl;have uR:=XQ;refine aw func151 50 [.cell 4 103] ?_
  simp only[go_sem,aM,bN,aR,aU,ay];intro i2 h2;simp only[go_sem];intro i4 h4;have n42:=aH h4;have n4' :=aA h4;obtain⟨H0,eH⟩:∃H0,upd (upd h i2 (some (.obj [.s id,.b set,.i alg,.sl (tgt.map cC) .no,.sl (rules.map aC) .no,.sl (kids.map aM) .no,.sl (obls.map bh) .no] 39))) i4 (some (.obj [.v (.complex .f64 0 0),.sl [] .full] 103))=H0:=⟨_,rfl⟩;have hH0:Ab.Sub h H0:=aiu;have g2:H0 i2=some (.obj [.s id,.b set,.i alg,.sl (tgt.map cC) .no,.sl (rules.map aC) .no,.sl (kids.map aM) .no,.sl (obls.map bh) .no] 39):=ajd;have g4:H0 i4=some (.obj [.v (.complex .f64 0 0),.sl [] .full] 103):=agZ;simp only[go_sem,ak,n42.symm];rw[eH];clear eH;refine(hmt _).pthen ?_;cases dt:((t:Int)==0)
  case true=>
   have e0:t=0:=by have:(t:Int)=0:=(by simpa using dt);omega
   simp only[go_sem,dt,g4];exact .mk (rsA (naM,[])) (rW [] naM rfl _) (hH0.put n4' _) ⟨by rw[hev,if_pos e0],rfl⟩
  have ht0:t≠0:=by rintro rfl;simp at dt
  have ht12:t=1∨t=2:=afu;rw[if_neg ht0]at hev;simp only[go_sem,dt,g2,afj];refine .intro (fun m ρ H=>∃(i:Nat) (y:AV),Acc U 103 H0 H y (((rules.map (iP gs)).take i).map rsA)∧i≤rules.length∧m=rules.length - i∧lk ρ 1=some (.sl (gs.map lV) .no)∧lk ρ 2=some (.ptr i2 0)∧lk ρ 4=some (.ptr i4 0)∧lk ρ 5=some (.i t)∧lk ρ 6=some y∧lk ρ 19=some (.sl (rules.map aC) .no)∧lk ρ 20=some (.i rules.length)∧lk ρ 21=some (.i i)) rules.length ?_ ?_
  ·refine⟨0,.sl [] .full,.full (.refl _),afu,rfl,?_,?_,?_,?_,?_,?_,?_,?_⟩<;>simp only[go_sem]
  ·rintro m ρ H ⟨i,y,hy,hi,rfl,r1,r2,r4,r5,r6,r19,r20,r21⟩
   obtain⟨qy,eqy⟩:=hy.row;subst eqy;simp only[go_sem,r20,r21];refine .intro (fun e=>?_) (fun e=>?_)
   ·have hlt:i<rules.length:=afq e
    have w1:=afp i afu;have hsn:((rules.map (iP gs)).take (i+1)).map rsA=((rules.map (iP gs)).take i).map rsA++ [rsA (iP gs rules[i])]:=by rw[List.take_succ_eq_append_getElem afQ,List.map_append,afk];rfl
    have ix:=fun k=>fF.eq (xs:=rules.map aC) (sz:=5) i afQ afD k
    rw[afk]at ix;have hre:=hRE _ (afo hlt);obtain⟨x,ex⟩:∃x,rules[i]=x:=⟨_,rfl⟩;rw[ex]at ix hsn hre;have hr1:=hrl x hre;simp only[aC,aU,ay]at ix hr1;simp only[go_sem,r19,r21,ix];intro i8 h8;simp only[go_sem,r1,r6];refine(hr1 _).pthen ?_;simp only[go_sem,rsA,aO,ay];refine(hy.sub (.aj h8)).app (zs:=[rsA (iP gs x)]) (by rw[uR];decide) afz (fun k hk=>hk) (by rw[uR];exact Ce _) ah4 afN fun y' H' hy' kp=>?_
    simp only[go_sem,r21,w1];refine⟨_,?_,i+1,y',by rw[hsn];exact hy',afu,rfl,?_,?_,?_,?_,?_,?_,?_,?_⟩
    ·omega
    all_goals simp only[go_sem,r1,r2,r4,r5,r19,r20]
   ·have hge:i=rules.length:=by have:=afm e;omega
    subst hge;have htl:(rules.map (iP gs)).take rules.length=rules.map (iP gs):=List.take_of_length_le afB;rw[htl]at hy r6;have k2:=hy.1 _ _ g2;simp only[go_sem,r2,k2,afj];refine .intro (fun m ρ H=>∃(i:Nat) (y:AV),Acc U 103 H0 H y ((rules.map (iP gs)++(kids.map (fR gs)).take i).map rsA)∧i≤kids.length∧m=kids.length - i∧lk ρ 1=some (.sl (gs.map lV) .no)∧lk ρ 2=some (.ptr i2 0)∧lk ρ 4=some (.ptr i4 0)∧lk ρ 5=some (.i t)∧lk ρ 6=some y∧lk ρ 33=some (.sl (kids.map aM) .no)∧lk ρ 34=some (.i kids.length)∧lk ρ 35=some (.i i)) kids.length ?_ ?_
    ·refine⟨0,_,by rw[List.take_zero,List.append_nil];exact hy,afu,rfl,?_,?_,?_,?_,?_,?_,?_,?_⟩<;>simp only[go_sem,r1,r2,r4,r5,r6]
    ·rintro m ρ2 H2 ⟨i,y,hy,hi,rfl,s1,s2,s4,s5,s6,s33,s34,s35⟩
     obtain⟨qy,eqy⟩:=hy.row;subst eqy;simp only[go_sem,s34,s35];refine .intro (fun e=>?_) (fun e=>?_)
     ·have hlt:i<kids.length:=afq e
      have w1:=afp i afu;have hsn:(rules.map (iP gs)++(kids.map (fR gs)).take (i+1)).map rsA=(rules.map (iP gs)++(kids.map (fR gs)).take i).map rsA++ [rsA (fR gs kids[i])]:=by rw[List.take_succ_eq_append_getElem afQ,←List.append_assoc,List.map_append,afk];rfl
      have ix:=fun k=>fF.eq (xs:=kids.map aM) (sz:=7) i afQ (by rw[afk,jO]) k
      rw[afk]at ix;have hke:=hKE _ (afo hlt);obtain⟨x,ex⟩:∃x,kids[i]=x:=⟨_,rfl⟩;rw[ex]at ix hsn hke;have hr1:=ih x hke gs hf;obtain⟨kid,kset,kalg,ktgt,krules,kkids,kobls⟩:=x;simp only[aM,aU,ay,bN,aR]at ix hr1;simp only[go_sem,s33,s35,ix];intro i10 h10;simp only[go_sem,s1,s6];refine(hr1 _).pthen ?_;simp only[go_sem,rsA,aO,ay];refine(hy.sub (.aj h10)).app (zs:=[rsA (fR gs (.mk kid kset kalg ktgt krules kkids kobls))]) (by rw[uR];decide) afz (fun k hk=>hk) (by rw[uR];exact Ce _) ah4 (by simp only[go_sem,afj,List.length_take,List.length_cons,List.length_nil,afn];omega) fun y' H' hy' kp=>?_
      simp only[go_sem,s35,w1];refine⟨_,?_,i+1,y',by rw[hsn];exact hy',afu,rfl,?_,?_,?_,?_,?_,?_,?_,?_⟩
      ·omega
      all_goals simp only[go_sem,s1,s2,s4,s5,s33,s34]
     ·have hge:i=kids.length:=by have:=afm e;omega
      subst hge;have htl:(kids.map (fR gs)).take kids.length=kids.map (fR gs):=List.take_of_length_le afB;rw[htl]at hy s6;have k2:=hy.1 _ _ g2;have k4:=hy.1 _ _ g4;have hj:=fun G=>hjo ht12 qy G
      rw[←hev]at hj;obtain⟨z,ez⟩:∃z,fR gs (.mk id set alg tgt rules kids obls)=z:=⟨_,rfl⟩;rw[ez]at hj;simp only[go_sem,s2,s5,s6,k2];refine(hj _).pthen ?_;simp only[go_sem,s4,rsA,aO,ay,k4];exact .mk (rsA z) (.refl _) ((hH0.trans hy.1).put n4' _) ⟨by rw[ez];rfl,rfl⟩
theorem Ei(p:bC)(hp:gV p=0)(gs:List bt)(hf:sM gs)(h:Heap):ai prog 92 [aM p,bN gs] h fun r h' =>r= .tup [rsA (fR gs p),.i 0]∧h' =h:=by
 have hd:=fun G=>BB 4 1 rfl p (rX hp) gs hf G
 have hr:=fun G=>u7 p G
 rw[hp]at hr;obtain⟨id,set,alg,tgt,rules,kids,obls⟩:=p;refine aw func92 13 [.cell 4 103,.tmp 5] ?_
 simp only[go_sem,aM,bN,aU,ay];intro i2 h2;simp only[go_sem];intro i4 h4;have n42:=aH h4;have n4:=aA h4;have hs:∀x y,Ab.Sub h (upd (upd h i2 x) i4 y):=fun x y=>((Sub.refl h).put h2 x).put n4 y
 simp only[go_sem,ak,n42.symm];refine(hr _).pthen ?_;simp only[go_sem,ak,n42.symm];refine(hd _).pthen ?_;simp only[go_sem,rsA,aO,ay];exact ag9
end Go.Proofs.YtelkmnkejghkeaaGreatDoor
namespace Go.Bf
open Go Go.Ab Go.Proofs.YtelkmnkejghkeaaGreatDoor
variable {a b' m:eS}{s:Txt}{e alg:Int}{r tgt:gu}{l:List bO}{n:Nat}
def rep(n:Nat)(t:Txt):Txt:=(List.replicate n t).flatten
def MLe(a b:eS):Prop:=(∀x∈a.met,x∈b.met)∧a.rules≤b.rules
theorem MLe.refl(a:eS):MLe a a:=⟨fun _ h=>h,Nat.le_refl _⟩
theorem MLe.trans{b c:eS}(h1:MLe a b)(h2:MLe b c):MLe a c:=⟨fun x h=>h2.1 x (h1.1 x h),Nat.le_trans h1.2 h2.2⟩
theorem Ji{b:eS}(h:MLe a b)(hm:jC b s=some b'):∃a',jC a s=some a'∧MLe a' b' :=by
 unfold jC at hm⊢;split at hm
 ·rename_i hc
  cases hm;refine⟨_,if_pos ⟨fun hx=>hc.1 (h.1 s hx),hc.2⟩,fun x hx=>?_,h.2⟩
  rcases List.mem_append.1 hx with hx|hx
  ·exact List.mem_append.2 (.inl (h.1 x hx))
  grind
 grind
theorem Jj{b:eS}(hm:jC b s=some b'):MLe b b' :=by
 unfold jC at hm;split at hm
 ·cases hm;exact⟨fun x hx=>List.mem_append.2 (.inl hx),Nat.le_refl _⟩
 grind
theorem pG{w:Went}(h:need e w= .ok m):e=0∧w= .ok m:=by grind [need]
theorem Rk{b:eS}{r:cR}(h:MLe a b)(hr:gQ b r= .ok b'):(∃a',gQ a r= .ok a'∧MLe a' b')∧MLe b b' :=by
 unfold gQ at hr⊢;cases hm:jC b r.id with
 |none=>grind
 |some m=>
  rw[hm]at hr;obtain⟨a',ha,hl⟩:=Ji h hm;simp only at hr;split at hr
  ·grind
  ·obtain⟨e1,hr⟩:=pG hr
   obtain⟨e2,hr⟩:=pG hr;obtain⟨e3,hr⟩:=pG hr;cases hr;have hup:=Jj hm;refine⟨⟨⟨a'.met,a'.rules+1⟩,?_,hl.1,by have:=hl.2;simp only;omega⟩,hup.1,by have:=hup.2;simp only;omega⟩
   rw[ha];have:=hl.2;simp only[e1,e2,e3,need,if_true];rw[if_neg afu]
theorem FG:∀(l:List cR) {a b b' :eS},MLe a b→fM b l= .ok b'→(∃a',fM a l= .ok a'∧MLe a' b')∧MLe b b'
 | [],a,b,b',h,hr=>by cases hr;exact⟨⟨a,rfl,h⟩,.refl _⟩
 |r::l,a,b,b',h,hr=>by
  simp only[fM]at hr⊢;cases hw:gQ b r with
  |bad e=>grind
  |ok m=>rw[hw]at hr;obtain⟨⟨a',ha,hl⟩,hu⟩:=Rk h hw;obtain⟨⟨a'',ha',hl'⟩,hu'⟩:=FG l hl hr;exact⟨⟨a'',afv,hl'⟩,hu.trans hu'⟩
theorem Qv{b:eS}{id:Txt}{set:Bool}{nr nk nk' :Nat}{obls:List cE}(h:MLe a b)(hk:nk'≤nk)(hr:fB b id set alg tgt nr nk obls= .ok b'):(∃a',fB a id set alg tgt nr nk' obls= .ok a'∧MLe a' b')∧MLe b b' :=by
 unfold fB at hr⊢;cases hm:jC b id with
 |none=>rw[hm]at hr;cases hr
 |some m=>
  rw[hm]at hr;obtain⟨a',ha,hl⟩:=Ji h hm;simp only at hr;split at hr
  ·cases hr
  ·rename_i h1
   split at hr
   ·cases hr
   ·rename_i h2
    obtain⟨e1,hr⟩:=pG hr;obtain⟨e2,hr⟩:=pG hr;split at hr
    ·cases hr
    ·rename_i h3
     cases hr;refine⟨⟨a',?_,hl⟩,Jj hm⟩;rw[ha];have h2' :¬(set=true∧nr>0∨set=false∧(nk' >0∨alg=4)):=by
      rintro(⟨p,q⟩|⟨p,q|q⟩)
      ·exact h2 (.inl ⟨p,q⟩)
      ·exact h2 (.inr ⟨p,.inl afu⟩)
      ·exact h2 (.inr ⟨p,.inr q⟩)
     simp only[if_neg h1,if_neg h2',e1,e2,need,if_true];rw[if_neg afu]
theorem Fj(gs:List bt):∀l:List bC,(lf gs l).length≤l.length
 | []=>by simp[lf]
 |k::r=>by have:=Fj gs r;simp only[lf];split<;>simp<;>omega
mutual
theorem Fm(gs:List bt):∀(p:bC) (d:Nat) {a b b' :eS},MLe a b→lC b d p= .ok b'→(∃a',lC a d (mc gs p)= .ok a'∧MLe a' b')∧MLe b b'
 |.mk id set alg tgt rules kids obls,d,a,b,b',h,hr=>by
  simp only[lC,mc]at hr⊢;split at hr
  ·cases hr
  ·rename_i hd
   rw[if_neg hd];cases hh:fB b id set alg tgt rules.length kids.length obls with
   |bad e=>rw[hh]at hr;cases hr
   |ok m=>
    rw[hh]at hr;simp only at hr;obtain⟨⟨a1,ha1,hl1⟩,hu1⟩:=Qv h (Fj gs kids) hh;cases hw:fM m rules with
    |bad e=>rw[hw]at hr;cases hr
    |ok m2=>rw[hw]at hr;simp only at hr;obtain⟨⟨a2,ha2,hl2⟩,hu2⟩:=FG rules hl1 hw;obtain⟨⟨a3,ha3,hl3⟩,hu3⟩:=vQ gs kids (d+1) hl2 hr;refine⟨⟨a3,?_,hl3⟩,(hu1.trans hu2).trans hu3⟩;rw[ha1];simp only[ha2];exact ha3
theorem vQ(gs:List bt):∀(l:List bC) (d:Nat) {a b b' :eS},MLe a b→jn b d l= .ok b'→(∃a',jn a d (lf gs l)= .ok a'∧MLe a' b')∧MLe b b'
 | [],d,a,b,b',h,hr=>by simp only[jn,lf]at hr⊢;cases hr;exact⟨⟨a,rfl,h⟩,.refl _⟩
 |k::r,d,a,b,b',h,hr=>by
  simp only[jn]at hr;cases hw:lC b d k with
  |bad e=>rw[hw]at hr;cases hr
  |ok m=>
   rw[hw]at hr;simp only at hr;obtain⟨⟨a1,ha1,hl1⟩,hu1⟩:=Fm gs k d h hw;simp only[lf];split
   ·obtain⟨⟨a2,ha2,hl2⟩,hu2⟩:=vQ gs r d hl1 hr
    refine⟨⟨a2,?_,hl2⟩,hu1.trans hu2⟩;simp only[jn,ha1];exact ha2
   ·obtain⟨⟨a2,ha2,hl2⟩,hu2⟩:=vQ gs r d (h.trans hu1) hr
    exact⟨⟨a2,ha2,hl2⟩,hu1.trans hu2⟩
end
theorem HS(gs:List bt){p:bC}(h:gV p=0):gV (mc gs p)=0:=by
 unfold gV at*;cases hw:lC ⟨[],0⟩ 1 p with
 |bad e=>have:=uW 4 1 _ _ e rfl hw;rw[hw]at h;exact(this h).elim
 |ok m=>obtain⟨⟨a,ha,_⟩,_⟩:=Fm gs p 1 (.refl _) hw;rw[ha];rfl
def XZ:bO:=⟨⟨0,[],false⟩,0,aq⟩
def QC(k:Option bO):AV:=match k with
 |some m=> .tup [cU m,.b true]
 |none=> .tup [cU XZ,.b false]
theorem NP{x:List (List bO)}(h:x.length≠1):pE (x::r)=pE r:=by
 match x,h with
 | [],_=>rfl
 | [l],h=>exact(h rfl).elim
 |a::b::c,_=>rfl
theorem NO(h:(l.find? fun m=>m.op==1 && !m.attr.must)=none):pE ([l]::r)=pE r:=by grind [pE]
theorem NQ{m:bO}(h:(l.find? fun m=>m.op==1 && !m.attr.must)=some m):pE ([l]::r)=some m:=by grind [pE]
theorem Fi(gs:List bt):∀l:List bC,lf gs l=(l.filter (tF gs)).map (mc gs)
 | []=>afJ
 |k::r=>by
  simp only[lf,List.filter_cons,Fi gs r]
  grind
def ixP(gs:List bt)(l:List bC)(n:Nat):List Nat:=(List.range n).filter fun j=>tF gs (l.getD j mD)
theorem EM(gs:List bt)(l:List bC)(h:n<l.length):ixP gs l (n+1)=ixP gs l n++(if tF gs l[n]=true then [n]else []):=by grind [ixP,List.range_succ,List.getD,List.getElem?_eq_getElem]
theorem EN(gs:List bt)(l:List bC):∀n:Nat,n≤l.length→(ixP gs l n).map (fun j=>l.getD j mD)=(l.take n).filter (tF gs)
 |0,_=>afJ
 |n+1,h=>by
  have hlt:n<l.length:=afu;rw[EM gs l hlt,List.map_append,EN gs l n afu,List.take_succ_eq_append_getElem hlt,List.filter_append,List.filter_cons]
  congr 1
  grind
theorem TU{gs:List bt}{l:List bC}{j:Nat}(h:j∈ixP gs l n):j<n:=List.mem_range.1 (List.mem_filter.1 h).1
theorem Jc(gs:List bt)(l:List bC)(n:Nat):(ixP gs l n).length≤n:=by grind [ixP,Nat.le_trans,List.length_filter_le]
theorem NI(gs:List bt)(l:List bC):(ixP gs l l.length).map (fun j=>mc gs (l.getD j mD))=lf gs l:=by rw[Fi,←List.take_length (l:=l),←EN gs l l.length (Nat.le_refl _),List.map_map,List.take_length];rfl
theorem pF(m:bO):cU m= .agg [.i m.attr.cat,.s m.attr.name,.b m.attr.must,.i m.op,.i m.val.kind,.i m.val.n,.s m.val.s]:=rfl
end Go.Bf
namespace Go.Proofs.YtelkmnkejghkeaaGreatDoor
open Go Go.Ab Go.Bf Tryz
variable {gs:List bt}{p:bC}{h:Heap}{s:an}{k:Nat}{x:AV}{c:aL}
theorem TV(t:gu)(ht:PG t)(h:Heap):ai prog 207 [aU t] h fun r h' =>r=QC (pE t)∧h' =h:=by
 have htl:=ht.1;refine aw func207 38 [.cell 2 264,.tmp 3] ?_
 simp only[go_sem,aU];intro i2 h2;simp only[go_sem,afj];have hH0:∀x,Ab.Sub h (upd h i2 x):=fun x=> .aj h2
 refine .intro (fun m ρ H=>Ab.Sub h H∧H i2=some (.obj [.i 0,.s [],.b false,.i 0,.i 0,.i 0,.s []] 264)∧∃i:Nat,i≤t.length∧m=t.length - i∧pE (t.drop i)=pE t∧lk ρ 2=some (.ptr i2 0)∧lk ρ 8=some (.sl (t.map cC) .no)∧lk ρ 9=some (.i t.length)∧lk ρ 10=some (.i i)) t.length ?_ ?_
 ·refine⟨hH0 _,ah ..,0,afu,rfl,rfl,?_,?_,?_,?_⟩<;>simp only[go_sem]
 ·rintro m ρ H ⟨hs,k2,i,hi,rfl,hk,r2,r8,r9,r10⟩
  simp only[go_sem,r9,r10];refine .intro (fun e=>?_) (fun e=>?_)
  ·have hlt:i<t.length:=afq e
   have w1:IntKind.i64.wrap ((i:Int)+1)=((i+1:Nat):Int):=afG;rw[List.drop_eq_getElem_cons hlt]at hk;have hxl:=(ht.2 _ (afo hlt)).2;have ix:=fun k=>fF.eq (xs:=t.map cC) (sz:=1) i afv afD k
   rw[afk]at ix;obtain⟨x,ex⟩:∃x,t[i]=x:=⟨_,rfl⟩;rw[ex]at ix hk hxl;simp only[cC]at ix;cases d1:((x.length:Int) !=1)
   case true=>
    have hx1:x.length≠1:=afv;rw[NP hx1]at hk;simp only[go_sem,r8,r10,ix,afj,d1,w1];refine⟨_,?_,hs,k2,i+1,afu,rfl,hk,?_,?_,?_,?_⟩
    ·omega
    all_goals simp only[go_sem,r2,r8,r9]
   have hx1:x.length=1:=afv;obtain⟨l,rfl⟩:=List.length_eq_one_iff.1 hx1;have hll:=hxl l (List.mem_singleton.2 rfl);have iy:=fun k=>fF.eq (xs:=[gv l]) (sz:=1) 0 afB rfl k
   simp only[List.getElem_cons_zero,gv,Int.natCast_zero]at iy;simp only[go_sem,r8,r10,ix,afj,List.length_cons,List.length_nil,List.map_cons,List.map_nil,gv,iy];refine .intro (fun m ρ2 H2=>Ab.Sub h H2∧H2 i2=some (.obj [.i 0,.s [],.b false,.i 0,.i 0,.i 0,.s []] 264)∧∃j:Nat,j≤l.length∧m=l.length - j∧(∀k (h1:k<l.length),k<j→(l[k].op==1 && !l[k].attr.must)=false)∧lk ρ2 2=some (.ptr i2 0)∧lk ρ2 8=some (.sl (t.map cC) .no)∧lk ρ2 9=some (.i t.length)∧lk ρ2 10=some (.i i)∧lk ρ2 19=some (.sl (l.map cU) .no)∧lk ρ2 20=some (.i l.length)∧lk ρ2 21=some (.i j)) l.length ?_ ?_
   ·refine⟨hs,k2,0,afu,rfl,fun k _ hk=>afu,?_,?_,?_,?_,?_,?_,?_⟩<;>simp only[go_sem,r2,r8,r9,r10]
   ·rintro m ρ2 H2 ⟨hs2,k2,j,hj,rfl,hc,s2,s8,s9,s10,s19,s20,s21⟩
    simp only[go_sem,s20,s21];refine .intro (fun e=>?_) (fun e=>?_)
    ·have hlt2:j<l.length:=afq e
     have w2:IntKind.i64.wrap ((j:Int)+1)=((j+1:Nat):Int):=afG;have iz:=fun k=>fF.eq (xs:=l.map cU) (sz:=7) j afv afD k
     rw[afk]at iz;have hci:=fun(d:(l[j].op==1 && !l[j].attr.must)=false)=>(fun k (h1:k<l.length) (hk:k<j+1)=>(by grind:(l[k].op==1 && !l[k].attr.must)=false))
     have hat:=fun(d:(l[j].op==1 && !l[j].attr.must)=true)=>(List.find?_eq_some_iff_getElem.2 ⟨d,j,hlt2,rfl,fun k hk=>afv⟩:(l.find? fun m=>m.op==1 && !m.attr.must)=some l[j])
     obtain⟨z,ez⟩:∃z,l[j]=z:=⟨_,rfl⟩;rw[ez]at iz hci hat;simp only[pF]at iz;simp only[go_sem,s19,s21,iz];intro i7 h7;have n72:i7≠i2:=fun e=>afv
     cases a1:(z.op==1)
     ·exact aks
     ·cases a2:z.attr.must
      ·have hkk:=hk.symm.trans (NQ (hat afv))
       simp only[go_sem,s2,a1,ak,n72.symm,k2];exact .mk _ (.refl _) ((hs2.trans (.aj h7)).put h2 _) ⟨by rw[hkk];simp only[QC,pF,a2];rfl,rfl⟩
      ·exact aks
    ·have hge:j=l.length:=by grind
     subst hge;rw[NO (List.find?_eq_none.2 fun z hz=>by
      obtain⟨k,hk,rfl⟩:=List.mem_iff_getElem.1 hz
      grind)]at hk
     simp only[go_sem,s10,w1];refine⟨_,?_,hs2,k2,i+1,afu,rfl,hk,?_,?_,?_,?_⟩
     ·omega
     all_goals simp only[go_sem,s2,s8,s9]
  ·have hge:i=t.length:=by grind
   subst hge;rw[List.drop_length]at hk;simp only[go_sem,r2,k2];exact .mk _ (.refl _) (hs.put h2 _) ⟨by rw[←hk];rfl,rfl⟩
theorem Lf(h:pE (tI p)=none):tF gs p=true:=by grind [tF]
theorem Lg{m:bO}(h:pE (tI p)=some m):tF gs p=decide (kJ gs m≠0):=by grind [tF]
def uE(n:Nat):AV:=.i n
theorem Oy(l:List bC)(hl:l.length≤1000)(ht:∀p∈l,PG (tI p))(gs:List bt)(hf:sM gs)(h:Heap):ai prog 152 [.sl (l.map aM) .no,bN gs] h fun r h' =>r= .sl ((ixP gs l l.length).map uE) .no∧h' =h:=by
 have hmt:=fun(m:bO) (G:Heap)=>BV m gs hf G
 simp only[pF,bN]at hmt;have uI:(U 3).sz=1:=afJ;refine aw func152 37 [.tmp 4] ?_
 simp only[go_sem,bN,afj];refine .intro (fun m ρ H=>∃(i:Nat) (y:AV),Acc U 3 h H y ((ixP gs l i).map uE)∧i≤l.length∧m=l.length - i∧lk ρ 1=some (.sl (gs.map lV) .no)∧lk ρ 5=some y∧lk ρ 10=some (.sl (l.map aM) .no)∧lk ρ 11=some (.i l.length)∧lk ρ 12=some (.i i)) l.length ?_ ?_
 ·refine⟨0,.sl [] .full,.full (.refl _),afu,rfl,?_,?_,?_,?_,?_⟩<;>simp only[go_sem]
 ·rintro m ρ H ⟨i,y,hy,hi,rfl,r1,r5,r10,r11,r12⟩
  obtain⟨qy,eqy⟩:=hy.row;subst eqy;simp only[go_sem,r11,r12];refine .intro (fun e=>?_) (fun e=>?_)
  ·have hlt:i<l.length:=afq e
   have w1:IntKind.i64.wrap ((i:Int)+1)=((i+1:Nat):Int):=afG;have hsn:=EM gs l hlt;have hpl:=Jc gs l i;have ix:=fun k=>fF.eq (xs:=l.map aM) (sz:=7) i afv (by rw[afk,jO]) k
   rw[afk]at ix;have hft:=ht _ (afo hlt);obtain⟨x,ex⟩:∃x,l[i]=x:=⟨_,rfl⟩;rw[ex]at ix hsn hft;have hky:=fun G=>TV (tI x) hft G
   have mn:=fun h=>Lf (gs:=gs) (p:=x) h
   have ms:=fun m h=>Lg (gs:=gs) (p:=x) (m:=m) h
   obtain⟨kid,kset,kalg,ktgt,krules,kkids,kobls⟩:=x;simp only[tI]at hky hft mn ms;simp only[aM,aU,ay,aR]at ix;simp only[aU]at hky;simp only[go_sem,r10,r12,ix];intro i7 h7;simp only[go_sem];refine(hky _).pthen ?_;have hkeep:tF gs (.mk kid kset kalg ktgt krules kkids kobls)=true→ixP gs l (i+1)=ixP gs l i++ [i]:=fun e=>afv
   have hdrop:tF gs (.mk kid kset kalg ktgt krules kkids kobls)=false→ixP gs l (i+1)=ixP gs l i:=fun e=>afv
   cases hk:pE ktgt with
   |none=>simp only[go_sem,QC,pF];intro i8 h8;simp only[go_sem,r5];exact aka
   |some m=>
    have hm2:=ms m hk;simp only[go_sem,QC,pF];intro i8 h8;simp only[go_sem,r1];refine(hmt m _).pthen ?_;cases dm:((kJ gs m:Int) !=0)
    ·have e0:kJ gs m=0:=by grind
     simp only[go_sem,r12,dm,w1];refine⟨_,?_,i+1,_,by rw[hdrop afv];exact(hy.sub (.aj h7)).sub (.aj h8),afu,rfl,?_,?_,?_,?_,?_⟩
     ·omega
     all_goals simp only[go_sem,r1,r5,r10,r11]
    ·have e0:kJ gs m≠0:=by grind
     simp only[go_sem,r5,dm];exact aka
  ·have hge:i=l.length:=by grind
   subst hge;simp only[go_sem,r5];exact .mk _ (.sl _ _) hy.1 ⟨rfl,rfl⟩
theorem Xr{id:Txt}{set:Bool}{alg:Int}{tgt:gu}{rules:List cR}{kids:List bC}{obls:List cE}{L:List AV}(hL:L=kids.map aM)(q:Perm):Weak (.agg [.s id,.b set,.i alg,.sl (tgt.map cC) .no,.sl (rules.map aC) .no,.sl L q,.sl (obls.map bh) .no]) (aM (.mk id set alg tgt rules kids obls)):=by
 subst hL;rw[aM,aR];refine .agg _ _ rfl fun i a b=>?_
 rcases i with _|_|_|_|_|_|_|i
 ·exact agR
 ·exact agR
 ·exact agR
 ·exact agR
 ·exact agR
 ·exact aia
 ·exact agR
 ·simp at a;omega
theorem B5:∀(n d:Nat),d+n=5→∀(p:bC),mU d p→∀(gs:List bt),sM gs→∀(h:Heap),ai prog 93 [aM p,bN gs] h fun r h' =>r=aM (mc gs p)∧h' =h
 |0,d,hd,.mk id set alg tgt rules kids obls,hE,gs,hf,h=>by simp only[mU]at hE;omega
 |n+1,d,hd,.mk id set alg tgt rules kids obls,hE,gs,hf,h=>by
  have ih:=B5 n (d+1) afu;simp only[mU,rK]at hE;obtain⟨_,_,_,_,_,_,hT,hO,hR,hK,hRE,hKE⟩:=hE;have hpk:=fun G=>Oy kids afu (fun p hp=>by have h1:=hKE p hp;obtain⟨kid,kset,kalg,ktgt,krules,kkids,kobls⟩:=p;simp only[mU]at h1;exact Dv h1.2.2.2.2.2.2.1) gs hf G
  have hpe:mc gs (.mk id set alg tgt rules kids obls)= .mk id set alg tgt rules (lf gs kids) obls:=afJ;have hfull:=NI gs kids;have hIlt:∀j∈ixP gs kids kids.length,j<kids.length:=fun j hj=>TU hj
  have hIl:(ixP gs kids kids.length).length≤16:=Nat.le_trans (Jc _ _ _) hK;obtain⟨I,eI⟩:∃I,ixP gs kids kids.length=I:=⟨_,rfl⟩;rw[eI]at hpk hfull hIlt hIl;simp only[bN]at hpk;have uP:(U 39).sz=7:=afJ;refine aw func93 31 [.cell 4 39] ?_
  simp only[go_sem,aM,bN,aR,aU,ay];intro i2 h2;simp only[go_sem];intro i4 h4;have n42:=aH h4;have n4' :=aA h4;obtain⟨H0,eH⟩:∃H0,upd (upd h i2 (some (.obj [.s id,.b set,.i alg,.sl (tgt.map cC) .no,.sl (rules.map aC) .no,.sl (kids.map aM) .no,.sl (obls.map bh) .no] 39))) i4 (some (.obj [.s [],.b false,.i 0,.sl [] .full,.sl [] .full,.sl [] .full,.sl [] .full] 39))=H0:=⟨_,rfl⟩;have hH0:Ab.Sub h H0:=aiu;have g2:H0 i2=some (.obj [.s id,.b set,.i alg,.sl (tgt.map cC) .no,.sl (rules.map aC) .no,.sl (kids.map aM) .no,.sl (obls.map bh) .no] 39):=ajd;have g4:H0 i4=some (.obj [.s [],.b false,.i 0,.sl [] .full,.sl [] .full,.sl [] .full,.sl [] .full] 39):=agZ;simp only[go_sem,ak,n42.symm];rw[eH];clear eH;refine(hpk _).pthen ?_;simp only[go_sem,afj];refine .intro (fun m ρ H=>∃(i:Nat) (y:AV),Acc U 39 H0 H y (((I.map fun j=>mc gs (kids.getD j mD)).take i).map aM)∧i≤I.length∧m=I.length - i∧lk ρ 1=some (.sl (gs.map lV) .no)∧lk ρ 2=some (.ptr i2 0)∧lk ρ 4=some (.ptr i4 0)∧lk ρ 5=some y∧lk ρ 11=some (.sl (I.map uE) .no)∧lk ρ 12=some (.i I.length)∧lk ρ 13=some (.i i)) I.length ?_ ?_
  ·refine⟨0,.sl [] .full,.full (.refl _),afu,rfl,?_,?_,?_,?_,?_,?_,?_⟩<;>simp only[go_sem]
  ·rintro m ρ H ⟨i,y,hy,hi,rfl,r1,r2,r4,r5,r11,r12,r13⟩
   obtain⟨qy,eqy⟩:=hy.row;subst eqy;have k2:=hy.1 _ _ g2;simp only[go_sem,r12,r13];refine .intro (fun e=>?_) (fun e=>?_)
   ·have hlt:i<I.length:=afq e
    have w1:IntKind.i64.wrap ((i:Int)+1)=((i+1:Nat):Int):=afG;have hjlt:=hIlt _ (afo hlt);have hsn:((I.map fun j=>mc gs (kids.getD j mD)).take (i+1)).map aM=((I.map fun j=>mc gs (kids.getD j mD)).take i).map aM++ [aM (mc gs (kids.getD I[i] mD))]:=by grind [List.take_succ_eq_append_getElem]
    have ix:=fun k=>fF.eq (xs:=I.map uE) (sz:=1) i afv afD k
    rw[afk]at ix;obtain⟨j,ej⟩:∃j,I[i]=j:=⟨_,rfl⟩;rw[ej]at ix hsn hjlt;have iy:=fun k=>fF.eq (xs:=kids.map aM) (sz:=7) j afv (by rw[afk,jO]) k
    rw[afk]at iy;rw[show kids.getD j mD=kids[j] by grind]at hsn
    have hke:=hKE _ (afo hjlt);obtain⟨x,ex⟩:∃x,kids[j]=x:=⟨_,rfl⟩;rw[ex]at iy hsn hke;have hr1:=ih x hke gs hf;obtain⟨z,ez⟩:∃z,mc gs x=z:=⟨_,rfl⟩;rw[ez]at hr1 hsn;obtain⟨kid,kset,kalg,ktgt,krules,kkids,kobls⟩:=x;obtain⟨zid,zset,zalg,ztgt,zrules,zkids,zobls⟩:=z;simp only[aM,aU,ay,aR,bN]at iy hr1;simp only[uE]at ix;simp only[go_sem,r1,r2,r5,r11,r13,ix,k2,iy];refine(hr1 _).pthen ?_;simp only[go_sem];refine hy.app (zs:=[aM (.mk zid zset zalg ztgt zrules zkids zobls)]) afu afy (fun k hk=>show k _ from(by simpa only[aM,aU,ay,aR]using hk)) (by grind [bx,aM,jO]) (by rw[uP];intro z hz;grind [List.mem_singleton,jO]) afN fun y' H' hy' kp=>?_
    simp only[go_sem,r13,w1];refine⟨_,?_,i+1,y',afv,afu,rfl,?_,?_,?_,?_,?_,?_,?_⟩
    ·omega
    all_goals simp only[go_sem,r1,r2,r4,r11,r12]
   ·have hge:i=I.length:=by grind
    subst hge;have htl:(I.map fun j=>mc gs (kids.getD j mD)).take I.length=lf gs kids:=by grind [List.take_of_length_le]
    rw[htl]at r5 hy;have k4:=hy.1 _ _ g4;have n24:i2≠i4:=n42.symm;simp only[go_sem,r2,r4,r5,k2,ak,n42,k4];refine .mk (aM (.mk id set alg tgt rules (lf gs kids) obls)) (Xr rfl _) (((hH0.trans hy.1).put h2 _).put n4' _) ⟨afJ,rfl⟩
theorem EL(p:bC)(hp:gV p=0)(gs:List bt)(hf:sM gs)(h:Heap):ai prog 42 [aM p,bN gs] h fun r h' =>r= .tup [rsA (fR gs p),.i 0]∧h' =h:=by
 have hpk:=fun G=>B5 4 1 rfl p (rX hp) gs hf G
 have hev:=fun G=>Ei (mc gs p) (HS gs hp) gs hf G
 have hr:=fun G=>u7 p G
 rw[hp]at hr;rw[B3]at hev;obtain⟨id,set,alg,tgt,rules,kids,obls⟩:=p;refine aw func42 17 [.cell 4 103,.tmp 5] ?_
 simp only[go_sem,aM,bN,aU,ay];intro i2 h2;simp only[go_sem];intro i4 h4;have n42:=aH h4;have n4:=aA h4;have hs:∀x y,Ab.Sub h (upd (upd h i2 x) i4 y):=fun x y=>((Sub.refl h).put h2 x).put n4 y
 simp only[go_sem,ak,n42.symm];refine(hr _).pthen ?_;simp only[go_sem,ak,n42.symm];refine(hpk _).pthen ?_;simp only[go_sem];refine(hev _).pthen ?_;simp only[go_sem,rsA,aO,ay];exact ag9
theorem NJ{α:Type}(y:AV)(xs:List AV)(ds:List α)(q:α→Bool)(g:FuncId)(cap:List AV)(h:Heap)(hb:Rd h 7 y xs)(hn:xs.length=ds.length)(hl:xs.length≤1000000000)(hx:∀x∈xs,bB x=true)
  (hp:∀i (h1:i<xs.length) (h2:i<ds.length),ai prog g (xs[i]::cap) h fun r h' =>r= .b (q ds[i])∧h' =h):
  ai prog 211 [y,.fn g cap] h fun r h' =>r= .i (ixD q ds)∧h' =h:=by
 refine aw func211 19 [.tmp 4] ?_
 simp only[go_sem,hb.len];refine .intro (fun m ρ h' =>h' =h∧∃i:Nat,i≤xs.length∧m=xs.length - i∧(∀j (hj:j<i) (h2:j<ds.length),q ds[j]=false)∧lk ρ 0=some y∧lk ρ 1=some (.fn g cap)∧lk ρ 7=some (.i xs.length)∧lk ρ 8=some (.i i)) xs.length ?_ ?_
 ·refine⟨rfl,0,afu,rfl,fun j hj=>afu,?_,?_,?_,?_⟩<;>simp only[go_sem]
 ·rintro m ρ h' ⟨rfl,i,hi,rfl,hc,r0,r1,r7,r8⟩
  simp only[go_sem,r7,r8];refine .intro (fun e=>?_) (fun e=>?_)
  ·have hlt:i<xs.length:=afq e
   have hlt2:i<ds.length:=afu;have w1:IntKind.i64.wrap ((i:Int)+1)=((i+1:Nat):Int):=afG;simp only[go_sem,r0,r1,r8];refine hb.idx (e:=134) i rfl hlt afJ afy fun p hp1=>?_
   have hld:=hp1.all (U:=U) (ty:=134) afy agr ahm;simp only[go_sem,hld];refine(show ai prog g (xs[i]::cap) _ _ from hp i hlt hlt2).pthen ?_
   cases d1:q ds[i]
   ·simp only[go_sem,r8,w1]
    refine⟨_,?_,rfl,i+1,afu,rfl,fun j hj h2=>?_,?_,?_,?_,?_⟩
    ·omega
    ·grind
    all_goals simp only[go_sem,r0,r1,r7]
   ·simp only[go_sem]
    exact .same (.refl _) ⟨agh,rfl⟩
  ·have hge:i=xs.length:=by grind
   simp only[go_sem];exact .same (.refl _) ⟨afW,rfl⟩
theorem NH{α:Type}(y:AV)(xs:List AV)(ds:List α)(q:α→Bool)(g:FuncId)(cap:List AV)(h:Heap)(hb:Rd h 3 y xs)(hn:xs.length=ds.length)(hl:xs.length≤1000000000)(hx:∀x∈xs,bB x=true)
  (hp:∀i (h1:i<xs.length) (h2:i<ds.length),ai prog g (xs[i]::cap) h fun r h' =>r= .b (q ds[i])∧h' =h):
  ai prog 162 [y,.fn g cap] h fun r h' =>r= .i (ixD q ds)∧h' =h:=by
 refine aw func162 19 [.tmp 4] ?_
 simp only[go_sem,hb.len];refine .intro (fun m ρ h' =>h' =h∧∃i:Nat,i≤xs.length∧m=xs.length - i∧(∀j (hj:j<i) (h2:j<ds.length),q ds[j]=false)∧lk ρ 0=some y∧lk ρ 1=some (.fn g cap)∧lk ρ 7=some (.i xs.length)∧lk ρ 8=some (.i i)) xs.length ?_ ?_
 ·refine⟨rfl,0,afu,rfl,fun j hj=>afu,?_,?_,?_,?_⟩<;>simp only[go_sem]
 ·rintro m ρ h' ⟨rfl,i,hi,rfl,hc,r0,r1,r7,r8⟩
  simp only[go_sem,r7,r8];refine .intro (fun e=>?_) (fun e=>?_)
  ·have hlt:i<xs.length:=afq e
   have hlt2:i<ds.length:=afu;have w1:IntKind.i64.wrap ((i:Int)+1)=((i+1:Nat):Int):=afG;simp only[go_sem,r0,r1,r8];refine hb.idx (e:=90) i rfl hlt afJ afy fun p hp1=>?_
   have hld:=hp1.all (U:=U) (ty:=90) afy agr ahm;simp only[go_sem,hld];refine(show ai prog g (xs[i]::cap) _ _ from hp i hlt hlt2).pthen ?_
   cases d1:q ds[i]
   ·simp only[go_sem,r8,w1]
    refine⟨_,?_,rfl,i+1,afu,rfl,fun j hj h2=>?_,?_,?_,?_,?_⟩
    ·omega
    ·grind
    all_goals simp only[go_sem,r0,r1,r7]
   ·simp only[go_sem]
    exact .same (.refl _) ⟨agh,rfl⟩
  ·have hge:i=xs.length:=by grind
   simp only[go_sem];exact .same (.refl _) ⟨afW,rfl⟩
theorem KS(y:AV)(ds:List pP)(q:pP→Bool)(g:FuncId)(cap:List AV)(h:Heap)(hb:Rd h 7 y (ds.map gH))(hl:ds.length≤1000000000)
  (hp:∀i (h2:i<ds.length),ai prog g (gH ds[i]::cap) h fun r h' =>r= .b (q ds[i])∧h' =h):
  ai prog 154 [y,.fn g cap] h fun r h' =>r= .b (ds.any q)∧h' =h:=by
 refine aw func154 9 [.tmp 4] ?_
 simp only[go_sem];refine(NJ y _ ds q g cap h hb afB afv (pR (fun _=>rfl) _) fun i a b=>by rw[afk];exact hp i b).pthen ?_
 simp only[go_sem,vu];exact afE
theorem KR(y:AV)(ds:List cE)(q:cE→Bool)(g:FuncId)(cap:List AV)(h:Heap)(hb:Rd h 3 y (ds.map bh))(hl:ds.length≤1000000000)
  (hp:∀i (h2:i<ds.length),ai prog g (bh ds[i]::cap) h fun r h' =>r= .b (q ds[i])∧h' =h):
  ai prog 106 [y,.fn g cap] h fun r h' =>r= .b (ds.any q)∧h' =h:=by
 refine aw func106 9 [.tmp 4] ?_
 simp only[go_sem];refine(NH y _ ds q g cap h hb afB afv (pR (fun _=>rfl) _) fun i a b=>by rw[afk];exact hp i b).pthen ?_
 simp only[go_sem,vu];exact afE
theorem G8(y:AV)(xs:List AV)(ds:List aL)(q:aL→Bool)(g:FuncId)(cap:List AV)(h:Heap)(hb:Rd h 5 y xs)(hn:xs.length=ds.length)(hl:xs.length≤1000000000)(hx:∀x∈xs,bB x=true)
  (hp:∀i (h1:i<xs.length) (h2:i<ds.length),ai prog g (xs[i]::cap) h fun r h' =>r= .b (q ds[i])∧h' =h):
  ai prog 112 [y,.fn g cap] h fun r h' =>r= .b (ds.any q)∧h' =h:=by
 refine aw func112 9 [.tmp 4] ?_
 simp only[go_sem];refine(vP y xs ds q g cap h hb hn hl hx hp).pthen ?_;simp only[go_sem,vu];exact afE
theorem NR(r:pP){k1 k2:Nat}{subj:Txt}(hk1:h k1=some (.obj [.s subj] 9))(hk2:h k2=some (.obj (sL s) 41))(ht:0≤s.tick∧s.tick≤1099511627776)(hr:0≤r.tick∧r.tick≤1099511627776):
  ai prog 155 [gH r,.ptr k1 0,.ptr k2 0] h fun x h' =>x= .b (r.subj==subj && rQ s r)∧h' =h:=by
 have w:IntKind.i64.wrap (s.tick - r.tick)=s.tick - r.tick:=aW _ afu;obtain⟨tick,cs,rv,nt,ro,⟨pid,pset,palg,ptgt,prules,pkids,pobls⟩,ver⟩:=s;simp only[sL]at hk2;simp only at w;refine aw func155 21 [.tmp 4] ?_
 simp only[go_sem,gH];intro i3 h3;have n31:i3≠k1:=fun e=>afv
 have n32:i3≠k2:=fun e=>afv
 cases d1:(r.subj==subj)
 ·simp only[go_sem,ak,n31.symm,hk1,d1]
  exact .mk _ (.refl _) (.aj h3) ⟨rfl,rfl⟩
 cases d2:r.isOpen
 ·simp only[go_sem,ak,n31.symm,hk1,d1]
  exact .mk _ (.refl _) (.aj h3) ⟨by simp only[rQ,d2];rfl,rfl⟩
 ·simp only[go_sem,ak,n31.symm,n32.symm,hk1,hk2,d1,w]
  exact .mk _ (.refl _) (.aj h3) ⟨by simp only[rQ,d2];rfl,rfl⟩
theorem QF(s:an)(subj:Txt)(hn:s.reviews.length≤1000000)(ht:0≤s.tick∧s.tick≤1099511627776)(hr:iK s)(h:Heap):ai prog 97 [bQ s,.s subj] h fun x h' =>x= .b (NS s subj)∧h' =h:=by
 have hl1:=fun(H:Heap) (k1 k2:Nat) (e1:H k1=some (.obj [.s subj] 9)) (e2:H k2=some (.obj (sL s) 41))=>KS (jZ s.reviews) s.reviews (fun r=>r.subj==subj && rQ s r) 155 [.ptr k1 0,.ptr k2 0] H (eP gH 7 (fun _=>rfl) H _) afu fun i h2=>NR _ e1 e2 ht (hr _ (afo h2))
 have hst:=pL s;obtain⟨tick,cs,rv,nt,ro,⟨pid,pset,palg,ptgt,prules,pkids,pobls⟩,ver⟩:=s;rw[hst];simp only[sL]at hl1⊢;refine aw func97 9 [.tmp 4] ?_
 simp only[go_sem];intro i2 h2;simp only[go_sem];intro i3 h3;have n32:=aH h3;have n3:=aA h3;have hs:∀x y,Ab.Sub h (upd (upd h i2 x) i3 y):=fun x y=>((Sub.refl h).put h2 x).put n3 y
 simp only[go_sem,ak,n32.symm];refine(hl1 _ i3 i2 (ah ..) (by grind [ag,ah])).pthen ?_
 simp only[go_sem];exact ag9
theorem J3(s:an)(o:OpD)(m:aV)(hm9:M9 m)(hn:s.reviews.length≤1000000)(hro:s.roles.length≤1000000)(ht:0≤s.tick∧s.tick≤1099511627776)(hr:iK s)(h:Heap):ai prog 44 [bQ s,opA o,aO m] h fun x h' =>x= .b (ud s o m)∧h' =h:=by
 have hla:=fun G=>QF s o.subj hn ht hr G
 have hha:=fun G=>Hg (rdS G s) o.subj C3 afu
 have hbd:ud s o m=(o.glass && (m==cJ||m==naM) && zn s.roles ⟨o.subj,C3⟩ && !NS s o.subj):=rfl
 have de:=(nb hm9).de;have na:=(nb hm9).na;have hst:=pL s;obtain⟨tick,cs,rv,nt,ro,⟨pid,pset,palg,ptgt,prules,pkids,pobls⟩,ver⟩:=s;rw[hst]at hla hha⊢;simp only[sL,C3]at hla hha hbd⊢;refine aw func44 30 [.tmp 6] ?_
 simp only[go_sem,opA,opC,aO];intro i3 h3;simp only[go_sem];intro i4 h4;have n43:=aH h4;have n4:=aA h4;have hs:∀x y,Ab.Sub h (upd (upd h i3 x) i4 y):=fun x y=>((Sub.refl h).put h3 x).put n4 y
 cases dg:o.glass
 ·simp only[go_sem]
  exact .mk _ (.refl _) (hs _ _) ⟨by rw[hbd,dg];rfl,rfl⟩
 cases d1:(m==cJ)<;>cases d2:(m==naM)
 case false.false=>simp only[go_sem,de,na,d1,d2];exact .mk _ (.refl _) (hs _ _) ⟨by rw[hbd,dg,d1,d2];rfl,rfl⟩
 all_goals
  simp only[go_sem,ak,n43.symm,de,na,d1,d2];refine(hha _).pthen ?_;cases dh:zn ro ⟨o.subj,[103,108,97,115,115]⟩
  ·simp only[go_sem]
   exact .mk _ (.refl _) (hs _ _) ⟨by rw[hbd,dg,d1,d2,dh];rfl,rfl⟩
  ·simp only[go_sem,ak,n43.symm]
   refine(hla _).pthen ?_;simp only[go_sem];exact .mk _ (.refl _) (hs _ _) ⟨by rw[hbd,dg,d1,d2,dh];rfl,rfl⟩
theorem KU(x:cE){field:Txt}(hk:h k=some (.obj [.s field] 9)):ai prog 107 [bh x,.ptr k 0] h fun r h' =>r= .b (x.kind==2 && x.arg==field)∧h' =h:=by
 refine aw func107 13 [.tmp 3] ?_
 simp only[go_sem,bh];intro i2 h2;have n2:i2≠k:=fun e=>afv
 cases d1:(x.kind==2)
 all_goals
  simp only[go_sem,ak,n2.symm,hk,d1];exact .mk _ (.refl _) (.aj h2) ⟨rfl,rfl⟩
theorem Ny(l:List cE)(hl:l.length≤1000000000)(field:Txt)(h:Heap):ai prog 48 [ay l,.s field] h fun r h' =>r= .b (kE l field)∧h' =h:=by
 refine aw func48 8 [.tmp 4] ?_
 simp only[go_sem,ay];intro i3 h3;simp only[go_sem];refine(KR (.sl (l.map bh) .no) l (fun x=>x.kind==2 && x.arg==field) _ [.ptr i3 0] _ (eP bh 3 (fun _=>rfl) _ _) hl fun i h2=>KU _ (ah ..)).pthen ?_
 simp only[go_sem];exact .mk _ (.refl _) (.aj h3) ⟨rfl,rfl⟩
theorem On(hb:RdC h x c):ai prog 113 [x] h fun r h' =>r= .b (decide (256<c.log.length))∧h' =h:=by
 obtain⟨f,l,rfl,hf,hl⟩:=hb;have e:decide ((256:Int)<(c.log.length:Int))=decide (256<c.log.length):=by grind
 refine aw func113 7 [.tmp 2] ?_
 simp only[go_sem];intro i1 h1;simp only[go_sem,hl.len,afj,e];exact afM
theorem Oq(hb:RdS h x s)(hc:s.cases.length≤1000000):ai prog 52 [x] h fun r h' =>r= .b (sW s)∧h' =h:=by
 obtain⟨y1,y2,y3,y4,rfl,⟨xs,hx,hn,hcs⟩,h2,h3,h4⟩:=hb;have hod:sW s=(decide (256<s.reviews.length)||decide (256<s.notices.length)||s.cases.any fun c=>decide (256<c.log.length)):=rfl
 have e2:decide ((256:Int)<(s.reviews.length:Int))=decide (256<s.reviews.length):=by grind
 have e3:decide ((256:Int)<(s.notices.length:Int))=decide (256<s.notices.length):=by grind
 have hca:=fun(G:Heap) (hG:Ab.Sub h G)=>G8 y1 xs s.cases (fun c=>decide (256<c.log.length)) 113 [] G (hx.sub hG) hn afu (AR.agg hn hcs) fun i a b=>On ((hcs i a b).sub hG)
 cases hpp:s.policy with
 |mk pid pset palg ptgt prules pkids pobls=>
 refine aw func52 18 [.tmp 2] ?_
 simp only[go_sem,gD,aR,List.cons_append,List.nil_append];intro i1 h1;cases d2:decide (256<s.reviews.length)
 case true=>simp only[go_sem,h2.len,afj,e2,d2];exact .mk _ (.refl _) (.aj h1) ⟨by rw[hod,d2];rfl,rfl⟩
 cases d3:decide (256<s.notices.length)
 case true=>simp only[go_sem,h2.len,h3.len,afj,e2,e3,d2,d3];exact .mk _ (.refl _) (.aj h1) ⟨by rw[hod,d2,d3];rfl,rfl⟩
 simp only[go_sem,h2.len,h3.len,afj,e2,e3,d2,d3];refine(hca _ (.aj h1)).pthen ?_;simp only[go_sem];exact .mk _ (.refl _) (.aj h1) ⟨by rw[hod,d2,d3];rfl,rfl⟩
theorem N2(hb:RdC h x c){o:OpD}(hk:h k=some (.obj (opC o) 50)):ai prog 164 [x,.ptr k 0] h fun r h' =>r= .b (c.id==o.case)∧h' =h:=by
 obtain⟨f,l,rfl,hf,hl⟩:=hb;simp only[opC]at hk;refine aw func164 9 [.tmp 3] ?_
 simp only[go_sem];exact aj3
end Go.Proofs.YtelkmnkejghkeaaGreatDoor
namespace Go.Ab
open Go
theorem OwE.more{tb:TypeId}{g h0 h:Heap}{sz:Nat}{y:AV}{xs:List AV}(hw:OwE tb h0 h sz y xs)(hg:∀id,h0 id=Option.none→h id≠Option.none→g id=Option.none):OwE tb g h sz y xs:=by
 rcases hw with hw|⟨id,e,hw⟩
 ·exact ajt
 ·exact .inr ⟨id,hg _ e hw.none,hw⟩
end Go.Ab
namespace Go.Proofs.YtelkmnkejghkeaaGreatDoor
open Go Go.Ab Go.Bf Tryz
variable {g h0 h H:Heap}{ys:List AV}{x y:AV}{i0 j k:Nat}{s:an}
theorem fH.more{c:aL}(hm:fH h0 h ys x c)(hg:∀id,h0 id=none→h id≠none→g id=none):fH g h ys x c:=by obtain⟨f,l,e,a,b,c⟩:=hm;exact⟨f,l,e,a.more hg,b.more hg,c⟩
theorem mO.more{cs:List aL}(ho:mO h0 h ys y cs i0)(hg:∀id,h0 id=none→h id≠none→g id=none):mO g h ys y cs i0:=by obtain⟨xs,a,b,c,d⟩:=ho;exact⟨xs,a.more hg,b,c,fun h1 h2=>(d h1 h2).more hg⟩
theorem OwR.more{rs:List gL}(hr:OwR h0 h y rs)(hg:∀id,h0 id=none→h id≠none→g id=none):OwR g h y rs:=by
 rcases hr with hr|hr
 ·exact .inl hr
 ·exact .inr (hr.more hg)
theorem jb.more{y1 y2 y3 y4:AV}(ho:jb h0 h y1 y2 y3 y4 s j)(hg:∀id,h0 id=none→h id≠none→g id=none):jb g h y1 y2 y3 y4 s j:=
 {ho with cs:=ho.cs.more hg,rv:=ho.rv.more hg,nt:=ho.nt.more hg,rl:=ho.rl.more hg}
def GSt(g H:Heap)(k:Nat)(s:an)(j:Nat):Prop:=∃y1 y2 y3 y4,H k=some (.obj (stC s y1 y2 y3 y4) 41)∧jb g H y1 y2 y3 y4 s j∧g k≠none∧∀i b,i≠k→g i=some b→H i=some b
theorem GSt.box(hG:GSt g H k s j){i:Nat}(hi:H i=none)(b:Blk):GSt (upd g i (some b)) (upd H i (some b)) k s j:=by
 obtain⟨y1,y2,y3,y4,hk,ho,hgk,hfr⟩:=hG;refine⟨y1,y2,y3,y4,af8,(ho.more (g:=upd g i (some b)) fun id h0 hne=>?_).keep fun id _ hne=>ag _ _ fun e=>hne afv,af8,fun q c hq hc=>?_⟩
 ·grind [ag]
 grind [ah,ag]
theorem GSt.unbox{i:Nat}{b:Blk}(hG:GSt (upd g i (some b)) H k s j)(hi:i≠k)(hgi:g i=none):GSt g H k s j∧H i=some b:=by
 obtain⟨y1,y2,y3,y4,hk,ho,hgk,hfr⟩:=hG;refine⟨⟨y1,y2,y3,y4,hk,ho.bP fun q hq=>?_,af8,fun q c hq hc=>hfr q c hq ?_⟩,hfr i b hi (ah ..)⟩
 ·grind [ag]
 grind [ag]
theorem GSt.base(hG:GSt g H k s j):∃G,Ab.Sub G H∧(∀i,G i=none↔g i=none)∧∀i,i≠k→G i=g i:=by
 obtain⟨y1,y2,y3,y4,hk,ho,hgk,hfr⟩:=hG;refine⟨upd g k (H k),fun i b hi=>?_,fun i=>?_,fun i hi=>ag _ _ hi⟩
 ·grind [ah,ag]
 grind [ah,ag]
theorem GSt.rd(hG:GSt g H k s j):∃y1 y2 y3 y4,H k=some (.obj (stC s y1 y2 y3 y4) 41)∧RdS H (.agg (stC s y1 y2 y3 y4)) s:=by obtain⟨y1,y2,y3,y4,hk,ho,_⟩:=hG;exact⟨y1,y2,y3,y4,hk,ho.rd⟩
theorem Fa(hG:GSt g H k s j)(o:OpD)(w:Txt)(hk64:i64 o.kind)(hn:s.reviews.length≤1000000000):
  ai prog 46 [.ptr k 0,opA o,.s w] H fun r H' =>GSt g H' k (bT s o w) j:=by
 obtain⟨G,sG,nG,oG⟩:=hG.base;obtain⟨y1,y2,y3,y4,hk,ho,hgk,hfr⟩:=hG;have ho2:jb G H y1 y2 y3 y4 s j:=ho.bP fun i hi=>(nG i).2 hi
 have w1:IntKind.i64.wrap ((s.reviews.length:Int)+1)=(s.reviews.length:Int)+1:=aW _ afu;obtain⟨pid,pset,palg,ptgt,prules,pkids,pobls,hpp⟩:∃a b c d e f g,s.policy= .mk a b c d e f g:=by cases s.policy;simp
 have hst:∀z,stC (bT s o w) y1 z y3 y4= [.i s.tick,y1,z,y3,y4,.s pid,.b pset,.i palg,aU ptgt,.sl (prules.map aC) .no,.sl (pkids.map aM) .no,ay pobls,.i s.version]:=fun z=>by simp[stC,bT,hpp,gD,aR]
 have hst0:stC s y1 y2 y3 y4= [.i s.tick,y1,y2,y3,y4,.s pid,.b pset,.i palg,aU ptgt,.sl (prules.map aC) .no,.sl (pkids.map aM) .no,ay pobls,.i s.version]:=aji;rw[hst0]at hk;refine aw func46 34 [] ?_
 simp only[go_sem,opA,opC];intro i4 h4;have n4k:i4≠k:=fun e=>afv
 simp only[go_sem];obtain⟨K,eK⟩:∃K,upd H i4 (some (.obj [.i o.kind,.s o.subj,.s o.case,.s o.field,.s o.to,.i o.val.kind,.i o.val.n,.s o.val.s,.i o.review,.s o.text,.s o.reason,.b o.glass] 50))=K:=⟨_,rfl⟩;have sK:Ab.Sub H K:=by rw[←eK];exact .aj h4
 have k4:K i4=some (.obj [.i o.kind,.s o.subj,.s o.case,.s o.field,.s o.to,.i o.val.kind,.i o.val.n,.s o.val.s,.i o.review,.s o.text,.s o.reason,.b o.glass] 50):=by rw[←eK,ah]
 have kk:=sK _ _ hk;have hoK:jb G K y1 y2 y3 y4 s j:=ho2.keep fun id _ hne=>by rw[←eK];grind [ag]
 rw[eK];have p4:=(bE (H:=K) (l:=[k,i4]) (show i4∈ [k,i4] by simp)).trans k4
 have pk:=(bE (H:=K) (l:=[k,i4]) (show k∈ [k,i4] by simp)).trans kk
 refine .stage (pick K [k,i4]) [0,1,2,3,4,5,6,7,8,9,10,11,12,13,14,15,16,17,18,19,20,22,21,23,24,25,26,27] [28] bW afx ?_;simp only[go_sem,pk,p4,hoK.rv.rd.len,afj,w1];refine(vr o.kind hk64 _).pthen ?_;refine⟨bW,?_⟩;simp only[go_sem];have hap1:Rd K 7 (.sl [gH (Cf s o w)] .full) [gH (Cf s o w)]:=.sl age .full;refine OwE.app (U:=U) (tb:=134) hoK.rv (sG.trans sK) hap1 afJ afy afy afJ afB af4 fun id y' K2 hid hor how hoth=>?_
 have hor' :K id=none∨nid y2=some id:=by
  rcases hor with hor|⟨l,c,ey⟩
  ·grind
  ·exact .inr ai0
 have nik:k≠id:=fun e=>hgk ((nG k).1 afv)
 have ni4:i4≠id:=by
  rcases hor' with hor|hor
  ·grind
  ·exact fun e=>(ho2.rv.nid hor).2.1 afv
 have m4:=(hoth i4 ni4).trans k4;have mk:=(hoth k nik).trans kk;refine⟨jj fun q hq=>?_,?_⟩
 ·grind
 simp only[go_sem];refine⟨cY,fun _ _ e=>afT,?_⟩
 simp only[go_sem,mk,how.rd.fit,how.rd.cells];refine⟨fun _ _ e=>afT,?_⟩
 refine .same (.refl _) ⟨y1,y',y3,y4,ajn,jb.bP (h0:=G) ?_ fun i hi=>(nG i).1 hi,hgk,fun i b hi hb=>?_⟩
 ·refine hoK.revs (rs:=s.reviews++ [Cf s o w]) (.inr ⟨id,hid,by rw[List.map_append];exact how.same (ag _ _ nik.symm)⟩) (fun q hq=>?_) fun q hq hne hz=>?_
  ·have:id=q:=by have:=how.nid;rw[hq]at this;exact(Option.some.inj this).symm
   rw[←this];exact hor'
  grind [ag]
 ·have n2:i≠id:=fun e=>by grind
  rw[ag _ _ hi,hoth i n2];exact sK _ _ (hfr i b hi hb)
end Go.Proofs.YtelkmnkejghkeaaGreatDoor
namespace Go.Bf
open Go Go.Ab Go.Proofs.YtelkmnkejghkeaaGreatDoor
theorem EX{s:an}{o:OpD}{w:Txt}(h:¬(jg s.cases o.case<s.cases.length∧o.kind≠6)):iS s o w=s:=by simp_all [iS,if_neg]
theorem N3{s:an}{o:OpD}{w:Txt}{j:Nat}(h1:jg s.cases o.case<s.cases.length)(h2:o.kind≠6)(e:jg s.cases o.case=j):iS s o w= {s with cases:=s.cases.modify j fun c=>jL s c o.subj w}:=by simp_all [iS,if_pos]
end Go.Bf
namespace Go.Proofs.YtelkmnkejghkeaaGreatDoor
open Go Go.Ab Go.Bf Tryz
theorem N4{g H:Heap}{k:Nat}{s:an}{j:Nat}(hG:GSt g H k s j)(o:OpD)(w:Txt)(hc:s.cases.length≤1000000)(hl:∀c∈s.cases,c.log.length≤1000000000)(hj:jg s.cases o.case<s.cases.length→o.kind≠6→j=jg s.cases o.case):
  ai prog 111 [.ptr k 0,opA o,.s w] H fun r H' =>GSt g H' k (iS s o w) j:=by
 obtain⟨G,sG,nG,oG⟩:=hG.base;obtain⟨y1,y2,y3,y4,hk,ho,hgk,hfr⟩:=hG;have ho2:jb G H y1 y2 y3 y4 s j:=ho.bP fun i hi=>(nG i).2 hi
 obtain⟨pid,pset,palg,ptgt,prules,pkids,pobls,hpp⟩:∃a b c d e f g,s.policy= .mk a b c d e f g:=by cases s.policy;exact⟨_,_,_,_,_,_,_,rfl⟩
 have hst0:stC s y1 y2 y3 y4= [.i s.tick,y1,y2,y3,y4,.s pid,.b pset,.i palg,aU ptgt,.sl (prules.map aC) .no,.sl (pkids.map aM) .no,ay pobls,.i s.version]:=aji;rw[hst0]at hk;refine aw func111 44 [] ?_
 simp only[go_sem,opA,opC];intro i4 h4;have n4k:i4≠k:=fun e=>by rw[e,hk]at h4;cases h4
 obtain⟨K,eK⟩:∃K,upd H i4 (some (.obj [.i o.kind,.s o.subj,.s o.case,.s o.field,.s o.to,.i o.val.kind,.i o.val.n,.s o.val.s,.i o.review,.s o.text,.s o.reason,.b o.glass] 50))=K:=⟨_,rfl⟩;have sK:Ab.Sub H K:=by rw[←eK];exact .aj h4
 have k4:K i4=some (.obj [.i o.kind,.s o.subj,.s o.case,.s o.field,.s o.to,.i o.val.kind,.i o.val.n,.s o.val.s,.i o.review,.s o.text,.s o.reason,.b o.glass] 50):=by rw[←eK,ah]
 have kk:=sK _ _ hk;have hoK:jb G K y1 y2 y3 y4 s j:=ho2.keep fun id _ hne=>by rw[←eK];exact ag _ _ fun e=>hne (by rw[e];exact h4)
 have hfin:GSt g K k s j:=⟨y1,y2,y3,y4,by rw[hst0];exact kk,hoK.bP fun i hi=>(nG i).1 hi,hgk,fun i b hi hb=>sK _ _ (hfr i b hi hb)⟩
 have hix:ai prog 139 [y1,.fn 164 [.ptr i4 0]] K fun r h' =>r= .i (ixD (fun c:aL=>c.id==o.case) s.cases)∧h' =K:=by obtain⟨xs,hx,hn,hcs⟩:=hoK.cs.rd;exact vP y1 xs s.cases (fun c=>c.id==o.case) _ [.ptr i4 0] K hx hn afu (AR.agg hn hcs) fun i a b=>N2 (hcs i a b) k4
 have hcsK:=hoK.cs;have n4G:∀id,G id=none→K id≠none→id≠i4→H id=K id:=fun id _ _ h=>by rw[←eK,ag _ _ h]
 simp only[go_sem,ak,n4k.symm,hk];rw[eK];refine hix.pthen ?_
 by_cases hx:jg s.cases o.case<s.cases.length
 case neg=>
  have e1:ixD (fun c:aL=>c.id==o.case) s.cases= -1:=if_neg hx
  have d1:decide ((-1:Int)<0)=true:=rfl;rw[e1];simp only[go_sem,d1];exact .same (.refl _) (by rw[EX fun h=>hx h.1];exact hfin)
 have e1:ixD (fun c:aL=>c.id==o.case) s.cases=(jg s.cases o.case:Nat):=if_pos hx
 have d1:decide (((jg s.cases o.case:Nat):Int)<0)=false:=decide_eq_false afu;rw[e1];cases d6:(o.kind==6)
 case true=>
  have h6:o.kind=6:=by simpa using d6
  simp only[go_sem,d1,k4,d6];exact .same (.refl _) (by rw[EX fun h=>h.2 h6];exact hfin)
 have h6:o.kind≠6:=by simpa using d6
 have hjj:=hj hx h6;have hlo:=N3 (w:=w) hx h6 hjj.symm;have hjc:j<s.cases.length:=by rw[hjj];exact hx
 rw[←hjj]at d1⊢;rw[hlo];obtain⟨xs,w1,hnx,hlw,hmy⟩:=hcsK;have hjx:j<xs.length:=afu;obtain⟨f,l,ex,of,ol,hap,hys⟩:=hmy hjx hjc;obtain⟨id1,hg1,o1⟩:=w1.ow aip;have o1' :=o1;obtain⟨cap,rest,ey,hid,hrl,hcap,hsz⟩:=o1';have lA:j*5=(au (xs.take j)).length:=agC;have hidK:K id1=some (.obj (au (xs.take j)++(cp s.cases[j] f l++(au (xs.drop (j+1))++rest))) 120):=by rw[hid,CZ hjx,ex];simp[cp,AV.cells]
 have n1k:id1≠k:=mK o1 kk afy;have n14:id1≠i4:=mK o1 k4 afy;have hll:=hl _ (afo hjc);have p4:=(bE (H:=K) (l:=[k,i4,id1]) (show i4∈ [k,i4,id1] by simp)).trans k4
 have pk:=(bE (H:=K) (l:=[k,i4,id1]) (show k∈ [k,i4,id1] by simp)).trans kk
 have p1:=(bE (H:=K) (l:=[k,i4,id1]) (show id1∈ [k,i4,id1] by simp)).trans hidK
 have hc4:(au (xs.take j)++(cp s.cases[j] f l++(au (xs.drop (j+1))++rest)))[j*5+4]? =some l:=by rw[lA,List.getElem?_append_right afu,Nat.add_sub_cancel_left];rfl
 obtain⟨CS,eCS⟩:∃CS,au (xs.take j)++(cp s.cases[j] f l++(au (xs.drop (j+1))++rest))=CS:=⟨_,rfl⟩;rw[eCS]at hc4 p1 hidK;simp only[go_sem,d1,k4,d6,kk];refine o1.idx (U:=U) (e:=120) j rfl hjx oH afy ?_;simp only[go_sem];refine .stage (pick K [k,i4,id1]) [0,1,2,3,4,5,6,7,8,9,10,11,12,13,14,15,16] [17] bW afx ?_;simp only[go_sem,pk,p4,p1,hc4];have hap1:Rd K 3 (.sl [gC ⟨s.tick,o.subj,w⟩] .full) [gC ⟨s.tick,o.subj,w⟩]:=.sl age .full;refine OwE.app (U:=U) (tb:=186) ol (sG.trans sK) hap1 afF afy afz afF afB af4 fun id2 y' K2 g2 hor how hoth=>?_
 have hor' :K id2=none∨nid l=some id2:=by exact akn
 have n2:∀ {q b t},K q=some (.obj b t)→t≠186→q≠id2:=fun {q b t} hq ht e=>by
  rcases hor' with h|h
  ·rw[e,h]at hq;cases hq
  ·exact mK (ol.nid h).2.2 hq ht e.symm
 have m4:=(hoth i4 (n2 k4 afy)).trans k4;have mk:=(hoth k (n2 kk afy)).trans kk;have m1:=(hoth id1 (n2 hidK afy)).trans hidK;refine⟨jj fun q hq=>?_,?_⟩
 ·simp only[List.mem_cons,List.not_mem_nil,or_false]at hq
  rcases hq with rfl|rfl|rfl
  ·rw[mk,kk]
  ·rw[m4,k4]
  ·rw[m1,hidK]
 simp only[go_sem];refine⟨cY,fun _ _ e=>afT,?_⟩
 simp only[go_sem,m1,how.rd.fit,how.rd.cells];have e5:List.take (j*5+4) CS++ [y']++List.drop (j*5+4+1) CS=au (xs.take j)++(cp s.cases[j] f y' ++(au (xs.drop (j+1))++rest)):=by
  have:=qi (A:=au (xs.take j)++ [.s s.cases[j].id,.s s.cases[j].owner,.s s.cases[j].state,f]) (B:=[l]) (C:=au (xs.drop (j+1))++rest) (X:=[y']) (k:=j*5+4) (m:=1) (by rw[lA];simp) rfl rfl
  exact alp
 rw[e5];refine⟨by rw[←eCS];simp only[afn,←lA,cp,List.length_cons,List.length_nil];omega,(fun _ _ e=>afT),?_⟩
 obtain⟨F,eF⟩:∃F,upd K2 id1 (some (.obj (au (xs.take j)++(cp s.cases[j] f y' ++(au (xs.drop (j+1))++rest))) 120))=F:=⟨_,rfl⟩;have kF:∀q,q≠id1→q≠id2→F q=K q:=fun q a b=>by rw[←eF,ag _ _ a,hoth q b]
 have kF' :∀q,K q≠none→q≠id1→nid l≠some q→F q=K q:=fun q a b c=>kF q b fun e=>by
  rcases hor' with h|h
  ·exact a (by rw[e];exact h)
  ·exact c (by rw[e];exact h)
 have hF1:F id1=some (.obj (au (xs.take j)++(cp s.cases[j] f y' ++(au (xs.drop (j+1))++rest))) 120):=by rw[←eF,ah]
 have n12:id1≠id2:=n2 hidK afy;have hX5:Sized 5 (xs.set j (.agg (cp s.cases[j] f y'))):=fun z hz=>by exact akv
 have hOw:Ow 120 F 5 id1 y1 (xs.set j (.agg (cp s.cases[j] f y'))):=⟨cap,rest,ahM,by rw[hF1,ur hjx];simp[AV.cells],aiF,ahF,hX5⟩
 have hl' :OwE 186 G F 3 y' ((s.cases[j].log++ [(⟨s.tick,o.subj,w⟩:vo)]).map gC):=by rw[List.map_append];exact .inr ⟨id2,g2,how.same (by rw[←eF,ag _ _ n12.symm])⟩
 have hny:∀q,nid y' =some q→q=id2:=fun q hq=>by have:=how.nid;rw[hq]at this;exact Option.some.inj this
 have nf1:nid f≠some id1:=fun e=>(hys y1 afB).1 id1 e o1.nid
 have hof:OwE 196 G F 4 f (s.cases[j].fields.map bA):=of.keep fun q e=>kF' q (of.nid e).2.1 (fun e' =>nf1 (by rw[←e'];exact e)) (hap q e)
 have hnid:∀ {y:AV},y∈ [y1,y2,y3,y4]→∀q,nid y=some q→K q≠none:=fun hy q e=>(hoK.mem hy e).2
 have hap2:∀ {y:AV},y∈ [y1,y2,y3,y4]→apart y' y:=fun {y} hy q e1 e2=>by
  have:=hny q e1;subst this;rcases hor' with h|h
  ·exact hnid hy _ e2 h
  ·exact(hys y hy).2 _ h e2
 have hkp:∀ {y:AV},y∈ [y2,y3,y4]→apart y1 y→∀q,nid y=some q→F q=K q:=fun {y} hy ha q e=>by have hy' :y∈ [y1,y2,y3,y4]:=List.mem_cons_of_mem _ hy;refine kF' q (hnid hy' q e) (fun e' =>ha id1 o1.nid (by rw[←e'];exact e)) fun e' =>(hys y hy').2 q e' e
 rw[eF];refine .same (.refl _) ⟨y1,y2,y3,y4,?_,jb.bP (h0:=G) ?_ fun i hi=>(nG i).1 hi,hgk,fun i b hi hb=>?_⟩
 ·rw[kF k n1k.symm (n2 kk afy),kk]
  simp[stC,hpp,gD,aR]
 ·refine⟨Dl (X:=.agg (cp s.cases[j] f y')) (.inr ⟨id1,hg1,hOw⟩) hnx (fun q h1 h2 hq=>hlw q h1 h2 hq) fun hh=>⟨f,y',rfl,hof,hl',fun q e1 e2=>?_,fun y hy=>⟨(hys y hy).1,hap2 hy⟩⟩,hoK.rv.keep (hkp afB hoK.a12),hoK.nt.keep (hkp afB hoK.a13),hoK.rl.keep (hkp afB hoK.a14),hoK.a12,hoK.a13,hoK.a14,hoK.a23,hoK.a24,hoK.a34⟩
  have:=hny q e2;subst this;rcases hor' with h|h
  ·exact(of.nid e1).2.1 h
  ·exact hap _ e1 h
 ·have hGi:G i=some b:=by rw[oG i hi];exact hb
  rw[kF i (fun e=>by rw[e,hg1]at hGi;cases hGi) (fun e=>by rw[e,g2]at hGi;cases hGi)]
  exact sK _ _ (hfr i b hi hb)
end Go.Proofs.YtelkmnkejghkeaaGreatDoor
namespace Go.Bf
open Go Go.Ab Go.Proofs.YtelkmnkejghkeaaGreatDoor
variable {B:Nat}{s:an}{o:OpD}{x:cE}{done:Bool}
def sR(B:Nat)(s:an):Prop:=(∀c∈s.cases,c.log.length≤B)∧s.reviews.length≤B∧s.notices.length≤B
theorem sR.up{C:Nat}(h:sR B s)(hc:B≤C):sR C s:=⟨fun c hcc=>Nat.le_trans (h.1 c hcc) hc,Nat.le_trans h.2.1 hc,Nat.le_trans h.2.2 hc⟩
theorem KK(o:OpD)(done:Bool)(x:cE)(h:sR B s):sR (B+1) (fA o done s x):=by
 unfold fA;split
 ·unfold iS
  split
  ·refine⟨fun c hc=>?_,Nat.le_succ_of_le h.2.1,Nat.le_succ_of_le h.2.2⟩
   rcases mem_modify hc with hc|⟨hi,rfl⟩
   ·exact Nat.le_succ_of_le (h.1 c hc)
   ·have:=h.1 _ (afo hi)
    simp only[jL,afn,List.length_singleton];omega
  ·exact h.up afu
 ·split
  ·refine⟨fun c hc=>Nat.le_succ_of_le (h.1 c hc),?_,Nat.le_succ_of_le h.2.2⟩
   have:=h.2.1;simp only[bT,afn,List.length_singleton];omega
  ·split
   ·refine⟨fun c hc=>Nat.le_succ_of_le (h.1 c hc),Nat.le_succ_of_le h.2.1,?_⟩
    have:=h.2.2;simp only[afn,List.length_singleton];omega
   ·exact h.up afu
theorem wY(o:OpD)(done:Bool):∀(l:List cE) {B:Nat} {s:an},sR B s→sR (B+l.length) (dI s o l done)
 | [],B,s,h=>h
 |x::l,B,s,h=>(wY o done l (KK o done x h)).up afv
theorem Ea(s:an)(o:OpD)(done:Bool){l:List cE}{i:Nat}(h:i<l.length):dI s o (l.take (i+1)) done=fA o done (dI s o (l.take i) done) l[i]:=by grind [dI,List.take_succ_eq_append_getElem]
theorem xg(o:OpD)(done:Bool)(id:Txt):∀(l:List cE) (s:an),jg (dI s o l done).cases id=jg s.cases id∧(dI s o l done).cases.length=s.cases.length
 | [],s=>⟨rfl,rfl⟩
 |x::l,s=>by obtain⟨a1,a2⟩:=KZ o done s x id;obtain⟨b1,b2⟩:=xg o done id l (fA o done s x);exact⟨b1.trans a1,b2.trans a2⟩
theorem Ki(h:x.kind=1):fA o true s x=iS s o x.arg:=by unfold fA;grind
theorem GD(h:x.kind=3):fA o done s x=bT s o x.arg:=by simp_all [fA,if_neg,if_pos]
theorem GF(h:x.kind=4):fA o done s x= {s with notices:=s.notices++ [⟨s.tick,o.case,x.arg⟩]}:=by simp_all [fA,if_neg,if_pos]
theorem Eb(h1:¬(x.kind=1∧done=true))(h3:x.kind≠3)(h4:x.kind≠4):fA o done s x=s:=by simp_all [fA,if_neg]
end Go.Bf
namespace Go.Proofs.YtelkmnkejghkeaaGreatDoor
open Go Go.Ab Go.Bf Tryz
theorem GA{g H:Heap}{k:Nat}{s:an}{j:Nat}(hG:GSt g H k s j)(o:OpD)(hk64:i64 o.kind)(l:List cE)(hll:l.length≤100000000)(done:Bool)(hc:s.cases.length≤1000000)(hgr:sR 1000 s)(hj:done=true→jg s.cases o.case<s.cases.length→o.kind≠6→j=jg s.cases o.case):
  ai prog 51 [.ptr k 0,opA o,ay l,.b done] H fun r H' =>GSt g H' k (dI s o l done) j:=by
 have hkn:H k≠none:=by obtain⟨y1,y2,y3,y4,hk,_⟩:=hG;rw[hk];simp
 refine aw func51 60 [] ?_
 simp only[go_sem,opA,opC,ay];intro i5 h5;have n5k:i5≠k:=fun e=>hkn (by rw[←e];exact h5)
 have hg5:g i5=none:=by
  obtain⟨y1,y2,y3,y4,hk,ho,hgk,hfr⟩:=hG;cases hh:g i5 with
  |none=>rfl
  |some b=>have:=hfr i5 b n5k hh;rw[h5]at this;cases this
 have hG5:=hG.box h5 (.obj [.i o.kind,.s o.subj,.s o.case,.s o.field,.s o.to,.i o.val.kind,.i o.val.n,.s o.val.s,.i o.review,.s o.text,.s o.reason,.b o.glass] 50);obtain⟨g5,eg5⟩:∃g5,upd g i5 (some (.obj [.i o.kind,.s o.subj,.s o.case,.s o.field,.s o.to,.i o.val.kind,.i o.val.n,.s o.val.s,.i o.review,.s o.text,.s o.reason,.b o.glass] 50))=g5:=⟨_,rfl⟩;have g55:g5 i5=some (.obj [.i o.kind,.s o.subj,.s o.case,.s o.field,.s o.to,.i o.val.kind,.i o.val.n,.s o.val.s,.i o.review,.s o.text,.s o.reason,.b o.glass] 50):=by rw[←eg5,ah]
 rw[eg5]at hG5;have hback:∀ {H' :Heap} {s' :an},GSt g5 H' k s' j→GSt g H' k s' j:=fun {H' s'} h=>by rw[←eg5]at h;exact(h.unbox n5k hg5).1
 have hgk5:g5 k≠none:=by obtain⟨_,_,_,_,_,_,h,_⟩:=hG5;exact h
 simp only[go_sem,afj];refine .intro (fun m ρ H2=>∃i:Nat,GSt g5 H2 k (dI s o (l.take i) done) j∧i≤l.length∧m=l.length - i∧lk ρ 0=some (.ptr k 0)∧lk ρ 3=some (.b done)∧lk ρ 5=some (.ptr i5 0)∧lk ρ 10=some (.sl (l.map bh) .no)∧lk ρ 11=some (.i l.length)∧lk ρ 12=some (.i i)) l.length ?_ ?_
 ·refine⟨0,hG5,afu,rfl,?_,?_,?_,?_,?_,?_⟩<;>simp only[go_sem]
 ·rintro m ρ H2 ⟨i,hS,hi,rfl,r0,r3,r5,r10,r11,r12⟩
  simp only[go_sem,r11,r12];refine .intro (fun e=>?_) (fun e=>?_)
  ·have hlt:i<l.length:=afq e
   have w1:=afp i afu;have hsn:=Ea s o done hlt;have hgi:=wY o done (l.take i) hgr;have hgi:sR 1000000000 (dI s o (l.take i) done):=hgi.up ag5;obtain⟨hix,hcl⟩:=xg o done o.case (l.take i) s;have ix:=fun k=>fF.eq (xs:=l.map bh) (sz:=3) i afQ afD k
   rw[afk]at ix;obtain⟨x,ex⟩:∃x,l[i]=x:=⟨_,rfl⟩;rw[ex]at ix hsn;obtain⟨t,et⟩:∃t,dI s o (l.take i) done=t:=⟨_,rfl⟩;rw[et]at hS hsn hgi hix hcl;have hjt:done=true→jg t.cases o.case<t.cases.length→o.kind≠6→j=jg t.cases o.case:=fun a b c=>by rw[hix]at b⊢;rw[hcl]at b;exact hj a b c
   simp only[bh]at ix;simp only[go_sem,r10,r12,ix];intro i9 h9;have kkn:H2 k≠none:=by obtain⟨y1,y2,y3,y4,hk,_⟩:=hS;rw[hk];simp
   have n9k:i9≠k:=fun e=>kkn (by rw[←e];exact h9)
   have hg9:g5 i9=none:=by
    obtain⟨y1,y2,y3,y4,hk,ho,hgk,hfr⟩:=hS;cases hh:g5 i9 with
    |none=>rfl
    |some b=>have:=hfr i9 b n9k hh;rw[h9]at this;cases this
   have n95:i9≠i5:=fun e=>by rw[e,g55]at hg9;cases hg9
   have k5:H2 i5=some (.obj [.i o.kind,.s o.subj,.s o.case,.s o.field,.s o.to,.i o.val.kind,.i o.val.n,.s o.val.s,.i o.review,.s o.text,.s o.reason,.b o.glass] 50):=by obtain⟨_,_,_,_,_,_,_,hfr⟩:=hS;exact hfr i5 _ n5k g55
   have hS9:=hS.box h9 (.obj [.i x.on,.i x.kind,.s x.arg] 90);have hb9:∀ {H' :Heap} {s' :an},GSt (upd g5 i9 (some (.obj [.i x.on,.i x.kind,.s x.arg] 90))) H' k s' j→GSt g5 H' k s' j:=fun {H' s'} h=>(h.unbox n9k hg9).1
   have hlog:=fun(hd:done=true)=>N4 hS9 o x.arg (by rw[hcl];exact hc) hgi.1 (hjt hd)
   have hopen:=Fa hS9 o x.arg hk64 hgi.2.1;simp only[opA,opC]at hlog hopen;cases a1:(x.kind==1)
   case true=>
    have e1:x.kind=1:=by simpa using a1
    have a3:(x.kind==3)=false:=by rw[e1];rfl
    have a4:(x.kind==4)=false:=by rw[e1];rfl
    cases done
    ·simp only[go_sem,r3,r12,a1,a3,a4,w1]
     refine⟨_,?_,i+1,by rw[hsn,Eb (fun h=>by cases h.2) (by rw[e1];decide) (by rw[e1];decide)];exact hb9 hS9,afu,rfl,?_,?_,?_,?_,?_,?_⟩
     ·omega
     all_goals simp only[go_sem,r0,r3,r5,r10,r11]
    ·simp only[go_sem,r0,r3,r5,a1,ak,n95.symm,k5]
     refine(hlog rfl).mono fun r H3 h3=>?_
     simp only[go_sem,r12,w1];refine⟨_,?_,i+1,by rw[hsn,Ki e1];exact hb9 h3,afu,rfl,?_,?_,?_,?_,?_,?_⟩
     ·omega
     all_goals simp only[go_sem,r0,r3,r5,r10,r11]
   have e1:¬(x.kind=1∧done=true):=fun h=>by rw[h.1]at a1;cases a1
   cases a3:(x.kind==3)
   case true=>
    have e3:x.kind=3:=by simpa using a3
    simp only[go_sem,r0,r5,a1,a3,ak,n95.symm,k5];refine hopen.mono fun r H3 h3=>?_
    simp only[go_sem,r12,w1];refine⟨_,?_,i+1,by rw[hsn,GD e3];exact hb9 h3,afu,rfl,?_,?_,?_,?_,?_,?_⟩
    ·omega
    all_goals simp only[go_sem,r0,r3,r5,r10,r11]
   have e3:x.kind≠3:=by simpa using a3
   cases a4:(x.kind==4)
   case false=>
    have e4:x.kind≠4:=by simpa using a4
    simp only[go_sem,r12,a1,a3,a4,w1];refine⟨_,?_,i+1,by rw[hsn,Eb e1 e3 e4];exact hb9 hS9,afu,rfl,?_,?_,?_,?_,?_,?_⟩
    ·omega
    all_goals simp only[go_sem,r0,r3,r5,r10,r11]
   have e4:x.kind=4:=by simpa using a4
   rw[GF e4]at hsn;obtain⟨G,sG,nG,oG⟩:=hS9.base;obtain⟨y1,y2,y3,y4,kk,ho,hgk,hfr⟩:=hS9;obtain⟨K,eK⟩:∃K,upd H2 i9 (some (.obj [.i x.on,.i x.kind,.s x.arg] 90))=K:=⟨_,rfl⟩;have k9:K i9=some (.obj [.i x.on,.i x.kind,.s x.arg] 90):=by rw[←eK,ah]
   have k5' :K i5=some (.obj [.i o.kind,.s o.subj,.s o.case,.s o.field,.s o.to,.i o.val.kind,.i o.val.n,.s o.val.s,.i o.review,.s o.text,.s o.reason,.b o.glass] 50):=by rw[←eK,ag _ _ n95.symm];exact k5
   rw[eK]at sG kk ho hfr;have hoK:jb G K y1 y2 y3 y4 t j:=ho.bP fun i hi=>(nG i).2 hi
   obtain⟨pid,pset,palg,ptgt,prules,pkids,pobls,hpp⟩:∃a b c d e f g,t.policy= .mk a b c d e f g:=by cases t.policy;exact⟨_,_,_,_,_,_,_,rfl⟩
   have hst:∀z (n:List DG),stC {t with notices:=n} y1 y2 z y4= [.i t.tick,y1,y2,z,y4,.s pid,.b pset,.i palg,aU ptgt,.sl (prules.map aC) .no,.sl (pkids.map aM) .no,ay pobls,.i t.version]:=fun z n=>aji
   have hst0:stC t y1 y2 y3 y4= [.i t.tick,y1,y2,y3,y4,.s pid,.b pset,.i palg,aU ptgt,.sl (prules.map aC) .no,.sl (pkids.map aM) .no,ay pobls,.i t.version]:=aji;rw[hst0]at kk;have p9:=(bE (H:=K) (l:=[k,i5,i9]) (show i9∈ [k,i5,i9] by simp)).trans k9
   have p5:=(bE (H:=K) (l:=[k,i5,i9]) (show i5∈ [k,i5,i9] by simp)).trans k5'
   have pk:=(bE (H:=K) (l:=[k,i5,i9]) (show k∈ [k,i5,i9] by simp)).trans kk
   simp only[go_sem,a1,a3,a4];rw[eK];refine .stage (pick K [k,i5,i9]) [0,1,2,3,4,5,6,7,8,9,10,11,12,13,14,15,16,17] [18] bW afx ?_;simp only[go_sem,r0,r5,pk,p5,p9];have hap1:Rd K 3 (.sl [kL ⟨t.tick,o.case,x.arg⟩] .full) [kL ⟨t.tick,o.case,x.arg⟩]:=.sl age .full;have hnl:=hgi.2.2;refine OwE.app (U:=U) (tb:=137) hoK.nt sG hap1 afF afy afz afF afB af4 fun id y' K2 hid hor how hoth=>?_
   have hor' :K id=none∨nid y3=some id:=by exact akn
   have n2:∀ {q b t},K q=some (.obj b t)→t≠137→q≠id:=fun {q b t} hq ht e=>by
    rcases hor' with h|h
    ·rw[e,h]at hq;cases hq
    ·exact mK (hoK.nt.nid h).2.2 hq ht e.symm
   have m9:=(hoth i9 (n2 k9 afy)).trans k9;have m5:=(hoth i5 (n2 k5' afy)).trans k5';have nik:=n2 kk afy;have mk:=(hoth k nik).trans kk;refine⟨jj fun q hq=>?_,?_⟩
   ·simp only[List.mem_cons,List.not_mem_nil,or_false]at hq
    rcases hq with rfl|rfl|rfl
    ·rw[mk,kk]
    ·rw[m5,k5']
    ·rw[m9,k9]
   simp only[go_sem];refine⟨cY,fun _ _ e=>afT,?_⟩
   simp only[go_sem,r12,mk,how.rd.fit,how.rd.cells];refine⟨fun _ _ e=>afT,?_⟩
   simp only[go_sem,w1];obtain⟨F,eF⟩:∃F,upd K2 k (some (.obj [.i t.tick,y1,y2,y',y4,.s pid,.b pset,.i palg,aU ptgt,.sl (prules.map aC) .no,.sl (pkids.map aM) .no,ay pobls,.i t.version] 41))=F:=⟨_,rfl⟩;have Fk:F k=(some (.obj [.i t.tick,y1,y2,y',y4,.s pid,.b pset,.i palg,aU ptgt,.sl (prules.map aC) .no,.sl (pkids.map aM) .no,ay pobls,.i t.version] 41)):=by rw[←eF,ah]
   have Fo:∀q,q≠k→F q=K2 q:=fun q hq=>by rw[←eF,ag _ _ hq]
   have hoz:OwE 137 G F 3 y' ((t.notices++ [(⟨t.tick,o.case,x.arg⟩:DG)]).map kL):=by rw[List.map_append];exact .inr ⟨id,hid,how.same (Fo id nik.symm)⟩
   have hop:jb G F y1 y2 y' y4 {t with notices:=t.notices++ [⟨t.tick,o.case,x.arg⟩]} j:=by
    refine jb.nots (h:=K) (h' :=F) hoK hoz (fun q hq=>?_) fun q hq hne hz=>?_
    ·have:id=q:=by have:=how.nid;rw[hq]at this;exact(Option.some.inj this).symm
     rw[←this];exact hor'
    ·have n1:q≠k:=fun e=>hgk ((nG k).1 (by rw[←e];exact hq))
     have n2:q≠id:=fun e=>by
      rcases hor' with h|h
      ·exact hne (by rw[e];exact h)
      ·exact hz (by rw[e];exact h)
     rw[Fo q n1,hoth q n2]
   have hgs:GSt (upd g5 i9 (some (.obj [.i x.on,.i x.kind,.s x.arg] 90))) F k {t with notices:=t.notices++ [⟨t.tick,o.case,x.arg⟩]} j:=by
    refine⟨y1,y2,y',y4,by rw[Fk,hst],jb.bP hop fun i hi=>(nG i).1 hi,hgk,fun i b hi hb=>?_⟩
    have n2:i≠id:=fun e=>by have:=(nG id).1 hid;rw[←e,hb]at this;cases this
    rw[Fo i hi,hoth i n2];exact hfr i b hi hb
   rw[←eF]at hgs;refine⟨_,?_,i+1,by rw[hsn];exact hb9 hgs,afu,rfl,?_,?_,?_,?_,?_,?_⟩
   ·omega
   all_goals simp only[go_sem,r0,r3,r5,r10,r11]
  ·have hge:i=l.length:=by have:=afm e;omega
   subst hge;rw[List.take_length]at hS;simp only[go_sem];exact .same (.refl _) (hback hS)
theorem Qs(s:an)(hf:Few s)(h:Heap):ai prog 45 [bQ s] h fun r h' =>∃y1 y2 y3,r= .agg (stC s y1 y2 y3 (eu s.roles))∧jb h h' y1 y2 y3 (eu s.roles) s s.cases.length∧Ab.Sub h h' :=by
 have hst:=pL s;have hsc:∀y1 y2 y3,stC s y1 y2 y3 (eu s.roles)=stC s y1 y2 y3 (eu s.roles):=fun _ _ _=>rfl
 have hfc:=hf.cases;have hfg:=hf.log;have hfr:=hf.reviews;have hfn:=hf.notices;obtain⟨tick,cs,rv,nt,ro,⟨pid,pset,palg,ptgt,prules,pkids,pobls⟩,ver⟩:=s;simp only at hfc hfg hfr hfn;rw[hst];simp only[sL,fT,jZ,kM,eu,aR];refine aw func45 35 [.cell 2 41] ?_
 simp only[go_sem];intro i1 h1;simp only[go_sem];intro i2 h2;have n21:=aH h2;have n2:=aA h2;simp only[go_sem];obtain⟨H,eH⟩:∃H,upd (upd h i1 (some (.obj [.i tick,.sl (cs.map cr) .no,.sl (rv.map gH) .no,.sl (nt.map kL) .no,.sl (ro.map dF) .no,.s pid,.b pset,.i palg,aU ptgt,.sl (prules.map aC) .no,.sl (pkids.map aM) .no,ay pobls,.i ver] 41))) i2 (some (.obj [.i 0,.sl [] .full,.sl [] .full,.sl [] .full,.sl [] .full,.s [],.b false,.i 0,.sl [] .full,.sl [] .full,.sl [] .full,.sl [] .full,.i 0] 41))=H:=⟨_,rfl⟩;have hH:Ab.Sub h H:=agw;have g1:H i1=some (.obj [.i tick,.sl (cs.map cr) .no,.sl (rv.map gH) .no,.sl (nt.map kL) .no,.sl (ro.map dF) .no,.s pid,.b pset,.i palg,aU ptgt,.sl (prules.map aC) .no,.sl (pkids.map aM) .no,ay pobls,.i ver] 41):=ag8;have g2:H i2=some (.obj [.i 0,.sl [] .full,.sl [] .full,.sl [] .full,.sl [] .full,.s [],.b false,.i 0,.sl [] .full,.sl [] .full,.sl [] .full,.sl [] .full,.i 0] 41):=agZ;rw[eH];clear eH;refine .stage (hm1 i1 (.obj [.i tick,.sl (cs.map cr) .no,.sl (rv.map gH) .no,.sl (nt.map kL) .no,.sl (ro.map dF) .no,.s pid,.b pset,.i palg,aU ptgt,.sl (prules.map aC) .no,.sl (pkids.map aM) .no,ay pobls,.i ver] 41)) [0,1,3,4,6,7,2,9,5,8] [10,11,12,13,14] (.hm1 g1) afx ?_;simp only[go_sem,gG];refine(wO _ (rv.map gH) H (eP gH 7 (fun _=>rfl) _ _) afv).mono fun z2 H1 ⟨o2,s1⟩=>?_
 refine⟨.hm1 (s1 _ _ g1),?_⟩;simp only[go_sem];refine(wN _ (nt.map kL) H1 (eP kL 3 (fun _=>rfl) _ _) afv).mono fun z3 H2 ⟨o3,s2⟩=>?_
 refine⟨.hm1 (s2 _ _ (s1 _ _ g1)),?_⟩;simp only[go_sem];refine(Bv _ (cs.map cr) H2 (eP cr 5 (fun _=>rfl) _ _) afv).mono fun z1 H3 ⟨o1,s3⟩=>?_
 have s03:Ab.Sub H H3:=s1.trans (s2.trans s3);have q1' :=s03 _ _ g1;have q2' :=s03 _ _ g2;refine⟨.hm1 q1',cY,(fun _ _ e=>afT),?_⟩
 simp only[go_sem,q1',o1.rd.fit,o1.rd.cells,o2.rd.fit,o2.rd.cells,o3.rd.fit,o3.rd.cells];refine⟨fun _ _ e=>afT,fun _ _ e=>afT,fun _ _ e=>afT,?_⟩
 obtain⟨M,eM⟩:∃M,upd H3 i1 (some (.obj [.i tick,z1,z2,z3,.sl (ro.map dF) .no,.s pid,.b pset,.i palg,aU ptgt,.sl (prules.map aC) .no,.sl (pkids.map aM) .no,ay pobls,.i ver] 41))=M:=⟨_,rfl⟩;have oM:∀q,q≠i1→M q=H3 q:=fun q hq=>by rw[←eM,ag _ _ hq]
 have m1:M i1=some (.obj [.i tick,z1,z2,z3,.sl (ro.map dF) .no,.s pid,.b pset,.i palg,aU ptgt,.sl (prules.map aC) .no,.sl (pkids.map aM) .no,ay pobls,.i ver] 41):=by rw[←eM,ah]
 have m2:=(oM i2 n21).trans q2';have hM:Ab.Sub h M:=by rw[←eM];exact(hH.trans s03).put h1 _
 have new:∀ {tb:TypeId} {z:AV} {xs:List AV} {n:Nat} {g:Heap},OwE tb g H3 n z xs→Ab.Sub H g→OwE tb h M n z xs:=fun w hg=>(w.less (hH.trans hg)).keep fun id e=>oM id (cO (w.nid e).1 (hg _ _ g1))
 have w1:=new o1 (s1.trans s2);have w2:=new (o2.sub (s2.trans s3)) (.refl _);have w3:=new (o3.sub s3) s1;have a12:apart z1 z2:=(eO o1 (o2.there s2.some)).symm;have a13:apart z1 z3:=(eO o1 (o3.there fun k hk=>hk)).symm
 have a23:apart z2 z3:=eO o3 (o2.there fun k hk=>hk)
 simp only[go_sem,o1.rd.len,afj];rw[eM];have h12:i1≠i2:=n21.symm;refine .intro (fun m ρ G=>∃i:Nat,Ab.Sub M G∧i≤cs.length∧m=cs.length - i∧lk ρ 1=some (.ptr i1 0)∧lk ρ 2=some (.ptr i2 0)∧lk ρ 18=some z1∧lk ρ 19=some (.i cs.length)∧lk ρ 20=some (.i i)) cs.length ?_ ?_
 ·refine⟨0,.refl _,afu,rfl,?_,?_,?_,?_,?_⟩<;>simp only[go_sem]
 ·rintro m ρ G ⟨i,hs,hi,rfl,r1,r2,r18,r19,r20⟩
  have v1:=w1.sub hs;simp only[go_sem,r19,r20];refine .intro (fun e=>?_) (fun e=>?_)
  ·have hlt:i<cs.length:=afq e
   have w1' :IntKind.i64.wrap ((i:Int)+1)=((i+1:Nat):Int):=afG;have hfl:=hfg _ (afo hlt);have hxi:(cs.map cr)[i]'afv=cr cs[i]:=afk ..;simp only[go_sem,r18,r20];refine v1.rd.idx (U:=U) (e:=120) i rfl afv oH afy fun p hp1=>?_
   have hld:=hp1.all (U:=U) (ty:=120) afy (by rw[oH,hxi];rfl) (by simp only[go_sem];rw[hxi];rfl)
   obtain⟨c,ec⟩:∃c,cs[i]=c:=⟨_,rfl⟩;rw[hxi,ec]at hld;rw[ec]at hfl hxi;simp only[cr,om,gS,tE]at hld;simp only[go_sem,hld];intro i4 h4;have k1:=hs _ _ m1;have n41:i4≠i1:=cO h4 k1;obtain⟨G4,eG4⟩:∃G4,upd G i4 (some (.obj [.s c.id,.s c.owner,.s c.state,.sl (c.fields.map bA) .no,.sl (c.log.map gC) .no] 120))=G4:=⟨_,rfl⟩;have sG:Ab.Sub G G4:=aiP;have p1:=sG _ _ k1;have p4:G4 i4=some (.obj [.s c.id,.s c.owner,.s c.state,.sl (c.fields.map bA) .no,.sl (c.log.map gC) .no] 120):=by rw[←eG4,ah]
   simp only[go_sem];rw[eG4];refine .stage (hm2 i1 (.obj [.i tick,z1,z2,z3,.sl (ro.map dF) .no,.s pid,.b pset,.i palg,aU ptgt,.sl (prules.map aC) .no,.sl (pkids.map aM) .no,ay pobls,.i ver] 41) i4 (.obj [.s c.id,.s c.owner,.s c.state,.sl (c.fields.map bA) .no,.sl (c.log.map gC) .no] 120)) [0,1,2,3,4,5,6,7] [8] (.hm2 p1 p4) afx ?_;simp only[go_sem,r1,su _ _ n41.symm,sv];refine(xS _ (c.log.map gC) G4 (eP gC 3 (fun _=>rfl) _ _) afv (bn (fun _=>rfl) _)).pthen ?_
   refine⟨.hm2 p1 p4,?_⟩;simp only[go_sem];obtain⟨id1,hg1,u1⟩:=(v1.sub sG).ow afv;refine u1.idx (U:=U) (e:=120) i rfl afv oH afy ?_;simp only[go_sem];refine⟨cY,(fun _ _ e=>afT),?_⟩
   have u1' :=u1;obtain⟨cap,rest,ey,hid,hr,hcap,hsz⟩:=u1';have hbd:i*5+5≤(au (cs.map cr)++rest).length:=by grind [afn,aY,afj]
   have e5:List.take (i*5+4) (au (cs.map cr)++rest)++ [.sl (c.log.map gC) .no]++List.drop (i*5+4+1) (au (cs.map cr)++rest)=au (cs.map cr)++rest:=by refine(kP hsz i afv 4 [.sl (c.log.map gC) .no] (afi rfl)).trans ?_;rw[pK];rw[List.getElem?_eq_getElem afv,hxi];rfl
   simp only[go_sem,r20,hid];rw[e5,tN hid];refine⟨afu,(fun _ _ e=>afT),?_⟩
   simp only[go_sem,w1'];refine⟨_,?_,i+1,hs.trans sG,afu,rfl,?_,?_,?_,?_,?_⟩
   ·omega
   all_goals simp only[go_sem,r1,r2,r18,r19]
  ·have hge:i=cs.length:=by grind
   have k1:=hs _ _ m1;have k2:=hs _ _ m2;have n21' :i2≠i1:=n21;simp only[go_sem,r1,r2,k1,k2];have kp:∀b q,h q=none→M q≠none→q≠i2→upd G i2 b q=M q:=fun b q a c d=>by
    rw[ag _ _ d];cases hh:M q with
    |none=>grind
    |some b=>exact hs _ _ hh
   have ne2:∀ {tb:TypeId} {z:AV} {xs:List AV} {n:Nat},OwE tb h M n z xs→tb≠41→∀q,nid z=some q→q≠i2:=fun w ht q e=>mK (w.nid e).2.2 m2 ht.symm
   refine .mk _ (.refl _) (.refl _) ⟨z1,z2,z3,by simp[stC,gD,aR]<;>rfl,⟨⟨cs.map cr,w1.keep fun q e=>kp _ q (w1.nid e).1 (w1.nid e).2.1 (ne2 w1 afy q e),afB,fun j a b _=>afk ..,fun a b=>absurd b (Nat.lt_irrefl _)⟩,w2.keep fun q e=>kp _ q (w2.nid e).1 (w2.nid e).2.1 (ne2 w2 afy q e),w3.keep fun q e=>kp _ q (w3.nid e).1 (w3.nid e).2.1 (ne2 w3 afy q e),.inl rfl,a12,a13,fun q _ e=>afT,a23,fun q _ e=>afT,fun q _ e=>afT⟩,(hM.trans hs).put n2 _⟩
end Go.Proofs.YtelkmnkejghkeaaGreatDoor
namespace Go.Bf
open Go Go.Ab Go.Proofs.YtelkmnkejghkeaaGreatDoor
def mF(r:iJ):List AV:=[.i r.err,aO r.mark,.b r.glass,.i r.val.kind,.i r.val.n,.s r.val.s,.b r.hidden,.i r.at_]
def vC(d:qM):List AV:=opC d.op++ [.i d.version,aO d.mark,.b d.glass,ay d.obls]
def oJ:List AV:=[.i 0,.v (.complex .f64 0 0),.b false,.i 0,.i 0,.s [],.b false,.i 0]
def kD(x:an×iJ×qM×Int):AV:=.tup [bQ x.1,.agg (mF x.2.1),.agg (vC x.2.2.1),.i x.2.2.2]
theorem BH{cs ds:List aL}(h:ds.map (·.id)=cs.map (·.id))(id:Txt):findD ds id=findD cs id:=by
 have e:∀l:List aL,findD l id=(l.map (·.id)).findIdx fun x=>geB x id:=fun l=>by rw[List.findIdx_map];rfl
 rw[e,e,h]
theorem Nv(id:Txt):geB id id=true:=by
 have:Op.bytesLess id id=false:=by simpa[lt]using lt_irrefl id
 simp[geB,this]
theorem Kh{s:an}{o:OpD}(hr:bL s o=0):findD (dX aS s o).cases o.case=findD s.cases o.case:=by
 unfold dX;rw[if_pos hr];unfold doD
 by_cases k1:o.kind=1
 ·simp only[k1,if_true]
  obtain⟨f,ef⟩:∃f,findD s.cases o.case=f:=⟨_,rfl⟩;have hf:f≤s.cases.length:=by rw[←ef];exact List.findIdx_le_length
  rw[ef];refine(List.findIdx_eq afv).2 ⟨?_,fun j hj=>?_⟩
  ·have:((List.take f s.cases++ [jL s ⟨o.case,o.subj,jY,[],[]⟩ o.subj [110,101,119]]++List.drop f s.cases)[f]?)=some (jL s ⟨o.case,o.subj,jY,[],[]⟩ o.subj [110,101,119]):=by grind
   rw[(List.getElem_eq_iff _).2 this];exact Nv _
  ·have hj2:j<s.cases.length:=by omega
   have:((List.take f s.cases++ [jL s ⟨o.case,o.subj,jY,[],[]⟩ o.subj [110,101,119]]++List.drop f s.cases)[j]?)=some s.cases[j]:=by grind
   rw[(List.getElem_eq_iff _).2 this];have h3:j<s.cases.findIdx fun c=>geB c.id o.case:=by grind [findD]
   simpa using List.not_of_lt_findIdx h3
 ·by_cases k3:o.kind=3
  ·simp only[k3,show¬(3:Int)=1 by decide,if_false,if_true]
   exact BH (lu (f:=fun c=>jL s {c with fields:=eR c.fields o.field o.val} o.subj [119,114,105,116,101]) (g:=fun c:aL=>c.id) fun c=>rfl) _
  ·by_cases k4:o.kind=4
   ·simp only[k4,show¬(4:Int)=1 by decide,show¬(4:Int)=3 by decide,if_false,if_true]
    exact BH (lu (f:=fun c=>jL s {c with state:=o.to} o.subj o.to) (g:=fun c:aL=>c.id) fun c=>rfl) _
   grind
theorem Qk{k:Nat}{s:an}{o:OpD}(h:dP k s)(hr:bL s o=0)(hx:jg (dX aS s o).cases o.case<(dX aS s o).cases.length):findD s.cases o.case=jg (dX aS s o).cases o.case:=by rw[←Kh hr];exact Ho (qB o h).asc hx
theorem Lt{t:Txt}(h:(aS t).2.1=0):(aS t).2.2=0:=by
 unfold aS at h⊢;cases hl:qg t with
 |bad e a=>rw[hl]at h;simp only at h;have:=(uC hl).1;omega
 |ok ts=>
  simp only[zW]at h⊢
  grind
end Go.Bf
namespace Go.Proofs.YtelkmnkejghkeaaGreatDoor
open Go Go.Ab Go.Bf Tryz
variable {g h H:Heap}{S s:an}{k j:Nat}
theorem Lw(c:aL):cN (cr c)=true:=by simp[cr,om,cN,gO,gS,tE,bn (f:=bA) (fun _=>rfl),bn (f:=gC) (fun _=>rfl)]
theorem TL(s:an):Frz g h (bQ s) (bQ s):=by
 have:=vJ (g:=g) (h:=h) (s:=s) (y1:=fT s.cases) (y2:=jZ s.reviews) (y3:=kM s.notices) (y4:=eu s.roles) (.pure (by grind [fT,cN,bn,Lw])) (.pure (by simp only[jZ,cN];exact bn (fun _=>rfl) _)) (.pure (by simp only[kM,cN];exact bn (fun _=>rfl) _)) (.pure (by simp only[eu,cN];exact bn (fun _=>rfl) _))
 exact agc
theorem Nt(l:List cE)(q:Perm):Frz g h (.sl (l.map bh) q) (ay l):=.sl _ _ _ rfl afu fun i h1 h2 j h3 h4=>by refine .pure ?_;have:cN (l.map bh)[i]=true:=afD;exact oE this _ afB
theorem BJ{x:AV}(r:iJ)(d:qM)(e:Int)(a:Frz g h x (bQ S))(q:Perm):Frz g h (.tup [x,.agg (mF r),.agg (opC d.op++ [.i d.version,aO d.mark,.b d.glass,.sl (d.obls.map bh) q]),.i e]) (kD (S,r,d,e)):=by
 refine .tup _ _ rfl fun i h1 h2=>?_
 rcases i with _|_|_|_|i
 ·exact a
 ·exact afO
 ·refine .agg _ _ afJ fun j h3 h4=>?_
  rcases j with _|_|_|_|_|_|_|_|_|_|_|_|_|_|_|_|j
  ·exact afO
  ·exact afO
  ·exact afO
  ·exact afO
  ·exact afO
  ·exact afO
  ·exact afO
  ·exact afO
  ·exact afO
  ·exact afO
  ·exact afO
  ·exact afO
  ·exact afO
  ·exact afO
  ·exact afO
  ·exact Nt d.obls q
  ·simp[opC]at h3;omega
 ·exact afO
 grind
theorem GSt.put(hG:GSt g H k s j){i:Nat}(hi:i≠k)(hgi:g i≠none)(b:Blk):GSt (upd g i (some b)) (upd H i (some b)) k s j:=by
 obtain⟨y1,y2,y3,y4,hk,ho,hgk,hfr⟩:=hG;refine⟨y1,y2,y3,y4,af8,(ho.more (g:=upd g i (some b)) fun q hq _=>af8).keep fun q hq _=>ag _ _ fun e=>?_,af8,fun q c hq hc=>?_⟩
 ·grind [ah]
 grind [ah,ag]
theorem GSt.at(hG:GSt g H k s j){i:Nat}{b:Blk}(hi:i≠k)(hb:g i=some b):H i=some b:=by
 obtain⟨_,_,_,_,_,_,_,hfr⟩:=hG
 grind
theorem GSt.sub{f:Heap}(hG:GSt g H k s j)(hs:Ab.Sub f g)(hk:f k=none):Ab.Sub f H:=fun i b hi=>by obtain⟨_,_,_,_,_,_,_,hfr⟩:=hG;exact hfr i b afv (hs i b hi)
theorem GSt.same{H':Heap}(hG:GSt g H k s j)(hs:Ab.Sub H H'):GSt g H' k s j:=by
 obtain⟨y1,y2,y3,y4,hk,ho,hgk,hfr⟩:=hG;exact⟨y1,y2,y3,y4,hs _ _ hk,ho.keep fun q _ hne=>by
  cases hh:H q with
  |none=>grind
  |some b=>exact hs _ _ hh,hgk,fun i b hi hb=>hs _ _ (hfr i b hi hb)⟩
theorem se{pid:Txt}{pset:Bool}{palg:Int}{ptgt:gu}{prules:List cR}{pkids:List bC}{pobls:List cE}(hpp:s.policy= .mk pid pset palg ptgt prules pkids pobls)(y1 y2 y3 y4:AV):stC s y1 y2 y3 y4= [.i s.tick,y1,y2,y3,y4,.s pid,.b pset,.i palg,.sl (ptgt.map cC) .no,.sl (prules.map aC) .no,.sl (pkids.map aM) .no,.sl (pobls.map bh) .no,.i s.version]:=by simp[stC,hpp,gD,aR,aU,ay]
theorem OB(p:bC):∃a b c d e f g,p= .mk a b c d e f g:=by cases p;simp
theorem nI(s:an)(hG:fG k s)(hk:k≤1000)(o:OpD)(ho:mN o)(h:Heap)(he:jt h):ai prog 14 [bQ s,opA o] h fun r h' =>r=kD (aE s o)∧h' =h:=
 ai.freeze fun g hg _=>by
 replace he:=he.sub hg;obtain⟨pid,pset,palg,ptgt,prules,pkids,pobls,hpp⟩:∃a b c d e f g,s.policy= .mk a b c d e f g:=by cases s.policy;exact⟨_,_,_,_,_,_,_,rfl⟩
 have hst:bQ s= .agg [.i s.tick,.sl (s.cases.map cr) .no,.sl (s.reviews.map gH) .no,.sl (s.notices.map kL) .no,.sl (s.roles.map dF) .no,.s pid,.b pset,.i palg,.sl (ptgt.map cC) .no,.sl (prules.map aC) .no,.sl (pkids.map aM) .no,.sl (pobls.map bh) .no,.i s.version]:=by simp[bQ,gD,hpp,fT,jZ,kM,eu,aR,aU,ay]
 rw[hst];refine ai.of_wp hU func14 rfl afx 131 rfl [.cell 4 41,.cell 5 57,.cell 6 59,.tmp 7] rfl (afi rfl) ?_;refine .one hU hm ?_;simp only[go_sem,opA,opC];intro i2 h2;simp only[go_sem];obtain⟨H2,e2⟩:∃H2,upd g i2 (some (.obj [.i s.tick,.sl (s.cases.map cr) .no,.sl (s.reviews.map gH) .no,.sl (s.notices.map kL) .no,.sl (s.roles.map dF) .no,.s pid,.b pset,.i palg,.sl (ptgt.map cC) .no,.sl (prules.map aC) .no,.sl (pkids.map aM) .no,.sl (pobls.map bh) .no,.i s.version] 41))=H2:=⟨_,rfl⟩;have s2:Ab.Sub g H2:=by rw[←e2];exact .aj h2
 have b2:H2 i2=some (.obj [.i s.tick,.sl (s.cases.map cr) .no,.sl (s.reviews.map gH) .no,.sl (s.notices.map kL) .no,.sl (s.roles.map dF) .no,.s pid,.b pset,.i palg,.sl (ptgt.map cC) .no,.sl (prules.map aC) .no,.sl (pkids.map aM) .no,.sl (pobls.map bh) .no,.i s.version] 41):=by rw[←e2,ah]
 have q2:g i2=none:=h2;have sg:Ab.Sub g H2:=s2;rw[e2];clear e2;intro i3 h3;simp only[go_sem];obtain⟨H3,e3⟩:∃H3,upd H2 i3 (some (.obj [.i o.kind,.s o.subj,.s o.case,.s o.field,.s o.to,.i o.val.kind,.i o.val.n,.s o.val.s,.i o.review,.s o.text,.s o.reason,.b o.glass] 50))=H3:=⟨_,rfl⟩;have s3:Ab.Sub H2 H3:=by rw[←e3];exact .aj h3
 have n3_2:i3≠i2:=fun e=>by rw[e,b2]at h3;cases h3
 replace b2:=s3 _ _ b2;have b3:H3 i3=some (.obj [.i o.kind,.s o.subj,.s o.case,.s o.field,.s o.to,.i o.val.kind,.i o.val.n,.s o.val.s,.i o.review,.s o.text,.s o.reason,.b o.glass] 50):=by rw[←e3,ah]
 have q3:g i3=none:=sg.none h3;have sg:Ab.Sub g H3:=sg.trans s3;rw[e3];clear e3;intro i4 h4;simp only[go_sem];obtain⟨H4,e4⟩:∃H4,upd H3 i4 (some (.obj [.i 0,.sl [] .full,.sl [] .full,.sl [] .full,.sl [] .full,.s [],.b false,.i 0,.sl [] .full,.sl [] .full,.sl [] .full,.sl [] .full,.i 0] 41))=H4:=⟨_,rfl⟩;have s4:Ab.Sub H3 H4:=by rw[←e4];exact .aj h4
 have n4_2:i4≠i2:=fun e=>by rw[e,b2]at h4;cases h4
 have n4_3:i4≠i3:=fun e=>by rw[e,b3]at h4;cases h4
 replace b2:=s4 _ _ b2;replace b3:=s4 _ _ b3;have b4:H4 i4=some (.obj [.i 0,.sl [] .full,.sl [] .full,.sl [] .full,.sl [] .full,.s [],.b false,.i 0,.sl [] .full,.sl [] .full,.sl [] .full,.sl [] .full,.i 0] 41):=by rw[←e4,ah]
 have q4:g i4=none:=sg.none h4;have sg:Ab.Sub g H4:=sg.trans s4;rw[e4];clear e4;intro i5 h5;simp only[go_sem];obtain⟨H5,e5⟩:∃H5,upd H4 i5 (some (.obj [.i 0,.v (.complex .f64 0 0),.b false,.i 0,.i 0,.s [],.b false,.i 0] 57))=H5:=⟨_,rfl⟩;have s5:Ab.Sub H4 H5:=by rw[←e5];exact .aj h5
 have n5_2:i5≠i2:=fun e=>by rw[e,b2]at h5;cases h5
 have n5_3:i5≠i3:=fun e=>by rw[e,b3]at h5;cases h5
 have n5_4:i5≠i4:=fun e=>by rw[e,b4]at h5;cases h5
 replace b2:=s5 _ _ b2;replace b3:=s5 _ _ b3;replace b4:=s5 _ _ b4;have b5:H5 i5=some (.obj [.i 0,.v (.complex .f64 0 0),.b false,.i 0,.i 0,.s [],.b false,.i 0] 57):=by rw[←e5,ah]
 have q5:g i5=none:=sg.none h5;have sg:Ab.Sub g H5:=sg.trans s5;rw[e5];clear e5;intro i6 h6;simp only[go_sem];obtain⟨H6,e6⟩:∃H6,upd H5 i6 (some (.obj [.i 0,.s [],.s [],.s [],.s [],.i 0,.i 0,.s [],.i 0,.s [],.s [],.b false,.i 0,.v (.complex .f64 0 0),.b false,.sl [] .full] 59))=H6:=⟨_,rfl⟩;have s6:Ab.Sub H5 H6:=by rw[←e6];exact .aj h6
 have n6_2:i6≠i2:=fun e=>by rw[e,b2]at h6;cases h6
 have n6_3:i6≠i3:=fun e=>by rw[e,b3]at h6;cases h6
 have n6_4:i6≠i4:=fun e=>by rw[e,b4]at h6;cases h6
 have n6_5:i6≠i5:=fun e=>by rw[e,b5]at h6;cases h6
 replace b2:=s6 _ _ b2;replace b3:=s6 _ _ b3;replace b4:=s6 _ _ b4;replace b5:=s6 _ _ b5;have b6:H6 i6=some (.obj [.i 0,.s [],.s [],.s [],.s [],.i 0,.i 0,.s [],.i 0,.s [],.s [],.b false,.i 0,.v (.complex .f64 0 0),.b false,.sl [] .full] 59):=by rw[←e6,ah]
 have q6:g i6=none:=sg.none h6;have sg:Ab.Sub g H6:=sg.trans s6;rw[e6];clear e6;refine WP.OW hU hm 0 (fun(_:Nat) (ρ:Env) (H' :Heap)=>∃(e a:Int),Ab.Sub g H'∧H' i2=some (.obj [.i s.tick,.sl (s.cases.map cr) .no,.sl (s.reviews.map gH) .no,.sl (s.notices.map kL) .no,.sl (s.roles.map dF) .no,.s pid,.b pset,.i palg,.sl (ptgt.map cC) .no,.sl (prules.map aC) .no,.sl (pkids.map aM) .no,.sl (pobls.map bh) .no,.i s.version] 41)∧H' i4=some (.obj [.i 0,.sl [] .full,.sl [] .full,.sl [] .full,.sl [] .full,.s [],.b false,.i 0,.sl [] .full,.sl [] .full,.sl [] .full,.sl [] .full,.i 0] 41)∧H' i5=some (.obj [.i 0,.v (.complex .f64 0 0),.b false,.i 0,.i 0,.s [],.b false,.i 0] 57)∧H' i6=some (.obj [.i 0,.s [],.s [],.s [],.s [],.i 0,.i 0,.s [],.i 0,.s [],.s [],.b false,.i 0,.v (.complex .f64 0 0),.b false,.sl [] .full] 59)∧lk ρ 2=some (.ptr i2 0)∧lk ρ 4=some (.ptr i4 0)∧lk ρ 5=some (.ptr i5 0)∧lk ρ 6=some (.ptr i6 0)∧lk ρ 12=some (.i e)∧lk ρ 13=some (.i a)∧aE s o=(s,⟨e,naM,false,aq,false,a⟩,yE,e)) rfl ?_ ?_
 ·rintro m ρ H' ⟨e,a,sg',b2,b4,b5,b6,r2,r4,r5,r6,r12,r13,hgd⟩
  refine .vc hU hm ?_;simp only[go_sem,r2,r4,r5,r6,r12,r13,b2,b4,b5,b6,ak,n5_4,n5_4.symm,n6_4,n6_4.symm,n6_5,n6_5.symm];refine .mk _ (.refl _) (.refl _) ⟨((sg'.put q4 _).put q5 _).put q6 _,_,?_,rfl⟩;rw[hgd];exact BJ (S:=s) ⟨e,naM,false,aq,false,a⟩ yE e (by rw[←hst];exact TL s) .full
 intro _;refine .one hU hm ?_;simp only[go_sem];intro i8 h8;simp only[go_sem];obtain⟨H8,e8⟩:∃H8,upd H6 i8 (some (.obj [.v (.complex .f64 0 0),.sl [] .full] 103))=H8:=⟨_,rfl⟩;have s8:Ab.Sub H6 H8:=by rw[←e8];exact .aj h8
 have n8_2:i8≠i2:=fun e=>by rw[e,b2]at h8;cases h8
 have n8_3:i8≠i3:=fun e=>by rw[e,b3]at h8;cases h8
 have n8_4:i8≠i4:=fun e=>by rw[e,b4]at h8;cases h8
 have n8_5:i8≠i5:=fun e=>by rw[e,b5]at h8;cases h8
 have n8_6:i8≠i6:=fun e=>by rw[e,b6]at h8;cases h8
 replace b2:=s8 _ _ b2;replace b3:=s8 _ _ b3;replace b4:=s8 _ _ b4;replace b5:=s8 _ _ b5;replace b6:=s8 _ _ b6;have b8:H8 i8=some (.obj [.v (.complex .f64 0 0),.sl [] .full] 103):=by rw[←e8,ah]
 have q8:g i8=none:=sg.none h8;have sg:Ab.Sub g H8:=sg.trans s8;rw[e8];clear e8;refine .one hU hm ?_;simp only[go_sem];intro i9 h9;simp only[go_sem];obtain⟨H9,e9⟩:∃H9,upd H8 i9 (some (.obj [.i 0,.v (.complex .f64 0 0),.b false,.i 0,.i 0,.s [],.b false,.i 0] 57))=H9:=⟨_,rfl⟩;have s9:Ab.Sub H8 H9:=by rw[←e9];exact .aj h9
 have n9_2:i9≠i2:=fun e=>by rw[e,b2]at h9;cases h9
 have n9_3:i9≠i3:=fun e=>by rw[e,b3]at h9;cases h9
 have n9_4:i9≠i4:=fun e=>by rw[e,b4]at h9;cases h9
 have n9_5:i9≠i5:=fun e=>by rw[e,b5]at h9;cases h9
 have n9_6:i9≠i6:=fun e=>by rw[e,b6]at h9;cases h9
 have n9_8:i9≠i8:=fun e=>by rw[e,b8]at h9;cases h9
 replace b2:=s9 _ _ b2;replace b3:=s9 _ _ b3;replace b4:=s9 _ _ b4;replace b5:=s9 _ _ b5;replace b6:=s9 _ _ b6;replace b8:=s9 _ _ b8;have b9:H9 i9=some (.obj [.i 0,.v (.complex .f64 0 0),.b false,.i 0,.i 0,.s [],.b false,.i 0] 57):=by rw[←e9,ah]
 have q9:g i9=none:=sg.none h9;have sg:Ab.Sub g H9:=sg.trans s9;rw[e9];clear e9;refine .one hU hm ?_;simp only[go_sem];intro i10 h10;simp only[go_sem];obtain⟨H10,e10⟩:∃H10,upd H9 i10 (some (.obj [.i 0,.sl [] .full,.sl [] .full,.sl [] .full,.sl [] .full,.s [],.b false,.i 0,.sl [] .full,.sl [] .full,.sl [] .full,.sl [] .full,.i 0] 41))=H10:=⟨_,rfl⟩;have s10:Ab.Sub H9 H10:=by rw[←e10];exact .aj h10
 have n10_2:i10≠i2:=fun e=>by rw[e,b2]at h10;cases h10
 have n10_3:i10≠i3:=fun e=>by rw[e,b3]at h10;cases h10
 have n10_4:i10≠i4:=fun e=>by rw[e,b4]at h10;cases h10
 have n10_5:i10≠i5:=fun e=>by rw[e,b5]at h10;cases h10
 have n10_6:i10≠i6:=fun e=>by rw[e,b6]at h10;cases h10
 have n10_8:i10≠i8:=fun e=>by rw[e,b8]at h10;cases h10
 have n10_9:i10≠i9:=fun e=>by rw[e,b9]at h10;cases h10
 replace b2:=s10 _ _ b2;replace b3:=s10 _ _ b3;replace b4:=s10 _ _ b4;replace b5:=s10 _ _ b5;replace b6:=s10 _ _ b6;replace b8:=s10 _ _ b8;replace b9:=s10 _ _ b9;have b10:H10 i10=some (.obj [.i 0,.sl [] .full,.sl [] .full,.sl [] .full,.sl [] .full,.s [],.b false,.i 0,.sl [] .full,.sl [] .full,.sl [] .full,.sl [] .full,.i 0] 41):=by rw[←e10,ah]
 have q10:g i10=none:=sg.none h10;have sg:Ab.Sub g H10:=sg.trans s10;rw[e10];clear e10;refine .one hU hm ?_;simp only[go_sem];have hrd:=fun G=>FC (rdS G s) o hG.few ho.2.2.2 hG.Io
 have hpa:=fun(G:Heap) (hs:Ab.Sub g G)=>zX o.text G (he.sub hs)
 rw[hst]at hrd;simp only[opA,opC]at hrd;refine .one hU hm ?_;simp only[go_sem,b2,b3];refine(hrd _).pthen ?_;simp only[go_sem];refine .cut (fun ρ H' =>H' =H10∧lk ρ 2=some (.ptr i2 0)∧lk ρ 3=some (.ptr i3 0)∧lk ρ 4=some (.ptr i4 0)∧lk ρ 5=some (.ptr i5 0)∧lk ρ 6=some (.ptr i6 0)∧lk ρ 8=some (.ptr i8 0)∧lk ρ 9=some (.ptr i9 0)∧lk ρ 10=some (.ptr i10 0)∧lk ρ 11=some (.b false)∧lk ρ 12=some (.v (.int .i64 (j5 s o).1))∧lk ρ 13=some (.v (.int .i64 (j5 s o).2))) ?_ ?_
 ·refine .vc hU hm ?_
  cases dr:(bL s o==0)
  ·have er:bL s o≠0:=by simpa using dr
   have ep:j5 s o=(bL s o,0):=by unfold j5;rw[if_neg fun hh=>er hh.1]
   simp only[go_sem,dr];refine⟨rfl,?_,?_,?_,?_,?_,?_,?_,?_,?_,?_,?_⟩<;>simp only[go_sem,ep]
  have er:bL s o=0:=by simpa using dr
  cases d7:(o.kind==7)
  ·have e7:o.kind≠7:=by simpa using d7
   have ep:j5 s o=(bL s o,0):=by unfold j5;rw[if_neg fun hh=>e7 hh.2]
   simp only[go_sem,b3,dr,d7];refine⟨rfl,?_,?_,?_,?_,?_,?_,?_,?_,?_,?_,?_⟩<;>simp only[go_sem,ep]
  ·have e7:o.kind=7:=by simpa using d7
   have ep:j5 s o=((aS o.text).2.1,(aS o.text).2.2):=by unfold j5;rw[if_pos ⟨er,e7⟩]
   simp only[go_sem,b3,dr,d7];refine(hpa _ sg).pthen ?_;obtain⟨⟨pp,e,a⟩,epp⟩:∃x,aS o.text=x:=⟨_,rfl⟩;rw[epp]at ep;simp only[go_sem,kO,epp];refine⟨rfl,?_,?_,?_,?_,?_,?_,?_,?_,?_,?_,?_⟩<;>simp only[go_sem,ep]
 rintro ρ H' ⟨rfl,r2,r3,r4,r5,r6,r8,r9,r10,r11,r12,r13⟩
 refine .one hU hm ?_;cases de:((j5 s o).1 !=0)
 case true=>
  have ee:(j5 s o).1≠0:=by simpa using de
  simp only[go_sem,r2,r4,r5,r6,r12,r13,de];exact⟨0,(j5 s o).1,(j5 s o).2,sg,b2,b4,b5,b6,rfl,rfl,by unfold aE;rw[if_pos ee]⟩
 have ee:(j5 s o).1=0:=by simpa using de
 simp only[go_sem,r12,de];obtain⟨hr0,hform,hpar⟩:=uX ee;have hfg:=Mz (JZ hG.todP hform);have hask:=fun G=>Tb (rdS G s) o hG.few ho.1
 have hdec:=fun G=>EL s.policy hG.pol (fS s o) hfg G
 have hm6:=yj (fS s o) s.policy;have hol:=El (fS s o) hG.mU;have hmk:gT s o=fR (fS s o) s.policy:=rfl;obtain⟨⟨m,ob⟩,em⟩:∃x,fR (fS s o) s.policy=x:=⟨_,rfl⟩;rw[em]at hdec hm6 hol hmk;simp only at hm6 hol;rw[hpp]at hdec;simp only[aM,aU,ay,aR,bN,rsA,aO]at hdec;rw[hst]at hask;simp only[opA,opC,bN]at hask;have p2:=(bE (H:=H') (l:=[i2,i3]) (show i2∈ [i2,i3] by simp)).trans b2
 have p3:=(bE (H:=H') (l:=[i2,i3]) (show i3∈ [i2,i3] by simp)).trans b3
 refine .one hU hm ?_;simp only[go_sem];refine .calls (pick H' [i2,i3]) [0,1,2,3,4,5,6,7,8,9,10] bW afx rfl ?_;simp only[go_sem,r2,r3,p2,p3];refine(hask _).pthen ?_;refine⟨bW,?_⟩;simp only[go_sem];refine(hdec _).pthen ?_;refine⟨bW,?_⟩;simp only[go_sem,r8,b8];refine⟨bW.put (by simp[pick,n8_2,n8_3]) _,?_⟩
 obtain⟨H11,eH11⟩:∃H11,upd H' i8 (some (.obj [.v (.complex .f64 (hbit m.1) (hbit m.2)),.sl (ob.map bh) .no] 103))=H11:=⟨_,rfl⟩;replace b2:H11 i2=some (.obj [.i s.tick,.sl (s.cases.map cr) .no,.sl (s.reviews.map gH) .no,.sl (s.notices.map kL) .no,.sl (s.roles.map dF) .no,.s pid,.b pset,.i palg,.sl (ptgt.map cC) .no,.sl (prules.map aC) .no,.sl (pkids.map aM) .no,.sl (pobls.map bh) .no,.i s.version] 41):=by rw[←eH11,ag _ _ n8_2.symm];exact b2
 replace b3:H11 i3=some (.obj [.i o.kind,.s o.subj,.s o.case,.s o.field,.s o.to,.i o.val.kind,.i o.val.n,.s o.val.s,.i o.review,.s o.text,.s o.reason,.b o.glass] 50):=by rw[←eH11,ag _ _ n8_3.symm];exact b3
 replace b4:H11 i4=some (.obj [.i 0,.sl [] .full,.sl [] .full,.sl [] .full,.sl [] .full,.s [],.b false,.i 0,.sl [] .full,.sl [] .full,.sl [] .full,.sl [] .full,.i 0] 41):=by rw[←eH11,ag _ _ n8_4.symm];exact b4
 replace b5:H11 i5=some (.obj [.i 0,.v (.complex .f64 0 0),.b false,.i 0,.i 0,.s [],.b false,.i 0] 57):=by rw[←eH11,ag _ _ n8_5.symm];exact b5
 replace b6:H11 i6=some (.obj [.i 0,.s [],.s [],.s [],.s [],.i 0,.i 0,.s [],.i 0,.s [],.s [],.b false,.i 0,.v (.complex .f64 0 0),.b false,.sl [] .full] 59):=by rw[←eH11,ag _ _ n8_6.symm];exact b6
 replace b9:H11 i9=some (.obj [.i 0,.v (.complex .f64 0 0),.b false,.i 0,.i 0,.s [],.b false,.i 0] 57):=by rw[←eH11,ag _ _ n9_8];exact b9
 replace b10:H11 i10=some (.obj [.i 0,.sl [] .full,.sl [] .full,.sl [] .full,.sl [] .full,.s [],.b false,.i 0,.sl [] .full,.sl [] .full,.sl [] .full,.sl [] .full,.i 0] 41):=by rw[←eH11,ag _ _ n10_8];exact b10
 replace b8:H11 i8=some (.obj [.v (.complex .f64 (hbit m.1) (hbit m.2)),.sl (ob.map bh) .no] 103):=by rw[←eH11,ah]
 replace sg:Ab.Sub g H11:=by rw[←eH11];exact sg.put q8 _
 rw[eH11];clear eH11;have hbr:=fun G=>J3 s o m hm6.m9 (by have:=hG.nr;omega) (by have:=hG.roles;omega) hG.tick hG.ticks G
 rw[hst]at hbr;simp only[opA,opC,aO]at hbr;obtain⟨gl,egl⟩:∃gl,ud s o m=gl:=⟨_,rfl⟩;have hgl:fJ s o=gl:=by unfold fJ;rw[hmk];exact egl
 rw[egl]at hbr;have p2:=(bE (H:=H11) (l:=[i2,i3,i8]) (show i2∈ [i2,i3,i8] by simp)).trans b2
 have p3:=(bE (H:=H11) (l:=[i2,i3,i8]) (show i3∈ [i2,i3,i8] by simp)).trans b3
 have p8:=(bE (H:=H11) (l:=[i2,i3,i8]) (show i8∈ [i2,i3,i8] by simp)).trans b8
 refine .one hU hm ?_;simp only[go_sem];refine .stage (pick H11 [i2,i3,i8]) [0,1,2,3,4,5,7,6] [8,9,10] bW afx ?_;simp only[go_sem,r2,r3,r8,r9,p2,p3,p8];refine(hbr _).pthen ?_;refine⟨bW,cY,fun _ _ e=>afT,?_⟩
 simp only[go_sem,r9,b9];refine⟨fun _ _ e=>afT,fun _ _ e=>afT,?_⟩
 obtain⟨H12,eH12⟩:∃H12,upd H11 i9 (some (.obj [.i 0,.v (.complex .f64 (hbit m.1) (hbit m.2)),.b gl,.i 0,.i 0,.s [],.b false,.i 0] 57))=H12:=⟨_,rfl⟩;replace b2:H12 i2=some (.obj [.i s.tick,.sl (s.cases.map cr) .no,.sl (s.reviews.map gH) .no,.sl (s.notices.map kL) .no,.sl (s.roles.map dF) .no,.s pid,.b pset,.i palg,.sl (ptgt.map cC) .no,.sl (prules.map aC) .no,.sl (pkids.map aM) .no,.sl (pobls.map bh) .no,.i s.version] 41):=by rw[←eH12,ag _ _ n9_2.symm];exact b2
 replace b3:H12 i3=some (.obj [.i o.kind,.s o.subj,.s o.case,.s o.field,.s o.to,.i o.val.kind,.i o.val.n,.s o.val.s,.i o.review,.s o.text,.s o.reason,.b o.glass] 50):=by rw[←eH12,ag _ _ n9_3.symm];exact b3
 replace b4:H12 i4=some (.obj [.i 0,.sl [] .full,.sl [] .full,.sl [] .full,.sl [] .full,.s [],.b false,.i 0,.sl [] .full,.sl [] .full,.sl [] .full,.sl [] .full,.i 0] 41):=by rw[←eH12,ag _ _ n9_4.symm];exact b4
 replace b5:H12 i5=some (.obj [.i 0,.v (.complex .f64 0 0),.b false,.i 0,.i 0,.s [],.b false,.i 0] 57):=by rw[←eH12,ag _ _ n9_5.symm];exact b5
 replace b6:H12 i6=some (.obj [.i 0,.s [],.s [],.s [],.s [],.i 0,.i 0,.s [],.i 0,.s [],.s [],.b false,.i 0,.v (.complex .f64 0 0),.b false,.sl [] .full] 59):=by rw[←eH12,ag _ _ n9_6.symm];exact b6
 replace b8:H12 i8=some (.obj [.v (.complex .f64 (hbit m.1) (hbit m.2)),.sl (ob.map bh) .no] 103):=by rw[←eH12,ag _ _ n9_8.symm];exact b8
 replace b10:H12 i10=some (.obj [.i 0,.sl [] .full,.sl [] .full,.sl [] .full,.sl [] .full,.s [],.b false,.i 0,.sl [] .full,.sl [] .full,.sl [] .full,.sl [] .full,.i 0] 41):=by rw[←eH12,ag _ _ n10_9];exact b10
 replace b9:H12 i9=some (.obj [.i 0,.v (.complex .f64 (hbit m.1) (hbit m.2)),.b gl,.i 0,.i 0,.s [],.b false,.i 0] 57):=by rw[←eH12,ah]
 replace sg:Ab.Sub g H12:=by rw[←eH12];exact sg.put q9 _
 rw[eH12];clear eH12;obtain⟨dn,edn⟩:∃dn,(decide (m=bf)||gl)=dn:=⟨_,rfl⟩
 have hdn:ug s o=dn:=by unfold ug;rw[hmk,hgl];exact edn
 have pe:=(nb hm6.m9).pe;refine .cut (fun ρ H' =>H' =H12∧lk ρ 2=some (.ptr i2 0)∧lk ρ 3=some (.ptr i3 0)∧lk ρ 4=some (.ptr i4 0)∧lk ρ 5=some (.ptr i5 0)∧lk ρ 6=some (.ptr i6 0)∧lk ρ 8=some (.ptr i8 0)∧lk ρ 9=some (.ptr i9 0)∧lk ρ 10=some (.ptr i10 0)∧lk ρ 11=some (.b dn)∧lk ρ 13=some (.v (.int .i64 (j5 s o).2))) ?_ ?_
 ·refine .vc hU hm ?_
  cases dp:(m==bf)
  ·have e1:decide (m=bf)=false:=decide_eq_false (by simpa using dp)
   rw[e1,Bool.false_or]at edn;simp only[go_sem,r8,r9,b8,b9,pe,dp];refine⟨rfl,?_,?_,?_,?_,?_,?_,?_,?_,?_,?_⟩<;>simp only[go_sem,r2,r3,r4,r5,r6,r8,r9,r10,r13,edn]
  ·have e1:decide (m=bf)=true:=decide_eq_true (by simpa using dp)
   rw[e1,Bool.true_or]at edn;simp only[go_sem,r8,b8,pe,dp];refine⟨rfl,?_,?_,?_,?_,?_,?_,?_,?_,?_,?_⟩<;>simp only[go_sem,r2,r3,r4,r5,r6,r8,r9,r10,r13,edn]
 clear r2 r3 r4 r5 r6 r8 r9 r10 r11 r12 r13
 rintro ρ H' ⟨rfl,r2,r3,r4,r5,r6,r8,r9,r10,r11,r13⟩
 have how:=fun G=>Qs s hG.few G
 rw[hst]at how;refine .one hU hm ?_;simp only[go_sem,r2,b2];refine(how _).mono fun r H13 ⟨y1,y2,y3,er,hown,hs13⟩=>?_
 subst er;rw[se hpp];simp only[eu];simp only[go_sem,r10,hs13 _ _ b10];obtain⟨H14,e14⟩:∃H14,upd H13 i10 (some (.obj [.i s.tick,y1,y2,y3,.sl (s.roles.map dF) .no,.s pid,.b pset,.i palg,.sl (ptgt.map cC) .no,.sl (prules.map aC) .no,.sl (pkids.map aM) .no,.sl (pobls.map bh) .no,.i s.version] 41))=H14:=⟨_,rfl⟩;have hS:GSt H' H14 i10 s s.cases.length:=⟨y1,y2,y3,eu s.roles,by rw[←e14,ah,se hpp];rfl,hown.keep (fun q hq _=>by rw[←e14];exact ag _ _ fun e=>by rw[e,b10]at hq;cases hq),by rw[b10];simp,fun i b hi hb=>by rw[←e14,ag _ _ hi];exact hs13 _ _ hb⟩
 rw[e14];clear e14;have sGB:=sg;have hroom:s.reviews.length≤1000:=hG.nrev;refine .cut (fun ρ H2=>GSt H' H2 i10 (if gl=true then bT s o o.reason else s) s.cases.length∧lk ρ 2=some (.ptr i2 0)∧lk ρ 3=some (.ptr i3 0)∧lk ρ 4=some (.ptr i4 0)∧lk ρ 5=some (.ptr i5 0)∧lk ρ 6=some (.ptr i6 0)∧lk ρ 8=some (.ptr i8 0)∧lk ρ 9=some (.ptr i9 0)∧lk ρ 10=some (.ptr i10 0)∧lk ρ 11=some (.b dn)∧lk ρ 13=some (.v (.int .i64 (j5 s o).2))) ?_ ?_
 ·refine .vc hU hm ?_
  have c9:=hS.at n10_9.symm b9;have c3:=hS.at n10_3.symm b3;have hop:=Fa hS o o.reason ho.1 afu;simp only[opA,opC]at hop;cases gl
  ·simp only[go_sem,r9,c9]
   refine⟨hS,?_,?_,?_,?_,?_,?_,?_,?_,?_,?_⟩<;>simp only[go_sem,r2,r3,r4,r5,r6,r8,r9,r10,r11,r13]
  ·simp only[go_sem,r3,r9,r10,c9,c3]
   refine hop.mono fun r H3 h3=>?_
   simp only[go_sem];refine⟨h3,?_,?_,?_,?_,?_,?_,?_,?_,?_,?_⟩<;>simp only[go_sem,r2,r3,r4,r5,r6,r8,r9,r10,r11,r13]
 clear hS r2 r3 r4 r5 r6 r8 r9 r10 r11 r13
 rintro ρ H2 ⟨hS,r2,r3,r4,r5,r6,r8,r9,r10,r11,r13⟩
 have hbd:cW s o=dI (if dn=true then dX aS (if gl=true then bT s o o.reason else s) o else(if gl=true then bT s o o.reason else s)) o ob dn:=by unfold cW;rw[hgl,hdn,hmk]
 have hO1:dP k (if gl=true then bT s o o.reason else s):=by
  split
  ·exact Dk o _ hG.todP (by have:=hG.nr;omega)
  ·exact hG.todP
 have hc1:(if gl=true then bT s o o.reason else s).cases=s.cases:=by split<;>rfl
 have hp1:(if gl=true then bT s o o.reason else s).policy= .mk pid pset palg ptgt prules pkids pobls:=by split<;>exact hpp
 have hg1:sR 999 (if gl=true then bT s o o.reason else s):=by
  have h1:=hG.nr;have h2:=hG.nn;have h3:=fun c hc=>(hG.case c hc).log2
  split
  ·exact⟨fun c hc=>by have:=h3 c hc;omega,by simp only[bT,afn,List.length_singleton];omega,by simp only[bT];omega⟩
  ·exact⟨fun c hc=>by have:=h3 c hc;omega,afu,afu⟩
 have hr1:bL (if gl=true then bT s o o.reason else s) o=0:=by
  split
  ·rename_i hgt
   have hgo:=zk hform (Ex (hgl.trans hgt));rw[←hr0];unfold bL;have k5:o.kind≠5:=afu;have k6:o.kind≠6:=afu;have k8:o.kind≠8:=afu;simp only[k5,k6,k8,if_false];rfl
  ·exact hr0
 obtain⟨s1,es1⟩:∃s1,(if gl=true then bT s o o.reason else s)=s1:=⟨_,rfl⟩
 rw[es1]at hS hbd hO1 hc1 hp1 hg1 hr1;have hre:nR s o=⟨if dn=true then 0 else 12,m,gl,if(dn && o.kind==2 && !kE ob o.field)=true then dZ (bw s.cases o.case).fields o.field else aq,dn && o.kind==2 && kE ob o.field,0⟩:=by unfold nR;rw[hgl,hdn,hmk]
 have hve:=hO1.ver;have b9n:H' i9≠none:=by rw[b9];simp
 refine .cut (fun ρ H3=>lk ρ 2=some (.ptr i2 0)∧lk ρ 3=some (.ptr i3 0)∧lk ρ 4=some (.ptr i4 0)∧lk ρ 5=some (.ptr i5 0)∧lk ρ 6=some (.ptr i6 0)∧lk ρ 8=some (.ptr i8 0)∧lk ρ 9=some (.ptr i9 0)∧lk ρ 10=some (.ptr i10 0)∧lk ρ 11=some (.b dn)∧lk ρ 13=some (.v (.int .i64 (j5 s o).2))∧∃(GB:Heap) (j:Nat),GSt GB H3 i10 (if dn=true then dX aS s1 o else s1) j∧Ab.Sub g GB∧(dn=true→jg (if dn=true then dX aS s1 o else s1).cases o.case<(if dn=true then dX aS s1 o else s1).cases.length→o.kind≠6→j=jg (if dn=true then dX aS s1 o else s1).cases o.case)∧GB i2=some (.obj [.i s.tick,.sl (s.cases.map cr) .no,.sl (s.reviews.map gH) .no,.sl (s.notices.map kL) .no,.sl (s.roles.map dF) .no,.s pid,.b pset,.i palg,.sl (ptgt.map cC) .no,.sl (prules.map aC) .no,.sl (pkids.map aM) .no,.sl (pobls.map bh) .no,.i s.version] 41)∧GB i3=some (.obj [.i o.kind,.s o.subj,.s o.case,.s o.field,.s o.to,.i o.val.kind,.i o.val.n,.s o.val.s,.i o.review,.s o.text,.s o.reason,.b o.glass] 50)∧GB i4=some (.obj [.i 0,.sl [] .full,.sl [] .full,.sl [] .full,.sl [] .full,.s [],.b false,.i 0,.sl [] .full,.sl [] .full,.sl [] .full,.sl [] .full,.i 0] 41)∧GB i5=some (.obj [.i 0,.v (.complex .f64 0 0),.b false,.i 0,.i 0,.s [],.b false,.i 0] 57)∧GB i6=some (.obj [.i 0,.s [],.s [],.s [],.s [],.i 0,.i 0,.s [],.i 0,.s [],.s [],.b false,.i 0,.v (.complex .f64 0 0),.b false,.sl [] .full] 59)∧GB i8=some (.obj [.v (.complex .f64 (hbit m.1) (hbit m.2)),.sl (ob.map bh) .no] 103)∧GB i9=some (.obj [.i (if dn=true then 0 else 12),.v (.complex .f64 (hbit m.1) (hbit m.2)),.b gl,.v (.int .i64 (if(dn && o.kind==2 && !kE ob o.field)=true then dZ (bw s.cases o.case).fields o.field else aq).kind),.v (.int .i64 (if(dn && o.kind==2 && !kE ob o.field)=true then dZ (bw s.cases o.case).fields o.field else aq).n),.s (if(dn && o.kind==2 && !kE ob o.field)=true then dZ (bw s.cases o.case).fields o.field else aq).s,.b (dn && o.kind==2 && kE ob o.field),.i 0] 57)) ?_ ?_
 ·refine .vc hU hm ?_
  have c9:=hS.at n10_9.symm b9;have c3:=hS.at n10_3.symm b3;have c8:=hS.at n10_8.symm b8;have c2:=hS.at n10_2.symm b2;cases dn
  ·simp only[go_sem,r9,r11,c9]
   refine⟨?_,?_,?_,?_,?_,?_,?_,?_,?_,?_,upd H' i9 _,s.cases.length,hS.put n10_9.symm b9n _,sGB.put q9 _,fun e=>afT,aiH,aiI,aiJ,aiK,aiL,aiM,ah ..⟩<;>simp only[go_sem,r2,r3,r4,r5,r6,r8,r9,r10,r11,r13]
  ·obtain⟨z1,z2,z3,z4,hk10,hrd⟩:=hS.rd
   have sH2:Ab.Sub g H2:=hS.sub sGB q10;have hdo:=M8 hrd o hO1.few hO1.mU ho.2.2.2 hO1.Io ⟨hve.1,afu⟩ (he.sub sH2);have hjj:=fun hx (_:o.kind≠6)=>Qk (o:=o) hO1 hr1 hx
   rw[se hp1]at hk10 hdo;simp only[opA,opC]at hdo;simp only[go_sem,r3,r10,r11,hk10,c3];refine hdo.mono fun r H3 ⟨hs3,j,hOS,hj⟩=>?_
   have hj:=hj hr1;obtain⟨x1,x2,x3,x4,er,hOP⟩:=hOS.parts;subst er;obtain⟨did,dset,dalg,dtgt,drules,dkids,dobls,hpd⟩:=OB (dX aS s1 o).policy;rw[se hpd];have k10:=hs3 _ _ hk10;obtain⟨H4,e4⟩:∃H4,upd H3 i10 (some (.obj [.v (.int .i64 (dX aS s1 o).tick),x1,x2,x3,x4,.s did,.b dset,.i dalg,.sl (dtgt.map cC) .no,.sl (drules.map aC) .no,.sl (dkids.map aM) .no,.sl (dobls.map bh) .no,.v (.int .i64 (dX aS s1 o).version)] 41))=H4:=⟨_,rfl⟩;have hS4:GSt H' H4 i10 (dX aS s1 o) j:=by
    obtain⟨_,_,_,_,_,_,hgk,hfr⟩:=hS;refine⟨x1,x2,x3,x4,by rw[←e4,ah,se hpd],(hOP.keep fun q hq _=>by rw[←e4];exact ag _ _ fun e=>by rw[e,hk10]at hq;cases hq).bP fun q hq=>?_,hgk,fun i b hi hb=>by rw[←e4,ag _ _ hi];exact hs3 _ _ (hfr i b hi hb)⟩
    cases hh:H' q with
    |none=>rfl
    |some b=>
     by_cases e:q=i10
     ·rw[e,hk10]at hq;cases hq
     ·rw[hfr q b e hh]at hq;cases hq
   have d9:=hS4.at n10_9.symm b9;have d3:=hS4.at n10_3.symm b3;have d8:=hS4.at n10_8.symm b8;have d2:=hS4.at n10_2.symm b2;have hjx:true=true→jg (dX aS s1 o).cases o.case<(dX aS s1 o).cases.length→o.kind≠6→j=jg (dX aS s1 o).cases o.case:=fun _ hx h6=>hj.trans (hjj hx h6)
   have hhi:=fun G=>Ny ob afu o.field G
   simp only[ay]at hhi;have hca:=fun G=>CQ (rdS G s) o.case hG.few
   rw[hst]at hca;have hcf:(bw s.cases o.case).fields.length≤1000000000:=by
    unfold bw;split
    ·by_cases hlt:findD s.cases o.case<s.cases.length
     ·rw[show s.cases.getD (findD s.cases o.case) pN=s.cases[findD s.cases o.case] by simp[List.getD,List.getElem?_eq_getElem hlt]]
      have:=(hG.case _ (afo hlt)).nfields;omega
     ·rw[show s.cases.getD (findD s.cases o.case) pN=pN by simp[List.getD,List.getElem?_eq_none (Nat.le_of_not_lt hlt)]]
      exact ahA
    ·exact ahA
   have hfd:=fun G=>Em (rdC G (bw s.cases o.case)) o.field hcf
   simp only[cr,om,gS,tE]at hca hfd;simp only[go_sem,r3,r10,k10];rw[e4];clear e4;cases d7:(o.kind==2)
   ·simp only[go_sem,r3,r9,d9,d3,d7,n9_3.symm]
    refine⟨?_,?_,?_,?_,?_,?_,?_,?_,?_,?_,upd H' i9 _,j,hS4.put n10_9.symm b9n _,sGB.put q9 _,(fun _=>hjx rfl),aiH,aiI,aiJ,aiK,aiL,aiM,ah ..⟩<;>simp only[go_sem,r2,r3,r4,r5,r6,r8,r9,r10,r11,r13]
   ·simp only[go_sem,r3,r8,d3,d8,d7]
    refine(hhi _).pthen ?_;cases hh:kE ob o.field
    ·simp only[go_sem,r2,r3,r9,d9,d3,d2,d7,n9_2.symm,n9_3.symm]
     refine(hca _).pthen ?_;simp only[go_sem];intro i14 h14;have t9:i14≠i9:=fun e=>by rw[e,ah]at h14;cases h14
     have t3:i14≠i3:=fun e=>by rw[e,ag _ _ n9_3.symm,d3]at h14;cases h14
     simp only[go_sem,r3,d3,n9_3.symm,t3.symm];refine(hfd _).pthen ?_;simp only[go_sem,r9,t9.symm,aT];refine⟨?_,?_,?_,?_,?_,?_,?_,?_,?_,?_,upd (upd H' i9 _) i9 _,j,((hS4.put n10_9.symm b9n _).same (.aj h14)).put n10_9.symm (by rw[ah];simp) _,(sGB.put q9 _).put q9 _,(fun _=>hjx rfl),by rw[ag _ _ n9_2.symm,ag _ _ n9_2.symm];exact b2,by rw[ag _ _ n9_3.symm,ag _ _ n9_3.symm];exact b3,by rw[ag _ _ n9_4.symm,ag _ _ n9_4.symm];exact b4,by rw[ag _ _ n9_5.symm,ag _ _ n9_5.symm];exact b5,by rw[ag _ _ n9_6.symm,ag _ _ n9_6.symm];exact b6,by rw[ag _ _ n9_8.symm,ag _ _ n9_8.symm];exact b8,ah ..⟩<;>simp only[go_sem,r2,r3,r4,r5,r6,r8,r9,r10,r11,r13]
    ·simp only[go_sem,r3,r9,d9,d3,d7,n9_3.symm]
     refine⟨?_,?_,?_,?_,?_,?_,?_,?_,?_,?_,upd H' i9 _,j,hS4.put n10_9.symm b9n _,sGB.put q9 _,(fun _=>hjx rfl),aiH,aiI,aiJ,aiK,aiL,aiM,ah ..⟩<;>simp only[go_sem,r2,r3,r4,r5,r6,r8,r9,r10,r11,r13]
 clear hS b2 b3 b4 b5 b6 b8 b9 b10 r2 r3 r4 r5 r6 r8 r9 r10 r11 r13
 rintro ρ H3 ⟨r2,r3,r4,r5,r6,r8,r9,r10,r11,r13,GB,j,hS,sG2,hjx,b2,b3,b4,b5,b6,b8,b9⟩
 have hO2:dP (k+1) (if dn=true then dX aS s1 o else s1):=by
  split
  ·exact qB o hO1
  ·exact {hO1 with ver:=⟨hO1.ver.1,by have:=hO1.ver.2;omega⟩}
 obtain⟨s2,es2⟩:∃s2,(if dn=true then dX aS s1 o else s1)=s2:=⟨_,rfl⟩
 rw[es2]at hS hjx hbd hO2;have hdu:=GA hS o ho.1 ob afu dn (by have:=hO2.ncases;omega) ⟨fun c hc=>by have:=(hO2.case c hc).log2;omega,hO2.nrev,hO2.nnot⟩ hjx
 rw[←hbd]at hdu;simp only[opA,opC,ay]at hdu;have c3:=hS.at n10_3.symm b3;have c8:=hS.at n10_8.symm b8;refine .one hU hm ?_;simp only[go_sem,r3,r8,r10,r11,c3,c8];refine hdu.mono fun r H4 h4=>?_
 simp only[go_sem];clear c3 c8 hdu hS;have hat:(j5 s o).2=0:=by
  unfold j5 at ee⊢;split
  ·rename_i hc;rw[if_pos hc]at ee;exact Lt ee
  ·rfl
 have hbl:(cW s o).cases.length≤1000000:=by rw[hbd,yY];have:=hO2.ncases;omega
 obtain⟨x1,x2,x3,x4,k10,hOP,_,_⟩:=id h4;have hov:=Oq hOP.rd hbl;obtain⟨did,dset,dalg,dtgt,drules,dkids,dobls,hpd⟩:=OB (cW s o).policy;have hfz:∀H5,(∀q,GB q=none→H5 q=H4 q)→Frz g H5 (.agg (stC (cW s o) x1 x2 x3 x4)) (bQ (cW s o)):=fun H5 hq=>((hOP.keep fun q hg _=>hq q hg).bP fun q hg=>by
  cases hh:g q with
  |none=>rfl
  |some b=>rw[sG2 _ _ hh]at hg;cases hg).frz
 rw[se hpd]at k10 hov hfz;have c2:=h4.at n10_2.symm b2;have c3:=h4.at n10_3.symm b3;have c4:=h4.at n10_4.symm b4;have c5:=h4.at n10_5.symm b5;have c6:=h4.at n10_6.symm b6;have c8:=h4.at n10_8.symm b8;have c9:=h4.at n10_9.symm b9;have sg4:Ab.Sub g H4:=h4.sub sG2 q10;refine .one hU hm ?_;simp only[go_sem,r10,k10];refine hov.pthen ?_;cases dov:sW (cW s o)
 case true=>simp only[go_sem,r2,r4,r5,r6,r13];exact⟨0,6,0,sg4,c2,c4,c5,c6,rfl,by rw[hat],by unfold aE;rw[if_neg (by rw[ee];simp),if_pos dov]⟩
 have hgd:aE s o=(cW s o,⟨if dn=true then 0 else 12,m,gl,if(dn && o.kind==2 && !kE ob o.field)=true then dZ (bw s.cases o.case).fields o.field else aq,dn && o.kind==2 && kE ob o.field,0⟩,⟨o,s.version,m,gl,ob⟩,0):=by unfold aE;rw[if_neg (by rw[ee];simp),if_neg (by rw[dov];decide),hre,hmk,hgl]
 simp only[go_sem];have p2:=(bE (H:=H4) (l:=[i2,i3,i8,i9,i10]) (show i2∈ [i2,i3,i8,i9,i10] by simp)).trans c2
 have p3:=(bE (H:=H4) (l:=[i2,i3,i8,i9,i10]) (show i3∈ [i2,i3,i8,i9,i10] by simp)).trans c3
 have p8:=(bE (H:=H4) (l:=[i2,i3,i8,i9,i10]) (show i8∈ [i2,i3,i8,i9,i10] by simp)).trans c8
 have p9:=(bE (H:=H4) (l:=[i2,i3,i8,i9,i10]) (show i9∈ [i2,i3,i8,i9,i10] by simp)).trans c9
 have p10:=(bE (H:=H4) (l:=[i2,i3,i8,i9,i10]) (show i10∈ [i2,i3,i8,i9,i10] by simp)).trans k10
 have t4:pick H4 [i2,i3,i8,i9,i10] i4=none:=by simp[pick,n4_2,n4_3,n8_4.symm,n9_4.symm,n10_4.symm]
 have t5:pick H4 [i2,i3,i8,i9,i10] i5=none:=by simp[pick,n5_2,n5_3,n8_5.symm,n9_5.symm,n10_5.symm]
 have t6:pick H4 [i2,i3,i8,i9,i10] i6=none:=by simp[pick,n6_2,n6_3,n8_6.symm,n9_6.symm,n10_6.symm]
 refine .one hU hm ?_;simp only[go_sem];refine .calls (pick H4 [i2,i3,i8,i9,i10]) [0,1,2,3,4,5,6,7,8,9,10,11,12,13,14,15] bW afx rfl ?_;simp only[go_sem,r2,r3,r4,r5,r6,r8,r9,r10,p2,p3,p8,p9,p10,c4,c5,c6,n5_4,n5_4.symm,n6_4,n6_4.symm,n6_5,n6_5.symm];refine⟨bW.put t4 _,(bW.put t4 _).put t5 _,((bW.put t4 _).put t5 _).put t6 _,?_⟩;refine .mk _ (.refl _) (.refl _) ⟨((sg4.put q4 _).put q5 _).put q6 _,_,?_,rfl⟩;rw[hgd,←se hpd];exact BJ (S:=cW s o) ⟨if dn=true then 0 else 12,m,gl,if(dn && o.kind==2 && !kE ob o.field)=true then dZ (bw s.cases o.case).fields o.field else aq,dn && o.kind==2 && kE ob o.field,0⟩ ⟨o,s.version,m,gl,ob⟩ 0 (by
  rw[se hpd];exact hfz _ fun q hq=>by
   have x6:q≠i6:=fun e=>by rw[e,b6]at hq;cases hq
   have x5:q≠i5:=fun e=>by rw[e,b5]at hq;cases hq
   have x4:q≠i4:=fun e=>by rw[e,b4]at hq;cases hq
   rw[ag _ _ x6,ag _ _ x5,ag _ _ x4]) .no
end Go.Proofs.YtelkmnkejghkeaaGreatDoor
namespace Go.Ab
open Go
theorem RJ(n:Nat)(hn:n<18446744073709551616):IntKind.u64.wrap (n:Int)=n:=SI .u64 n rfl aje
theorem XY(n:Int):IntKind.u64.wrap n=((n % 18446744073709551616).toNat:Int):=by grind [Int.emod_nonneg,Int,IntKind.wrap,IntKind.signed,IntKind.bits]
theorem SJ(n:Nat):IntKind.u64.wrap (n:Int)=((n % 18446744073709551616:Nat):Int):=by rfl
theorem Gj(a b:Nat)(f:BitVec 64→BitVec 64→BitVec 64):IntKind.u64.wrap (((f (BitVec.ofInt IntKind.u64.bits (a:Int)) (BitVec.ofInt IntKind.u64.bits (b:Int))).toNat:Nat):Int)=((f (BitVec.ofNat 64 a) (BitVec.ofNat 64 b)).toNat:Int):=by exact RJ _ (f _ _).isLt
theorem Q8(a b k:Nat)(ha:a<2 ^ k)(hlt:a+b*2 ^ k<18446744073709551616):(BitVec.ofNat 64 a|||BitVec.ofNat 64 (b*2 ^ k)).toNat=a+b*2 ^ k:=by exact akz
theorem Q0(n:Nat)(hn:n<18446744073709551616):(BitVec.ofNat 64 18446744073709551615 ^^^ BitVec.ofNat 64 n).toNat=18446744073709551615 - n:=by
 have e:BitVec.ofNat 64 18446744073709551615 ^^^ BitVec.ofNat 64 n= ~~~ BitVec.ofNat 64 n:=by rfl
 rw[e,BitVec.toNat_not,BitVec.toNat_ofNat,Nat.mod_eq_of_lt afu]
section
variable {U : TypeId → TI} {ty : TypeId} {K : AV → Prop}
@[go_sem high] theorem Zc(n:Nat)(hn:n<18446744073709551616):unA .xor (.v (.int .u64 (n:Int))) K=K (.v (.int .u64 ((18446744073709551615 - n:Nat):Int))):=by
 have h:=(Gj 18446744073709551615 n (· ^^^ ·)).trans (congrArg (fun z:Nat=>(z:Int)) (Q0 n hn))
 exact(yC ..).trans (congrArg (fun z=>K (.v (.int .u64 z))) h)
@[go_sem high] theorem YL(n:Int)(h1: -9223372036854775808≤n)(h2:n≤9223372036854775807):unA .xor (.i n) K=K (.i (-n - 1)):=by
 have e:(BitVec.ofInt 64 (-1) ^^^ BitVec.ofInt 64 n)= ~~~ BitVec.ofInt 64 n:=by rfl
 have e2:(((BitVec.ofInt 64 (-1) ^^^ BitVec.ofInt 64 n).toNat:Nat):Int)=(-n - 1) % 18446744073709551616:=by grind [BitVec.toNat_not,BitVec.ofInt,BitVec.toNat_ofInt]
 have h:IntKind.i64.wrap (((BitVec.ofInt 64 (-1) ^^^ BitVec.ofInt 64 n).toNat:Nat):Int)= -n - 1:=by grind [IntKind.wrap,IntKind.signed,IntKind.bits]
 exact(yC ..).trans (congrArg (fun z=>K (.i z)) h)
theorem u64_and(n k:Nat)(hn:n<18446744073709551616)(hk:k≤63):cy U .and ty (.v (.int .u64 (n:Int))) (.v (.int .u64 ((2 ^ k - 1:Nat):Int))) K=K (.v (.int .u64 ((n % 2 ^ k:Nat):Int))):=by
 have h63:2 ^ k≤2 ^ 63:=Nat.pow_le_pow_right afy hk;have e:(BitVec.ofNat 64 n &&& BitVec.ofNat 64 (2 ^ k - 1)).toNat=n % 2 ^ k:=by grind [BitVec.toNat_and,BitVec.toNat_ofNat,Nat.mod_eq_of_lt,Nat.and_two_pow_sub_one_eq_mod]
 have h:=(Gj n (2 ^ k - 1) (· &&& ·)).trans (congrArg (fun z:Nat=>(z:Int)) e)
 exact(MG ..).trans (congrArg (fun z=>K (.v (.int .u64 z))) h)
@[go_sem high] theorem u64_or(a b k:Nat)(ha:a<2 ^ k)(hlt:a+b*2 ^ k<18446744073709551616):cy U .or ty (.v (.int .u64 (a:Int))) (.v (.int .u64 ((b*2 ^ k:Nat):Int))) K=K (.v (.int .u64 ((a+b*2 ^ k:Nat):Int))):=by
 have h:=(Gj a (b*2 ^ k) (· ||| ·)).trans (congrArg (fun z:Nat=>(z:Int)) (Q8 a b k ha hlt))
 exact(Wj ..).trans (congrArg (fun z=>K (.v (.int .u64 z))) h)
theorem Dy(n k:Nat)(kk:IntKind)(hk:k≤63):cy U .shr ty (.v (.int .u64 (n:Int))) (.v (.int kk (k:Int))) K=K (.v (.int .u64 ((n / 2 ^ k:Nat):Int))):=by grind [MH,min,Int,IntKind.bits,Int.fdiv_eq_ediv_of_nonneg,Int.le_of_lt,Int.pow_pos]
@[go_sem high] theorem RA(n k:Nat)(kk:IntKind)(hk:k≤63):cy U .shl ty (.v (.int .u64 (n:Int))) (.v (.int kk (k:Int))) K=K (.v (.int .u64 ((n*2 ^ k % 18446744073709551616:Nat):Int))):=by
 rw[R5];have:min (k:Int).toNat IntKind.u64.bits=k:=aje;rw[this,show((n:Int)*2 ^ k)=((n*2 ^ k:Nat):Int) by simp,SJ]
 exact propext ⟨fun h=>h.2,fun h=>⟨Int.natCast_nonneg k,h⟩⟩
@[go_sem high] theorem XH(m:Nat):cy U .shl ty (.v (.int .u64 (m:Int))) (.v (.int .u64 1)) K=K (.v (.int .u64 ((m*2 % 18446744073709551616:Nat):Int))):=RA m 1 .u64 afy
@[go_sem high] theorem XI(m:Nat):cy U .shr ty (.v (.int .u64 (m:Int))) (.v (.int .u64 1)) K=K (.v (.int .u64 ((m / 2:Nat):Int))):=Dy m 1 .u64 afy
@[go_sem high] theorem XJ(m:Nat):cy U .shr ty (.v (.int .u64 (m:Int))) (.v (.int .u64 7)) K=K (.v (.int .u64 ((m / 128:Nat):Int))):=Dy m 7 .u64 afy
@[go_sem high] theorem XK(m:Nat):cy U .shr ty (.v (.int .u64 (m:Int))) (.v (.int .u64 8)) K=K (.v (.int .u64 ((m / 256:Nat):Int))):=Dy m 8 .u64 afy
@[go_sem high] theorem XG(m:Nat)(hm:m<18446744073709551616):cy U .and ty (.v (.int .u64 (m:Int))) (.v (.int .u64 1)) K=K (.v (.int .u64 ((m % 2:Nat):Int))):=u64_and m 1 hm afy
@[go_sem high] theorem UG(m:Nat)(hm:m<18446744073709551616):cy U .and ty (.v (.int .u64 (m:Int))) (.v (.int .u64 127)) K=K (.v (.int .u64 ((m % 128:Nat):Int))):=u64_and m 7 hm afy
@[go_sem high] theorem UH(m:Nat)(hm:m<18446744073709551616):cy U .and ty (.v (.int .u64 (m:Int))) (.v (.int .u64 255)) K=K (.v (.int .u64 ((m % 256:Nat):Int))):=u64_and m 8 hm afy
@[go_sem high] theorem L5(m:Nat)(hm:m<128):cy U .or ty (.v (.int .u64 (m:Int))) (.v (.int .u64 128)) K=K (.v (.int .u64 ((m+128:Nat):Int))):=u64_or m 1 7 hm afu
theorem wu8(n:Nat):IntKind.u8.wrap (n:Int)=((UInt8.ofNat n).toNat:Int):=by rfl
@[go_sem high] theorem VX(c:UInt8):cy U .and ty (.v (.int .u8 (c.toNat:Int))) (.v (.int .u8 127)) K=K (.v (.int .u8 ((c.toNat % 128:Nat):Int))):=by
 have hc:=c.toNat_lt;have e:(BitVec.ofNat 8 c.toNat &&& BitVec.ofNat 8 127).toNat=c.toNat % 128:=by rw[BitVec.toNat_and,BitVec.toNat_ofNat,BitVec.toNat_ofNat,Nat.mod_eq_of_lt afu,Nat.mod_eq_of_lt afu];exact Nat.and_two_pow_sub_one_eq_mod c.toNat 7
 have h:IntKind.u8.wrap (((BitVec.ofInt IntKind.u8.bits (c.toNat:Int) &&& BitVec.ofInt IntKind.u8.bits 127).toNat:Nat):Int)=((c.toNat % 128:Nat):Int):=by grind [IntKind.wrap,IntKind.signed,IntKind.bits]
 exact(MG ..).trans (congrArg (fun z=>K (.v (.int .u8 z))) h)
end
end Go.Ab
namespace Go.Proofs.YtelkmnkejghkeaaGreatDoor
open Go Go.Ab Go.Bf Tryz
variable {g h h0 H h':Heap}{y R:AV}{l p:Txt}{f:FuncId}{args cs:List AV}{Q:AV→Heap→Prop}{s s':RS}{a k n:Nat}{lo hi most:Int}{o:OpD}{ds:List qM}{sp S spl spj:List Nat}{d:D}{P:Program}{ρ:Env}{e e1:cg}
abbrev lR(h h' :Heap)(y:AV)(l:Txt):Prop:=Acc U 5 h h' y (l.map aK)
theorem u5n:(U 5).sz≠0:=afy
theorem aaj:(U 5).bytes≠0:=afy
theorem lR.frz(ha:lR g h y l):Frz g h y (.sl (l.map aK) .no):=by
 obtain⟨q,rfl⟩:=Acc.row ha;refine .sl _ _ _ rfl afu fun i h1 h2 j h3 h4=> .keep _ ?_
 simp only[afk,aK,AV.cells,List.getElem_singleton];exact ahk
theorem lR.pure(hf:∀g,Ab.Sub h g→ai prog f args g fun r h' =>lR g h' r l):ai prog f args h fun r h' =>r= .sl (l.map aK) .no∧h' =h:=
 ai.freeze fun g hg _=>(hf g hg).mono fun r h' hr=>⟨hr.1,_,lR.frz hr,rfl⟩
theorem lR.app{v:AV}{m:Txt}(ha:lR g h y l)(hsrc:∀k:List AV→Prop,k (m.map aK)→iY U 5 h v k)(hlen:l.length+m.length≤140737488355328)
  (hk:∀y' h',lR g h' y' (l++m)→Q y' h'):apK U h y v Q (.slice 5):=
 Acc.app ha u5n aaj hsrc (by grind [u5,jT]) (by grind [u5,jT]) (by grind [UF]) fun y' h' hy _=>hk y' h' afv
theorem Bw(y:AV)(l:Txt)(h:Heap)(hb:By h y l)(hl:l.length≤140737488355328):
  ai prog 53 [y] h fun r h' =>lR h h' r l:=by
 refine aw func53 8 [.tmp 2] ?_
 simp only[go_sem];refine hb.Ua fun b hbn=>?_
 simp only[go_sem];refine jR.intro (fun e=>?_) (fun e=>?_)
 ·have hl0:l= []:=Classical.byContradiction fun hh=>by grind
  subst hl0;simp only[go_sem];exact .same (.refl _) (Acc.full (.refl _))
 ·simp only[go_sem]
  rw[hb.src u5];simp only[go_sem];refine⟨afu,fun hn=>?_,fun hn=>?_⟩
  ·have hl0:l= []:=by simp_all
   subst hl0;simp only[go_sem];exact .same (.refl _) (Acc.full (.refl _))
  ·refine .own fun id hid=>?_
   simp only[go_sem];exact .same (.refl _) ⟨(Ab.Sub.refl h).new hid _,.inr ⟨id,hid,rfl,by rw[ah,u5,afj]⟩⟩
theorem UQ(n:Int)(hn:i64 n):∃m:Nat,IntKind.u64.wrap n=(m:Int)∧m<18446744073709551616∧(0≤n→m*2 % 18446744073709551616=zig n)∧(n<0→18446744073709551615 - m*2 % 18446744073709551616=zig n):=by
 unfold i64 at hn;refine⟨(n % 18446744073709551616).toNat,XY n,afu,fun h=>?_,fun h=>?_⟩<;>unfold zig
 ·grind
 grind
theorem Jm(y:AV)(l:Txt)(n:Int)(h:Heap)(hb:By h y l)(hl:l.length≤1000000)(hn:i64 n):
  ai prog 124 [y,.i n] h fun r h' =>lR h h' r (l++jh n):=by
 obtain⟨m,hm0,hm2,hm3,hm4⟩:=UQ n hn;have hz:=Px hn;have hz64:=F7 hn;refine ai.of_wp hU func124 rfl afJ 32 rfl [.tmp 4] rfl (afi rfl) ?_;refine .cut (fun ρ g=>g=h∧lk ρ 0=some y∧lk ρ 1=some (.i n)) (.vc hU hm ?_) ?_
 ·simp only[go_sem]
  refine⟨rfl,?_,?_⟩<;>simp only[go_sem]
 rintro ρ g ⟨rfl,r0,r1⟩
 refine .cut (fun ρ g' =>g' =g∧lk ρ 0=some y∧lk ρ 1=some (.i n)∧lk ρ 5=some (.v (.int .u64 ((m*2 % 18446744073709551616:Nat):Int)))) (.vc hU hm ?_) ?_
 ·simp only[go_sem,r0,r1,hm0]
  refine⟨rfl,?_,?_,?_⟩<;>simp only[go_sem,r0,r1]
 clear r0 r1
 rintro ρ g' ⟨rfl,r0,r1,r5⟩
 refine .cut (fun ρ g=>g=g'∧lk ρ 0=some y∧lk ρ 5=some (.v (.int .u64 ((zig n:Nat):Int)))) (.vc hU hm ?_) ?_
 ·cases d1:decide (n<0)
  ·have h0:=afm d1
   simp only[go_sem,r0,r1,r5,d1,hm3 afu];rw[←hm3 afu]at*;refine⟨rfl,?_,?_⟩<;>simp only[go_sem,r0,r5]
  ·have h0:=afl d1
   simp only[go_sem,r0,r1,r5,d1,hm4 h0,show m*2 % 18446744073709551616<18446744073709551616 from afu]
   refine⟨rfl,?_,?_⟩<;>simp only[go_sem,r0]
 clear r0 r1 r5 hm3 hm4
 rintro ρ g ⟨rfl,r0,r5⟩
 refine .vc hU hm ?_;simp only[go_sem,r0,r5];refine(Bw y l g hb afu).mono fun r h1 ha=>?_
 simp only[go_sem,r0,r5];refine .intro (fun k ρ h' =>∃(v:Nat) (o:Txt) (z:AV),lR g h' z (l++o)∧o++pM k v=jh n∧v<128 ^ k∧v<18446744073709551616∧0<k∧o.length≤10∧lk ρ 5=some (.v (.int .u64 (v:Int)))∧lk ρ 6=some z) 10 ?_ ?_
 ·refine⟨zig n,[],r,afv,rfl,hz,hz64,afy,afB,?_,?_⟩<;>simp only[go_sem,r5]
 clear r0 r5
 rintro k ρ h' ⟨v,o,z,ha,ho,hv,hv64,hk,hol,r5,r6⟩
 obtain⟨k,rfl⟩:∃j,k=j+1:=⟨k - 1,afu⟩;have hlo:=congrArg List.length ho;rw[afn]at hlo;have hnl:=ji n;cases d1:decide ((128:Int)≤(v:Int))
 ·have h0:=afm d1
  have e:pM (k+1) v= [UInt8.ofNat v]:=by unfold pM;grind
  simp only[go_sem,r5,r6,d1,wu8];refine lR.app ha (m:=[UInt8.ofNat v]) (fun _ hk=>hk) afv fun z' h2 ha' =>?_
  simp only[go_sem];refine .same (.refl _) ?_;rw[←ho,e,←List.append_assoc];exact ha'
 ·have h0:=afl d1
  have e:pM (k+1) v=UInt8.ofNat (v % 128+128)::pM k (v / 128):=by conv=>lhs;unfold pM;rw[if_neg afu]
  rw[e]at hlo ho;simp only[List.length_cons]at hlo;have hk1:0<k:=by grind
  simp only[go_sem,r5,r6,d1,hv64,L5 _ (Nat.mod_lt v (show 128>0 by decide)),wu8]
  refine lR.app ha (m:=[UInt8.ofNat (v % 128+128)]) (fun _ hk=>hk) afv fun z' h2 ha' =>?_
  simp only[go_sem,r5];refine⟨k,afu,v / 128,o++ [UInt8.ofNat (v % 128+128)],z',?_,?_,?_,afu,hk1,?_,?_,?_⟩
  ·grind
  ·grind
  ·omega
  ·grind
  ·rfl
  rfl
theorem Dh(y:AV)(l:Txt)(n:Int)(h:Heap)(hb:By h y l)(hl:l.length≤1000000)(hn:i64 n):
  ai prog 124 [y,.i n] h fun r h' =>r= .sl ((l++jh n).map aK) .no∧h' =h:=
 lR.pure fun g hg=>Jm y l n g (hb.sub hg) hl hn
theorem O5(y:AV)(l s:Txt)(h:Heap)(hb:By h y l)(hl:l.length≤1000000)(hs:s.length≤1000000):
  ai prog 125 [y,.s s] h fun r h' =>lR h h' r (l++dM s):=by
 have hn:i64 (s.length:Int):=⟨afu,afu⟩;refine aw func125 11 [.tmp 4] ?_
 simp only[go_sem];refine(Jm y l s.length h hb hl hn).mono fun r h' ha=>?_
 simp only[go_sem];have hnl:=ji s.length;refine lR.app ha (m:=s) (fun _ hk=>(Uu ..).mpr ⟨afJ,u5,hk⟩) afv fun z' h2 ha' =>?_
 simp only[go_sem];refine .same (.refl _) ?_;unfold dM;rw[←List.append_assoc];exact ha'
theorem yB(y:AV)(l s:Txt)(h:Heap)(hb:By h y l)(hl:l.length≤1000000)(hs:s.length≤1000000):
  ai prog 125 [y,.s s] h fun r h' =>r= .sl ((l++dM s).map aK) .no∧h' =h:=
 lR.pure fun g hg=>O5 y l s g (hb.sub hg) hl hs
theorem Jv(y:AV)(l:Txt)(v:bu)(h:Heap)(hb:By h y l)(hl:l.length≤900000)(hk:i64 v.kind)(hn:i64 v.n)(hs:v.s.length≤1000000):
  ai prog 126 [y,aT v] h fun r h' =>r= .sl ((l++oY v).map aK) .no∧h' =h:=by
 have hnl:=ji v.kind;have hl2:(l++jh v.kind).length≤1000000:=afv;refine aw func126 20 [.tmp 4] ?_
 simp only[go_sem,aT];intro id hid;simp only[go_sem];refine(Dh y l v.kind _ (hb.new hid) afu hk).pthen ?_;simp only[go_sem];refine(AB v.kind _).pthen ?_;simp only[go_sem];cases d1:(v.kind==3||v.kind==5)
 ·have e:¬(v.kind=3∨v.kind=5):=by grind
  simp only[go_sem];refine(Dh (.sl ((l++jh v.kind).map aK) .no) (l++jh v.kind) v.n _ (.sl _ _) hl2 hn).pthen ?_;simp only[go_sem];refine .mk _ (.refl _) (.aj hid) ⟨?_,rfl⟩;unfold oY;rw[if_neg e,List.append_assoc];rfl
 ·have e:v.kind=3∨v.kind=5:=by grind
  simp only[go_sem];refine(yB (.sl ((l++jh v.kind).map aK) .no) (l++jh v.kind) v.s _ (.sl _ _) hl2 hs).pthen ?_;simp only[go_sem];refine .mk _ (.refl _) (.aj hid) ⟨?_,rfl⟩;unfold oY;rw[if_pos e,List.append_assoc];rfl
theorem FW(b:Bool)(h:Heap):ai prog 127 [.b b] h fun r h' =>r=aT (dV b)∧h' =h:=by
 refine aw func127 8 [.cell 2 48] ?_
 simp only[go_sem];intro i1 h1;simp only[go_sem];intro i2 h2;have hne:=aH h2;have n2:=aA h2;cases b
 ·exact ala
 ·exact ala
def RO(s:RS):Blk:=.obj [.sl (s.b.map aK) .no,.i (s.at_:Int),.b s.bad] 310
def WfR(s:RS):Prop:=s.at_≤s.b.length∧s.b.length≤1000000
def RC(f:FuncId)(args:List AV)(s:RS)(R:AV)(s' :RS):Prop:=∀(h:Heap) (id:Nat),h id=some (RO s)→ai prog f (.ptr id 0::args) h fun r h' =>r=R∧h' =upd h id (some (RO s'))
theorem RC.go(hc:RC f args s R s'){id:Nat}(hid:h id=some (RO s))(k:Q R (upd h id (some (RO s')))):ai prog f (.ptr id 0::args) h Q:=
 (hc h id hid).mono fun r h' ⟨e1,e2⟩=>ah7
theorem Af(h:WfR s):WfR (mL s a):=by
 unfold mL;split
 ·rename_i hc
  exact⟨by have:=h.1;show a≤s.b.length;omega,h.2⟩
 omega
theorem Ag:∀(f i u:Nat) (l:Txt),(rU f i u l).2≤i+l.length∧((rU f i u l).2=0∨i<(rU f i u l).2)
 |0,_,_,_=>⟨Nat.zero_le _,.inl rfl⟩
 |_+1,_,_,[]=>⟨Nat.zero_le _,.inl rfl⟩
 |f+1,i,u,c::r=>by
  unfold rU;split
  ·omega
  ·split
   ·simp
   ·obtain⟨h1,h2⟩:=Ag f (i+1) (u+c.toNat % 128*128 ^ i) r
    grind
theorem mE(h:WfR s):WfR (rIn s lo hi).2:=by
 unfold rIn;split
 ·exact h
 ·simp only
  split
  ·exact Af h
  ·have:=(Ag 10 0 0 (s.b.drop s.at_)).1
   exact⟨afv,h.2⟩
theorem pX(s:RS)(a:Nat):RC 221 [.i (a:Int)] s (.tup []) (mL s a):=fun h id hid=>by
 refine aw func221 28 [] ?_
 have g:=hid;have d0:decide ((0:Int)≤(a:Int))=true:=decide_eq_true afu;unfold RO at g;cases d1:s.bad
 ·rw[d1]at g
  cases d2:decide ((a:Int)≤(s.at_:Int))
  ·have h2:=afm d2
   simp only[go_sem,g,d0,d2];exact .mk _ (.refl _) (.refl _) ⟨rfl,by simp_all [mL,if_neg,bH]⟩
  ·have h2:=afl d2
   simp only[go_sem,g,d0,d2];exact .mk _ (.refl _) (.refl _) ⟨rfl,by rw[mL,if_pos ⟨d1,afu⟩];rfl⟩
 ·rw[d1]at g
  simp only[go_sem,g];exact .mk _ (.refl _) (.refl _) ⟨rfl,by simp_all [mL,if_neg,bH]⟩
theorem MB(s:RS):RC 222 [] s (.i (s.at_:Int)) s:=fun h id hid=>by
 refine aw func222 7 [.tmp 2] ?_
 have g:=hid;unfold RO at g;simp only[go_sem,g];exact aid
theorem AO(s:RS):RC 223 [] s (.i (if s.bad then 7 else 0)) s:=fun h id hid=>by
 refine aw func223 7 [.tmp 2] ?_
 have g:=hid;unfold RO at g;cases d1:s.bad<;>rw[d1]at g<;>simp only[go_sem,g]<;>exact .mk _ (.refl _) (.refl _) ⟨rfl,(bH hid).symm⟩
theorem TD(s:RS):RC 172 [] s (.i (if LA s then 0 else 7)) s:=fun h id hid=>by
 refine aw func172 15 [.tmp 2] ?_
 have g:=hid;unfold RO at g;cases d1:decide ((s.at_:Int)<(s.b.length:Int))
 ·have h1:=afm d1
  simp only[go_sem,g,afj,d1];refine⟨.of afx,?_⟩;refine(AO s).go hid ?_;rw[bH hid];simp only[go_sem];refine .mk _ (.refl _) (.refl _) ⟨?_,rfl⟩;unfold LA;rw[decide_eq_true (show s.b.length≤s.at_ by omega)]
  cases s.bad<;>rfl
 ·have h1:=afl d1
  simp only[go_sem,g,afj,d1];refine⟨.of afx,?_⟩;refine .mk _ (.refl _) (.refl _) ⟨?_,(bH hid).symm⟩;unfold LA;rw[decide_eq_false (show¬s.b.length≤s.at_ by omega)]
  rfl
theorem Rh(y:AV)(l:Txt)(h:Heap)(hb:By h y l)(hl:l.length≤1000000):
  ai prog 167 [y] h fun r h' =>∃id,h id=none∧r= .ptr id 0∧h' =upd h id (some (RO ⟨l,0,false⟩)):=by
 refine aw func167 7 [.tmp 2] ?_
 simp only[go_sem];refine(lR.pure fun g hg=>Bw y l g (hb.sub hg) afu).pthen ?_
 simp only[go_sem];intro id hid;simp only[go_sem];exact .mk _ (.refl _) (.refl _) ⟨id,hid,rfl,rfl⟩
theorem Lm(s:RS)(hw:WfR s)(h:Heap)(id:Nat)(hid:h id=some (RO s)):
  ai prog 259 [.ptr id 0] h fun r h' =>r= .tup [.v (.int .i64 (rU 10 0 0 (s.b.drop s.at_)).1),.i ((rU 10 0 0 (s.b.drop s.at_)).2:Nat)]∧h' =h:=by
 refine aw func259 74 [.tmp 2,.tmp 3] ?_
 have hw1:=hw.1;have hw2:=hw.2;have g:=hid;unfold RO at g;simp only[go_sem];generalize hx:rU 10 0 0 (s.b.drop s.at_)=x;refine .intro (fun k ρ h' =>h' =h∧∃(i u:Nat),k+i=10∧rU k i u (s.b.drop (s.at_+i))=x∧u<128 ^ i∧lk ρ 0=some (.ptr id 0)∧lk ρ 4=some (.v (.int .u64 (u:Int)))∧lk ρ 5=some (.i (i:Int))) 10 ?_ ?_
 ·refine⟨rfl,0,0,rfl,hx,afy,?_,?_,?_⟩<;>simp only[go_sem]
  all_goals rfl
 rintro k ρ h' ⟨rfl,i,u,hki,hr,hu,r0,r4,r5⟩
 rcases k with _|k
 ·have d1:decide ((i:Int)<10)=false:=decide_eq_false afu
  simp only[go_sem,r0,r4,r5,d1];exact⟨.of afx,.mk _ (.refl _) (.refl _) ⟨ahD,rfl⟩⟩
 have d1:decide ((i:Int)<10)=true:=decide_eq_true afu;have w1:IntKind.i64.wrap ((s.at_:Int)+(i:Int))=((s.at_+i:Nat):Int):=af0;have w2:=afp i afu
 by_cases hc:s.at_+i<s.b.length
 case neg=>have d2:decide (((s.at_+i:Nat):Int)<(s.b.length:Int))=false:=decide_eq_false afu;simp only[go_sem,r0,r4,r5,d1,g,w1,afj,d2];rw[List.drop_eq_nil_of_le afu]at hr;exact⟨.of afx,.mk _ (.refl _) (.refl _) ⟨ahD,rfl⟩⟩
 have d2:decide (((s.at_+i:Nat):Int)<(s.b.length:Int))=true:=decide_eq_true afu;rw[List.drop_eq_getElem_cons hc]at hr;generalize hcc:s.b[s.at_+i]=c at hr;simp only[go_sem,r0,r4,r5,d1,g,w1,afj,d2];refine⟨.of afx,.of afx,?_⟩;refine .at (s.at_+i) (by simpa using hc) afD ?_
 simp only[go_sem,r0,r4,r5,afk,hcc,aK];have hclt:=c.toNat_lt;have pw:(2:Nat) ^ (7*i)=128 ^ i:=by rw[Nat.pow_mul]
 have p9:(128:Nat) ^ 9=9223372036854775808:=afy;unfold rU at hr
 by_cases hb:(i=9∧1<c.toNat)∨(0<i∧c.toNat=0)
 ·rw[if_pos hb]at hr
  by_cases h9:i=9∧1<c.toNat
  ·have d3:((i:Int)==9)=true:=by simp;omega
   have d4:decide ((1:Int)<(c.toNat:Int))=true:=decide_eq_true afu;simp only[go_sem,r0,r4,r5,d3,d4];exact .mk _ (.refl _) (.refl _) ⟨ahD,rfl⟩
  ·have hb:0<i∧c.toNat=0:=by omega
   have d4:decide ((1:Int)<(c.toNat:Int))=false:=decide_eq_false afu;have d5:decide ((0:Int)<(i:Int))=true:=decide_eq_true afu;have d6:((c.toNat:Int)==0)=true:=afZ;cases d3:((i:Int)==9)<;>simp only[go_sem,r0,r4,r5,d3,d4,d5,d6]<;>exact .mk _ (.refl _) (.refl _) ⟨ahD,rfl⟩
 rw[if_neg hb]at hr;have hi9:i≤9:=afu;have hle:c.toNat % 128*128 ^ i+u<18446744073709551616:=by
  by_cases e9:i=9
  ·subst e9
   rw[p9]at hu⊢;omega
  ·have h1:(128:Nat) ^ i≤128 ^ 8:=Nat.pow_le_pow_right afy afu
   have h2:(128:Nat) ^ 8=72057594037927936:=afy;exact alF
 have w3:IntKind.u64.wrap ((c.toNat % 128:Nat):Int)=((c.toNat % 128:Nat):Int):=RJ _ afu;have w4:IntKind.i64.wrap ((7:Int)*(i:Int))=((7*i:Nat):Int):=af0;have w5:IntKind.u64.wrap ((7*i:Nat):Int)=((7*i:Nat):Int):=RJ _ afu;have h63:7*i≤63:=afu;have hu' :u<2 ^ (7*i):=by rw[pw];exact hu
 have hor:u+c.toNat % 128*2 ^ (7*i)<18446744073709551616:=by rw[pw];omega
 have wS:c.toNat % 128*2 ^ (7*i) % 18446744073709551616=c.toNat % 128*2 ^ (7*i):=Nat.mod_eq_of_lt afu;have three:(i=9∧c.toNat≤1∧c.toNat≠0)∨(i<9∧0<i∧c.toNat≠0)∨i=0:=afu;cases d7:decide ((c.toNat:Int)<128)
 ·have h7:=afm d7
  rw[if_neg afu]at hr;have hnew:u+c.toNat % 128*2 ^ (7*i)<128 ^ (i+1):=by rw[pw,Nat.pow_succ];exact alF
  rw[←pw,Nat.add_assoc]at hr;generalize hU' :u+c.toNat % 128*2 ^ (7*i)=u' at hr hnew hor;rcases three with⟨t1,t2,t3⟩|⟨t1,t2,t3⟩|t1
  ·have d3:((i:Int)==9)=true:=by simp;omega
   have d4:decide ((1:Int)<(c.toNat:Int))=false:=decide_eq_false afu;have d5:decide ((0:Int)<(i:Int))=true:=decide_eq_true afu;have d6:((c.toNat:Int)==0)=false:=afZ;simp only[go_sem,r0,r4,r5,d3,d4,d5,d6,w3,w4,w5,h63,wS,hu',hU',hor,d7,w2];refine⟨k,afu,rfl,i+1,u',afu,hr,hnew,?_,?_,?_⟩<;>simp only[go_sem,r0]
  ·have d3:((i:Int)==9)=false:=by simp;omega
   have d5:decide ((0:Int)<(i:Int))=true:=decide_eq_true afu;have d6:((c.toNat:Int)==0)=false:=afZ;simp only[go_sem,r0,r4,r5,d3,d5,d6,w3,w4,w5,h63,wS,hu',hU',hor,d7,w2];refine⟨k,afu,rfl,i+1,u',afu,hr,hnew,?_,?_,?_⟩<;>simp only[go_sem,r0]
  ·have d3:((i:Int)==9)=false:=by simp;omega
   have d5:decide ((0:Int)<(i:Int))=false:=decide_eq_false afu;simp only[go_sem,r0,r4,r5,d3,d5,w3,w4,w5,h63,wS,hu',hU',hor,d7,w2];refine⟨k,afu,rfl,i+1,u',afu,hr,hnew,?_,?_,?_⟩<;>simp only[go_sem,r0]
 ·have h7:=afl d7
  rw[if_pos afu]at hr;have ec:c.toNat % 128=c.toNat:=afu;rw[←pw]at hr;have hU0:u+c.toNat*2 ^ (7*i)=u+c.toNat % 128*2 ^ (7*i):=by rw[ec]
  rw[hU0]at hr;generalize hU' :u+c.toNat % 128*2 ^ (7*i)=u' at hr hor;have w6:IntKind.i64.wrap ((u' / 2:Nat):Int)=((u' / 2:Nat):Int):=aW _ afu;have b1:(-9223372036854775808:Int)≤((u' / 2:Nat):Int):=afu;have b2:((u' / 2:Nat):Int)≤9223372036854775807:=afu;have un:unzig u' =if u' % 2=1 then -((u' / 2:Nat):Int) - 1 else((u' / 2:Nat):Int):=rfl
  cases d8:(((u' % 2:Nat):Int)==1)
  ·have h8:¬u' % 2=1:=by intro hh;rw[hh]at d8;cases d8
   rw[if_neg h8]at un;rw[un]at hr;rcases three with⟨t1,t2,t3⟩|⟨t1,t2,t3⟩|t1
   ·have d3:((i:Int)==9)=true:=by simp;omega
    have d4:decide ((1:Int)<(c.toNat:Int))=false:=decide_eq_false afu;have d5:decide ((0:Int)<(i:Int))=true:=decide_eq_true afu;have d6:((c.toNat:Int)==0)=false:=afZ;simp only[go_sem,r0,r4,r5,d3,d4,d5,d6,w3,w4,w5,h63,wS,hu',hU',hor,d7,w6,d8,w2];exact .mk _ (.refl _) (.refl _) ⟨ahD,rfl⟩
   ·have d3:((i:Int)==9)=false:=by simp;omega
    have d5:decide ((0:Int)<(i:Int))=true:=decide_eq_true afu;have d6:((c.toNat:Int)==0)=false:=afZ;simp only[go_sem,r0,r4,r5,d3,d5,d6,w3,w4,w5,h63,wS,hu',hU',hor,d7,w6,d8,w2];exact .mk _ (.refl _) (.refl _) ⟨ahD,rfl⟩
   ·have d3:((i:Int)==9)=false:=by simp;omega
    have d5:decide ((0:Int)<(i:Int))=false:=decide_eq_false afu;simp only[go_sem,r0,r4,r5,d3,d5,w3,w4,w5,h63,wS,hu',hU',hor,d7,w6,d8,w2];exact .mk _ (.refl _) (.refl _) ⟨ahD,rfl⟩
  ·have h8:u' % 2=1:=by have:=eq_of_beq d8;omega
   rw[if_pos h8]at un;rw[un]at hr;rcases three with⟨t1,t2,t3⟩|⟨t1,t2,t3⟩|t1
   ·have d3:((i:Int)==9)=true:=by simp;omega
    have d4:decide ((1:Int)<(c.toNat:Int))=false:=decide_eq_false afu;have d5:decide ((0:Int)<(i:Int))=true:=decide_eq_true afu;have d6:((c.toNat:Int)==0)=false:=afZ;simp only[go_sem,r0,r4,r5,d3,d4,d5,d6,w3,w4,w5,h63,wS,hu',hU',hor,d7,w6,d8,b1,b2,w2];exact .mk _ (.refl _) (.refl _) ⟨ahD,rfl⟩
   ·have d3:((i:Int)==9)=false:=by simp;omega
    have d5:decide ((0:Int)<(i:Int))=true:=decide_eq_true afu;have d6:((c.toNat:Int)==0)=false:=afZ;simp only[go_sem,r0,r4,r5,d3,d5,d6,w3,w4,w5,h63,wS,hu',hU',hor,d7,w6,d8,b1,b2,w2];exact .mk _ (.refl _) (.refl _) ⟨ahD,rfl⟩
   ·have d3:((i:Int)==9)=false:=by simp;omega
    have d5:decide ((0:Int)<(i:Int))=false:=decide_eq_false afu;simp only[go_sem,r0,r4,r5,d3,d5,w3,w4,w5,h63,wS,hu',hU',hor,d7,w6,d8,b1,b2,w2];exact .mk _ (.refl _) (.refl _) ⟨ahD,rfl⟩
theorem RC.step(hc:RC f args s R s'){id:Nat}(hid:h id=some (RO s))
  (k:∀h2,h2=upd h id (some (RO s'))→h2 id=some (RO s')→(∀b,upd h2 id b=upd h id b)→Q R h2):ai prog f (.ptr id 0::args) h Q:=
 hc.go hid (k _ rfl (ah ..) fun b=>by grind [ah,ag])
theorem EI(s:RS)(hw:WfR s)(lo hi:Int):RC 220 [.i lo,.i hi] s (.v (.int .i64 (rIn s lo hi).1)) (rIn s lo hi).2:=fun h id hid=>by
 have hw1:=hw.1;have hw2:=hw.2;refine aw func220 45 [.tmp 6] ?_
 have g:=hid;unfold RO at g;cases d1:s.bad
 case true=>rw[d1]at g;simp only[go_sem,g];exact .mk _ (.refl _) (.refl _) ⟨by rw[rIn,if_pos d1];rfl,by rw[rIn,if_pos d1,bH hid]⟩
 have e:rIn s lo hi=(let x:=rU 10 0 0 (s.b.drop s.at_);if x.2=0∨x.1<lo∨hi<x.1 then(0,mL s s.at_)else(x.1,{s with at_:=s.at_+x.2})):=by simp_all [rIn,if_neg]
 rw[d1]at g;simp only[go_sem,g];refine(Lm s hw h id hid).pthen ?_;have hlen:=(Ag 10 0 0 (s.b.drop s.at_)).1;rw[List.length_drop]at hlen;generalize rU 10 0 0 (s.b.drop s.at_)=x at e hlen⊢;obtain⟨n,z⟩:=x;simp only at e hlen⊢
 by_cases hb:z=0∨n<lo∨hi<n
 ·rw[if_pos hb]at e
  rw[e];have fin:∀P:Prop,P→P:=fun _ p=>p
  rcases Decidable.em (z=0)with c1|c1
  ·have d2:((z:Int)==0)=true:=by grind
   simp only[go_sem,g,d2];refine(pX s s.at_).go hid ?_;exact akm
  have d2:((z:Int)==0)=false:=afv;rcases Decidable.em (n<lo)with c2|c2
  ·simp only[go_sem,g,d2,decide_eq_true c2]
   refine(pX s s.at_).go hid ?_;exact akm
  ·simp only[go_sem,g,d2,decide_eq_false c2,decide_eq_true (show hi<n by omega)]
   refine(pX s s.at_).go hid ?_;exact akm
 ·rw[if_neg hb]at e
  rw[e];have d2:((z:Int)==0)=false:=afv;have w1:IntKind.i64.wrap ((s.at_:Int)+(z:Int))=((s.at_+z:Nat):Int):=afG;simp only[go_sem,g,d2,decide_eq_false (show¬n<lo by omega),decide_eq_false (show¬hi<n by omega),w1]
  exact .mk _ (.refl _) (.refl _) ⟨rfl,by grind [RO]⟩
theorem Hi(s:RS)(hw:WfR s):RC 168 [] s (.v (.int .i64 (gK s).1)) (gK s).2:=fun h id hid=>by
 refine aw func168 5 [.tmp 2] ?_
 simp only[go_sem];refine(EI s hw _ _).go hid ?_;exact akm
theorem Dn(hw:WfR s)(h0:lo≤0)(h1:0≤hi):lo≤(rIn s lo hi).1∧(rIn s lo hi).1≤hi:=by grind [rIn]
theorem hY(hw:WfR s)(hm:0≤most):WfR (bZ s most).2:=by
 have h1:=mE (lo:=0) (hi:=most) hw;have h2:=Dn (lo:=0) (hi:=most) hw (Int.le_refl 0) hm;unfold bZ;simp only;split
 ·exact Af h1
 ·exact⟨afv,h1.2⟩
theorem qC(s:RS)(hw:WfR s)(most:Int)(hmo:0≤most):RC 169 [.i most] s (.s (bZ s most).1) (bZ s most).2:=fun h id hid=>by
 have hx:=mE (lo:=0) (hi:=most) hw;have hx2:=Dn (lo:=0) (hi:=most) hw (Int.le_refl 0) hmo;refine aw func169 59 [.tmp 4] ?_
 have g:=hid;unfold RO at g;simp only[go_sem,g];refine(EI s hw 0 most).step hid ?_;have e:bZ s most=(let x:=rIn s 0 most;if x.2.bad∨(x.2.b.length:Int) - x.2.at_<x.1 then([],mL x.2 s.at_)else((x.2.b.drop x.2.at_).take x.1.toNat,{x.2 with at_:=x.2.at_+x.1.toNat})):=rfl
 generalize rIn s 0 most=x at e hx hx2⊢;obtain⟨n,t⟩:=x;simp only at e hx hx2⊢;obtain⟨m,rfl⟩:=Int.eq_ofNat_of_zero_le hx2.1;have ht1:=hx.1;have ht2:=hx.2;intro h2 eh2 hid2 hup;have g2:=hid2;unfold RO at g2;have w1:IntKind.i64.wrap ((t.b.length:Int) - (t.at_:Int))=(t.b.length:Int) - (t.at_:Int):=aW _ afu;clear eh2 hid g
 by_cases hb:t.bad=true∨(t.b.length:Int) - t.at_<((m:Nat):Int)
 ·rw[if_pos hb]at e
  rw[e];cases d1:t.bad<;>rw[d1]at g2
  ·have hb:(t.b.length:Int) - t.at_<((m:Nat):Int):=by grind
   simp only[go_sem,g2,w1,afj,decide_eq_true hb];exact akO
  ·simp only[go_sem,g2]
   exact akO
 ·rw[if_neg hb]at e
  rw[e];have d1:t.bad=false:=by grind
  rw[d1]at g2;have hle:t.at_+m≤t.b.length:=afu;have w2:IntKind.i64.wrap ((t.at_:Int)+(m:Int))=((t.at_+m:Nat):Int):=afG;have w3:IntKind.i64.wrap (((t.at_+m:Nat):Int) - (m:Int))=(t.at_:Int):=afG;simp only[go_sem,g2,w1,afj,decide_eq_false (show¬(t.b.length:Int) - t.at_<((m:Nat):Int) by omega)]
  refine⟨.of afx,?_⟩;simp only[go_sem,g2,w2,w3,afj];exact⟨.of afx,afu,afu,afu,.mk _ (.refl _) (.refl _) ⟨by rw[show t.at_+m - t.at_=m by omega];rfl,by grind [RO]⟩⟩
structure RAt (h0:Heap) (id:Nat) (h:Heap) (s:RS):Prop where
 here:h id=some (RO s)
 sub:∀j b,j≠id→h0 j=some b→h j=some b
theorem RAt.start{id:Nat}(hid:h id=some (RO s)):RAt h id h s:=⟨hid,fun _ _ _ e=>e⟩
theorem RAt.fin{id:Nat}(hr:RAt h0 id h s):Ab.Sub (upd h0 id (some (RO s))) h:=fun j b e=>by
 by_cases hj:j=id
 ·subst hj;rw[ah]at e;rw[hr.here,e]
 ·rw[ag _ _ hj]at e;exact hr.sub j b hj e
theorem RAt.ne{id i:Nat}(hr:RAt h0 id h s)(hi:h i=none):i≠id:=fun e=>by rw[e,hr.here]at hi;grind
theorem RAt.none{id i:Nat}(hr:RAt h0 id h s)(hi:h i=Option.none):h0 i=Option.none:=by
 cases e:h0 i with
 |none=>rfl
 |some b=>rw[hr.sub i b (hr.ne hi) e]at hi;omega
theorem RAt.put{id i:Nat}{b:Option Blk}(hr:RAt h0 id h s)(hi:h0 i=Option.none)(hn:i≠id):RAt h0 id (upd h i b) s:=
 ⟨by rw[ag _ _ (Ne.symm hn)];exact hr.here,fun j c hj e=>by
  rw[ag _ _ fun e2=>afv]
  exact hr.sub j c hj e⟩
theorem RAt.step{id:Nat}(hr:RAt h0 id h s)(hc:RC f args s R s')(k:∀h2,RAt h0 id h2 s'→(∀j,j≠id→h2 j=h j)→Q R h2):ai prog f (.ptr id 0::args) h Q:=
 hc.go hr.here (k _ ⟨ah ..,fun j b hj e=>by rw[ag _ _ hj];exact hr.sub j b hj e⟩ fun j hj=>ag _ _ hj)
theorem Jy(hw:WfR s):WfR (qT s).2:=by
 have h1:=mE (lo:=1) (hi:=5) hw;unfold qT;simp only;generalize rIn s 1 5=x at h1⊢;have h2:WfR (if pq x.1=true then((⟨x.1,0,(bZ x.2 64).1⟩,(bZ x.2 64).2):bu×RS)else(⟨x.1,(gK x.2).1,[]⟩,(gK x.2).2)).2:=by
  split
  ·grind [hY]
  ·exact mE h1
 generalize (if pq x.1=true then((⟨x.1,0,(bZ x.2 64).1⟩,(bZ x.2 64).2):bu×RS)else(⟨x.1,(gK x.2).1,[]⟩,(gK x.2).2))=y at h2⊢
 split
 ·exact ajE
 ·split
  ·exact Af h2
  ·exact ajE
theorem Is(s:RS)(hw:WfR s):RC 171 [] s (aT (qT s).1) (qT s).2:=fun h id hid=>by
 have hw1:=mE (lo:=1) (hi:=5) hw;refine aw func171 31 [.cell 2 48] ?_
 simp only[go_sem];intro i1 h1;have a0:=RAt.start hid;have n1:=a0.ne h1;have m1:=a0.none h1;have a1:=a0.put (b:=some (.obj [.i 0,.i 0,.s []] 48)) m1 n1;simp only[go_sem];refine a1.step (MB s) fun g1 b1 k1=>?_
 have c1:=k1 i1 n1;rw[ah]at c1;clear a0 a1 k1;simp only[go_sem];refine b1.step (EI s hw 1 5) fun g2 b2 k2=>?_
 have c2:=(k2 i1 n1).trans c1;clear b1 c1 k2;simp only[go_sem];intro i2 h2;have n2:=b2.ne h2;have m2:=b2.none h2;have n21:i2≠i1:=fun e=>by rw[e,c2]at h2;cases h2
 have e:qT s=(let x:=rIn s 1 5;let y:bu×RS:=if pq x.1 then(let t:=bZ x.2 64;(⟨x.1,0,t.1⟩,t.2))else(let t:=gK x.2;(⟨x.1,t.1,[]⟩,t.2));if y.2.bad then(aq,y.2)else if bz y.1=false then(aq,mL y.2 s.at_)else y):=rfl
 generalize rIn s 1 5=x at e hw1 b2⊢;obtain⟨kd,t⟩:=x;simp only at e hw1 b2⊢;have b3:=b2.put (b:=some (.obj [.i kd,.i 0,.s []] 48)) m2 n2;have c3:upd g2 i2 (some (.obj [.i kd,.i 0,.s []] 48)) i1=_:=(ag _ _ (Ne.symm n21)).trans c2;have d3:upd g2 i2 (some (.obj [.i kd,.i 0,.s []] 48)) i2=_:=ah ..;clear b2 c2 h2;simp only[go_sem,ah];generalize upd g2 i2 (some (.obj [.i kd,.i 0,.s []] 48))=g3 at b3 c3 d3⊢;refine(AB kd _).pthen ?_;simp only[go_sem];cases dt:(kd==3||kd==5)
 ·have et:pq kd=false:=dt
  rw[et]at e;simp only[Bool.false_eq_true,if_false]at e;simp only[go_sem];refine b3.step (Hi t hw1) fun g4 b4 k4=>?_
  have c4:=(k4 i1 n1).trans c3;have d4:=(k4 i2 n2).trans d3;have e5:qT s=(if(gK t).2.bad then(aq,(gK t).2)else if bz (⟨kd,(gK t).1,[]⟩:bu)=false then(aq,mL (gK t).2 s.at_)else((⟨kd,(gK t).1,[]⟩:bu),(gK t).2)):=e
  have wT:WfR (gK t).2:=mE hw1;have b5:=b4.put (b:=(some (.obj [.i kd,.v (.int .i64 (gK t).1),.s []] 48))) m2 n2;have c5:upd g4 i2 (some (.obj [.i kd,.v (.int .i64 (gK t).1),.s []] 48)) i1=_:=(ag _ _ (Ne.symm n21)).trans c4;have d5:upd g4 i2 (some (.obj [.i kd,.v (.int .i64 (gK t).1),.s []] 48)) i2=_:=ah ..;simp only[go_sem,d4];generalize upd g4 i2 (some (.obj [.i kd,.v (.int .i64 (gK t).1),.s []] 48))=g5 at b5 c5 d5⊢;clear b4 c4 d4 k4 e;refine b5.step (AO _) fun g6 b6 k6=>?_
  have c6:=(k6 i1 n1).trans c5;have d6:=(k6 i2 n2).trans d5;clear b5 c5 d5 k6;cases db:(gK t).2.bad
  ·rw[db,if_neg afy]at e5
   simp only[go_sem,db,d6];refine(gr (⟨kd,(gK t).1,[]⟩:bu) g6).pthen ?_;cases dv:bz (⟨kd,(gK t).1,[]⟩:bu)
   ·exact aky
   ·exact alr
  ·exact als
 ·have et:pq kd=true:=dt
  rw[et]at e;simp only[if_true]at e;simp only[go_sem];refine b3.step (qC t hw1 64 afy) fun g4 b4 k4=>?_
  have c4:=(k4 i1 n1).trans c3;have d4:=(k4 i2 n2).trans d3;have e5:qT s=(if(bZ t 64).2.bad then(aq,(bZ t 64).2)else if bz (⟨kd,0,(bZ t 64).1⟩:bu)=false then(aq,mL (bZ t 64).2 s.at_)else((⟨kd,0,(bZ t 64).1⟩:bu),(bZ t 64).2)):=e
  have wT:WfR (bZ t 64).2:=hY hw1 afy;have b5:=b4.put (b:=(some (.obj [.i kd,.i 0,.s (bZ t 64).1] 48))) m2 n2;have c5:upd g4 i2 (some (.obj [.i kd,.i 0,.s (bZ t 64).1] 48)) i1=_:=(ag _ _ (Ne.symm n21)).trans c4;have d5:upd g4 i2 (some (.obj [.i kd,.i 0,.s (bZ t 64).1] 48)) i2=_:=ah ..;simp only[go_sem,d4];generalize upd g4 i2 (some (.obj [.i kd,.i 0,.s (bZ t 64).1] 48))=g5 at b5 c5 d5⊢;clear b4 c4 d4 k4 e;refine b5.step (AO _) fun g6 b6 k6=>?_
  have c6:=(k6 i1 n1).trans c5;have d6:=(k6 i2 n2).trans d5;clear b5 c5 d5 k6;cases db:(bZ t 64).2.bad
  ·rw[db,if_neg afy]at e5
   simp only[go_sem,db,d6];refine(gr (⟨kd,0,(bZ t 64).1⟩:bu) g6).pthen ?_;cases dv:bz (⟨kd,0,(bZ t 64).1⟩:bu)
   ·exact aky
   ·exact alr
  ·exact als
theorem Jx(hw:WfR s):WfR (qv s).2:=by grind [qv,mE,Jy]
theorem T6(s:RS)(hw:WfR s)(q:Perm):RC 170 [.sl (s.b.map aK) q] s (aT (qv s).1) (qv s).2:=fun h id hid=>by
 have hw1:=hw.1;have hw2:=hw.2;refine aw func170 25 [.cell 4 48] ?_
 simp only[go_sem];intro i1 h1;have a0:=RAt.start hid;have n1:=a0.ne h1;have m1:=a0.none h1;have a1:=a0.put (b:=some (.obj [.i 0,.i 0,.s []] 48)) m1 n1;simp only[go_sem];refine a1.step (MB s) fun g1 b1 k1=>?_
 have c1:=k1 i1 n1;rw[ah]at c1;clear a0 a1 k1
 by_cases hlt:s.at_<s.b.length
 ·have d1:decide ((s.at_:Int)<(s.b.length:Int))=true:=decide_eq_true afu
  simp only[go_sem,afj,d1];refine b1.step (MB s) fun g2 b2 k2=>?_
  have c2:=(k2 i1 n1).trans c1;clear b1 c1 k2;simp only[go_sem];refine .at s.at_ afv afD ?_;have hg:s.b.getD s.at_ 0=s.b[s.at_]:=afv;generalize hcc:s.b[s.at_]=c at hg;cases d2:((c.toNat:Int)==0)
  ·have hne:c≠0:=fun e=>by simp_all
   have e:qv s=qT s:=by simp_all [qv,if_neg]
   rw[e];simp only[go_sem,afk,hcc,aK,d2];refine b2.step (Is s hw) fun g3 b3 k3=>?_
   have c3:=(k3 i1 n1).trans c2;simp only[go_sem,c3,ah,aT];exact aih
  ·have he:c=0:=by have:=eq_of_beq d2;exact UInt8.toNat_inj.1 afv
   have e:qv s=(aq,(rIn (rIn s 0 0).2 0 0).2):=by simp_all [qv,if_pos]
   rw[e];simp only[go_sem,afk,hcc,aK,d2];refine b2.step (EI s hw 0 0) fun g3 b3 k3=>?_
   have c3:=(k3 i1 n1).trans c2;simp only[go_sem];refine b3.step (EI _ (mE hw) 0 0) fun g4 b4 k4=>?_
   have c4:=(k4 i1 n1).trans c3;simp only[go_sem,c4,ah];exact .mk _ (.refl _) (b4.put m1 n1).fin ⟨rfl,rfl⟩
 ·have d1:decide ((s.at_:Int)<(s.b.length:Int))=false:=decide_eq_false afu
  have e:qv s=qT s:=by simp_all [qv,if_neg]
  rw[e];simp only[go_sem,afj,d1];refine b1.step (Is s hw) fun g3 b3 k3=>?_
  have c3:=(k3 i1 n1).trans c1;simp only[go_sem,c3,ah,aT];exact aih
theorem DU(a b:Txt)(p q:Perm)(h:Heap):ai prog 67 [.sl (a.map aK) p,.sl (b.map aK) q] h fun r h' =>r= .b (decide (a=b))∧h' =h:=by
 refine aw func67 10 [.tmp 4] ?_
 simp only[go_sem];exact .same (.refl _) ⟨by grind [ax],rfl⟩
structure OpL (o:OpD):Prop where
 subj:o.subj.length≤100000
 case:o.case.length≤100000
 field:o.field.length≤100000
 to:o.to.length≤100000
 val:o.val.s.length≤100000
 text:o.text.length≤100000
 reason:o.reason.length≤100000
def opT(o:OpD):List Txt:=[o.subj,o.case,o.field,o.to]
theorem OF(o:OpD)(h64:mN o)(hl:OpL o)(h:Heap):ai prog 65 [opA o] h fun r h' =>r= .sl ((gE o).map aK) .no∧h' =h:=by
 obtain⟨k1,k2,k3,k4⟩:=h64;have hnk:=ji o.kind;obtain⟨l1,l2,l3,l4,l5,l6,l7⟩:=hl;have t1:=dG o.subj;have t2:=dG o.case;have t3:=dG o.field;have t4:=dG o.to;refine aw func65 46 [.tmp 2] ?_
 simp only[go_sem,opA,opC];intro id hid;simp only[go_sem];refine(Dh (.sl [] .full) [] o.kind _ (.nil _) afB k1).pthen ?_;simp only[go_sem];generalize hH:upd h id _=H;have hHid:H id=some (.obj (opC o) 50):=by rw[←hH];exact ah ..
 have hsub:Ab.Sub h H:=by rw[←hH];exact(Sub.refl h).new hid _
 unfold opC at hHid;clear hH;refine .intro (fun m ρ h' =>h' =H∧∃i:Nat,i≤4∧m=4 - i∧lk ρ 1=some (.ptr id 0)∧lk ρ 3=some (.sl ((jh o.kind++(((opT o).map dM).take i).flatten).map aK) .no)∧(∃q,lk ρ 17=some (.sl ((opT o).map .s) q))∧lk ρ 18=some (.i 4)∧lk ρ 19=some (.i i)) 4 ?_ ?_
 ·refine⟨rfl,0,afu,rfl,?_,?_,?_,?_,?_⟩
  ·rfl
  ·simp only[go_sem]
   simp
  ·refine⟨?_,?_⟩
   rotate_left
   ·simp only[go_sem]
    rfl
  ·rfl
  rfl
 rintro m ρ h' ⟨rfl,i,hi,rfl,r1,r3,⟨q,r17⟩,r18,r19⟩
 have hLl:((opT o).map dM).length=4:=rfl;have hOl:(opT o).length=4:=rfl;have hF:((opT o).map dM).flatten.length≤400040:=by grind [opT]
 have hf:=pZ ((opT o).map dM) i;have hall:∀t∈opT o,t.length≤100000:=by simp_all [opT]
 by_cases hc:i<4
 ·have d1:decide ((i:Int)<4)=true:=decide_eq_true afu
  have w1:IntKind.i64.wrap ((i:Int)+1)=((i+1:Nat):Int):=afG;have hs:=oP ((opT o).map dM) i afu;rw[afk]at hs;have ht:=hall _ (afo (show i<(opT o).length by omega))
  simp only[go_sem,r1,r3,r17,r18,r19,d1];refine .at i afv afD ?_;simp only[go_sem,r1,r3,r17,r18,r19,afk];refine(yB _ (jh o.kind++(((opT o).map dM).take i).flatten) (opT o)[i] _ (.sl _ _) afv afu).pthen ?_;simp only[go_sem,r1,r3,r17,r18,r19,w1];refine⟨3 - i,afu,rfl,i+1,afu,afu,?_,?_,⟨q,?_⟩,?_,?_⟩
  ·simp only[go_sem,r1]
  ·simp only[go_sem,hs,List.append_assoc]
   rfl
  ·simp only[go_sem,r17]
  ·simp only[go_sem,r18]
  ·simp only[go_sem]
 ·have e:i=4:=by omega
  subst e;have e4:(((opT o).map dM).take 4).flatten=dM o.subj++(dM o.case++(dM o.field++dM o.to)):=by simp[opT]
  rw[e4]at r3 hf;have d1:decide ((4:Int)<4)=false:=rfl;generalize hP:jh o.kind++(dM o.subj++(dM o.case++(dM o.field++dM o.to)))=P1 at r3;have hP1:P1.length≤400050:=afv;simp only[go_sem,r1,r3,r17,r18,r19,hHid,d1];refine .quiet afx ?_;simp only[go_sem,r1,r3,r17,r18,r19,hHid,d1];refine⟨_,Jv _ P1 o.val _ (.sl _ _) afu k2 k3 afu,?_⟩;have e2:(oY o.val).length≤100020:=by grind [oY,afn,ji,dG]
  simp only[go_sem,r1,hHid];refine⟨_,Dh _ (P1++oY o.val) o.review _ (.sl _ _) afv k4,?_⟩;generalize hP2:P1++oY o.val++jh o.review=P2;have hP2l:P2.length≤500080:=by grind [ji,afn]
  simp only[go_sem,r1,hHid];refine .quiet afx ?_;simp only[go_sem,r1,hHid];refine⟨_,yB _ P2 o.text _ (.sl _ _) afu afu,?_⟩;have e3:=dG o.text;simp only[go_sem,r1,hHid];refine⟨_,yB _ (P2++dM o.text) o.reason _ (.sl _ _) afv afu,?_⟩;generalize hP3:P2++dM o.text++dM o.reason=P3;have e4:=dG o.reason;have hP3l:P3.length≤800000:=afv;simp only[go_sem,r1,hHid];refine(FW o.glass _).pthen ?_;simp only[go_sem];refine(Jv _ P3 (dV o.glass) _ (.sl _ _) afu ?_ ?_ ?_).pthen ?_
  ·cases o.glass<;>exact⟨afy,afy⟩
  ·cases o.glass<;>exact⟨afy,afy⟩
  ·cases o.glass<;>decide
  simp only[go_sem];refine .mk _ (.refl _) hsub ⟨?_,rfl⟩
  grind [gE,List.append_assoc,ax]
theorem lR.base(hs:Ab.Sub h H)(ha:lR H g y l):lR h g y l:=by
 obtain⟨h1,h2|⟨id,i1,h2,h3⟩⟩:=ha
 ·exact⟨hs.trans h1,.inl h2⟩
 ·exact⟨hs.trans h1,.inr ⟨id,hs.none i1,h2,h3⟩⟩
theorem Ri(ch:BitVec 64)(o:OpD)(h64:mN o)(hl:OpL o)(hp:(gE o).length≤1000000)(h:Heap):ai prog 26 [.v (.int .u64 (ch.toNat:Int)),opA o] h fun r h' =>lR h h' r (cF ch o):=by
 refine aw func26 20 [.tmp 4] ?_
 simp only[go_sem,opA,opC];intro id hid;generalize hH:upd h id _=H;have hHid:H id=some (.obj (opC o) 50):=by rw[←hH];exact ah ..
 have hsub:Ab.Sub h H:=by rw[←hH];exact(Sub.refl h).new hid _
 clear hH;simp only[go_sem];refine .intro (fun k ρ g=>∃(i:Nat) (v:BitVec 64) (l:Txt) (z:AV),lR H g z l∧i+k=8∧l++rC k v=rC 8 ch∧lk ρ 0=some (.v (.int .u64 (v.toNat:Int)))∧lk ρ 3=some (.ptr id 0)∧lk ρ 5=some z∧lk ρ 6=some (.i (i:Int))) 8 ?_ ?_
 ·refine⟨0,ch,[],_,Acc.full (.refl _),rfl,rfl,?_,?_,?_,?_⟩<;>simp only[go_sem]
  all_goals rfl
 rintro k ρ g ⟨i,v,l,z,ha,hk,hv,r0,r3,r5,r6⟩
 have hll:=congrArg List.length hv;rw[afn,fV,fV]at hll;rcases k with _|k
 ·have d1:decide ((i:Int)<8)=false:=decide_eq_false afu
  have hg:=ha.1 _ _ hHid;unfold opC at hg;rw[show rC 0 v= []from rfl,List.append_nil]at hv
  subst hv;simp only[go_sem,r0,r3,r5,r6,d1,hg];refine(OF o h64 hl g).pthen ?_;simp only[go_sem];refine lR.app ha (m:=gE o) (fun _ hk=>hk) afu fun z' h2 ha' =>?_
  simp only[go_sem];exact .same (.refl _) (ha'.base hsub)
 ·have d1:decide ((i:Int)<8)=true:=decide_eq_true afu
  have w1:IntKind.i64.wrap ((i:Int)+1)=((i+1:Nat):Int):=afG;simp only[go_sem,r0,r3,r5,r6,d1,wu8];refine lR.app ha (m:=[UInt8.ofNat v.toNat]) (fun _ hk=>hk) afv fun z' h2 ha' =>?_
  have e8:v.toNat / 256=(v>>>8).toNat:=ahV;simp only[go_sem,r0,r3,r5,r6,w1,e8];refine⟨k,afu,i+1,v>>>8,l++ [UInt8.ofNat v.toNat],z',ha',afu,?_,?_,?_,?_,?_⟩
  ·grind [rC]
  all_goals simp only[go_sem,r3]
theorem HP(ch:BitVec 64)(o:OpD)(h64:mN o)(hl:OpL o)(hp:(gE o).length≤1000000)(h:Heap):ai prog 26 [.v (.int .u64 (ch.toNat:Int)),opA o] h fun r h' =>r= .sl ((cF ch o).map aK) .no∧h' =h:=
 lR.pure fun g _=>Ri ch o h64 hl hp g
theorem u0(hw:WfR s):i64 (gK s).1:=Dn hw afy afy
theorem JT:i64 aq.kind∧i64 aq.n:=⟨⟨afy,afy⟩,⟨afy,afy⟩⟩
theorem Jw:(mL s a).b=s.b:=by grind [mL]
theorem Sv:(rIn s lo hi).2.b=s.b:=by grind [rIn,Jw]
theorem yt{m:Int}:(bZ s m).2.b=s.b:=by grind [bZ,Jw,Sv]
theorem Rc(hw:WfR s):i64 (qT s).1.kind∧i64 (qT s).1.n:=by
 have hz:=JT;have h1:=mE (lo:=1) (hi:=5) hw;have h2: -1≤(rIn s 1 5).1∧(rIn s 1 5).1≤5:=by grind [rIn]
 unfold qT;simp only;generalize rIn s 1 5=x at h1 h2⊢;have h3:i64 (if pq x.1=true then((⟨x.1,0,(bZ x.2 64).1⟩,(bZ x.2 64).2):bu×RS)else(⟨x.1,(gK x.2).1,[]⟩,(gK x.2).2)).1.kind∧i64 (if pq x.1=true then((⟨x.1,0,(bZ x.2 64).1⟩,(bZ x.2 64).2):bu×RS)else(⟨x.1,(gK x.2).1,[]⟩,(gK x.2).2)).1.n:=by
  split
  ·exact⟨⟨afv,afv⟩,⟨afB,afB⟩⟩
  ·exact⟨⟨afv,afv⟩,u0 h1⟩
 generalize (if pq x.1=true then((⟨x.1,0,(bZ x.2 64).1⟩,(bZ x.2 64).2):bu×RS)else(⟨x.1,(gK x.2).1,[]⟩,(gK x.2).2))=y at h3⊢
 split
 ·exact hz
 ·split
  ·exact hz
  ·exact h3
theorem Dp(hw:WfR s):i64 (qv s).1.kind∧i64 (qv s).1.n:=by grind [qv,JT,Rc]
def pH:OpD:=⟨0,[],[],[],[],aq,0,[],[],false⟩
def KJ(l:Txt):AV:=.tup [opA ((pn l).getD pH),.v (.bool (pn l).isSome)]
theorem Uo(l:Txt):rOp l=(let k:=gK ⟨l,0,false⟩;let s1:=bZ k.2 16;let s2:=bZ s1.2 16;let s3:=bZ s2.2 16;let s4:=bZ s3.2 16;let v:=qv s4.2;let r:=gK v.2;let t:=bZ r.2 4096;let w:=bZ t.2 64;let g:=qT w.2
 (⟨k.1,s1.1,s2.1,s3.1,s4.1,v.1,r.1,t.1,w.1,eqV g.1 (dV true)⟩,g.2)):=rfl
theorem f_l(h:OpF o):OpL o:=by
 obtain⟨a,b,c,d,e,f,g⟩:=h;refine⟨afu,afu,afu,afu,?_,afu,afu⟩;rcases e with e|e
 ·rw[e];decide
 ·by_cases hk:o.val.kind=3∨o.val.kind=5
  ·have:=(wD e hk).2;omega
  grind [Ct]
theorem RAt.base{id:Nat}(hr:RAt h id g s)(hn:h id=Option.none):Ab.Sub h g:=fun j b e=>hr.sub j b afv e
set_option maxHeartbeats 1000000 in
theorem Nw(l:Txt)(q:Perm)(hl:l.length≤1000000)(h:Heap):ai prog 119 [.sl (l.map aK) q] h fun r h' =>r=KJ l∧h' =h:=by
 refine aw func119 58 [.cell 2 50,.tmp 3] ?_
 simp only[go_sem];intro i1 h1;simp only[go_sem];refine(Rh _ l _ (.sl _ _) hl).mono fun r g ⟨id,hid,er,eg⟩=>?_
 subst er;have n1:i1≠id:=fun e=>ajn
 have m0:h id=none:=by simp_all [ag,Ne.symm]
 have w0:WfR ⟨l,0,false⟩:=⟨Nat.zero_le _,hl⟩;have b0:RAt h id g ⟨l,0,false⟩:=⟨by simp_all [ah],fun j b hj e=>by
  rw[eg,ag _ _ hj,ag _ _ fun e2=>afv]
  exact e⟩
 have c0:g i1=some (.obj (opC pH) 50):=by rw[eg,ag _ _ n1];exact ah ..
 clear eg hid;simp only[go_sem];intro i2 h2;have n2:=b0.ne h2;have m1:=h1;have m2:=b0.none h2;have n21:i2≠i1:=fun e=>afv
 clear h2;have e:=Uo l;simp only at e;have g0e:g=g:=rfl;generalize g=g0 at b0 c0⊢;clear g0e;simp only[go_sem];have b0' :=b0.put (b:=(some (.obj [.i 0,.s [],.s [],.s [],.s [],.i 0,.i 0,.s [],.i 0,.s [],.s [],.b false] 50))) m2 n2;have c0' :upd g0 i2 (some (.obj [.i 0,.s [],.s [],.s [],.s [],.i 0,.i 0,.s [],.i 0,.s [],.s [],.b false] 50)) i1=_:=(ag _ _ (Ne.symm n21)).trans c0;have d0' :upd g0 i2 (some (.obj [.i 0,.s [],.s [],.s [],.s [],.i 0,.i 0,.s [],.i 0,.s [],.s [],.b false] 50)) i2=_:=ah ..;clear b0 c0;generalize upd g0 i2 (some (.obj [.i 0,.s [],.s [],.s [],.s [],.i 0,.i 0,.s [],.i 0,.s [],.s [],.b false] 50))=g1 at b0' c0' d0'⊢;have b1:=b0';have c1:=c0';have d1:=d0';clear b0' c0' d0';refine b1.step (Hi _ w0) fun g2 b2 k2=>?_
 have c2:=(k2 i1 n1).trans c1;have d2:=(k2 i2 n2).trans d1;clear b1 c1 d1 k2;have w1:=mE (lo:= -9223372036854775808) (hi:=9223372036854775807) w0;have q1:=u0 w0
 change WfR (gK _).2 at w1
 have hb1:(gK ⟨l,0,false⟩).2.b=l:=Sv;generalize gK ⟨l,0,false⟩=x1 at e w1 q1 hb1 b2⊢;obtain⟨v1,s1⟩:=x1;simp only at e w1 q1 hb1 b2⊢;simp only[go_sem,d2,ah];have b2' :=b2.put (b:=(some (.obj [.i v1,.s [],.s [],.s [],.s [],.i 0,.i 0,.s [],.i 0,.s [],.s [],.b false] 50))) m2 n2;have c2' :upd g2 i2 (some (.obj [.i v1,.s [],.s [],.s [],.s [],.i 0,.i 0,.s [],.i 0,.s [],.s [],.b false] 50)) i1=_:=(ag _ _ (Ne.symm n21)).trans c2;have d2' :upd g2 i2 (some (.obj [.i v1,.s [],.s [],.s [],.s [],.i 0,.i 0,.s [],.i 0,.s [],.s [],.b false] 50)) i2=_:=ah ..;clear b2 c2 d2;generalize upd g2 i2 (some (.obj [.i v1,.s [],.s [],.s [],.s [],.i 0,.i 0,.s [],.i 0,.s [],.s [],.b false] 50))=g3 at b2' c2' d2'⊢;have b3:=b2';have c3:=c2';have d3:=d2';clear b2' c2' d2';refine b3.step (qC _ w1 16 afy) fun g4 b4 k4=>?_
 have c4:=(k4 i1 n1).trans c3;have d4:=(k4 i2 n2).trans d3;clear b3 c3 d3 k4;have w2:=hY (most:=16) w1 afy;have hb2:(bZ s1 16).2.b=l:=yt.trans hb1;generalize bZ s1 16=x2 at e w2 hb2 b4⊢;obtain⟨v2,s2⟩:=x2;simp only at e w2 hb2 b4⊢;simp only[go_sem];refine b4.step (qC _ w2 16 afy) fun g5 b5 k5=>?_
 have c5:=(k5 i1 n1).trans c4;have d5:=(k5 i2 n2).trans d4;clear b4 c4 d4 k5;have w3:=hY (most:=16) w2 afy;have hb3:(bZ s2 16).2.b=l:=yt.trans hb2;generalize bZ s2 16=x3 at e w3 hb3 b5⊢;obtain⟨v3,s3⟩:=x3;simp only at e w3 hb3 b5⊢;simp only[go_sem];refine b5.step (qC _ w3 16 afy) fun g6 b6 k6=>?_
 have c6:=(k6 i1 n1).trans c5;have d6:=(k6 i2 n2).trans d5;clear b5 c5 d5 k6;have w4:=hY (most:=16) w3 afy;have hb4:(bZ s3 16).2.b=l:=yt.trans hb3;generalize bZ s3 16=x4 at e w4 hb4 b6⊢;obtain⟨v4,s4⟩:=x4;simp only at e w4 hb4 b6⊢;simp only[go_sem];refine b6.step (qC _ w4 16 afy) fun g7 b7 k7=>?_
 have c7:=(k7 i1 n1).trans c6;have d7:=(k7 i2 n2).trans d6;clear b6 c6 d6 k7;have w5:=hY (most:=16) w4 afy;have hb5:(bZ s4 16).2.b=l:=yt.trans hb4;generalize bZ s4 16=x5 at e w5 hb5 b7⊢;obtain⟨v5,s5⟩:=x5;simp only at e w5 hb5 b7⊢;simp only[go_sem,d7,ah];have b7' :=b7.put (b:=(some (.obj [.i v1,.s v2,.s v3,.s v4,.s v5,.i 0,.i 0,.s [],.i 0,.s [],.s [],.b false] 50))) m2 n2;have c7' :upd g7 i2 (some (.obj [.i v1,.s v2,.s v3,.s v4,.s v5,.i 0,.i 0,.s [],.i 0,.s [],.s [],.b false] 50)) i1=_:=(ag _ _ (Ne.symm n21)).trans c7;have d7' :upd g7 i2 (some (.obj [.i v1,.s v2,.s v3,.s v4,.s v5,.i 0,.i 0,.s [],.i 0,.s [],.s [],.b false] 50)) i2=_:=ah ..;clear b7 c7 d7;generalize upd g7 i2 (some (.obj [.i v1,.s v2,.s v3,.s v4,.s v5,.i 0,.i 0,.s [],.i 0,.s [],.s [],.b false] 50))=g8 at b7' c7' d7'⊢;have b8:=b7';have c8:=c7';have d8:=d7';clear b7' c7' d7';rw[show l.map aK=s5.b.map aK by grind]
 refine b8.step (T6 _ w5 _) fun g9 b9 k9=>?_
 have c9:=(k9 i1 n1).trans c8;have d9:=(k9 i2 n2).trans d8;clear b8 c8 d8 k9;have w6:=Jx w5;have q6:=Dp w5;generalize qv s5=x6 at e w6 q6 b9⊢;obtain⟨v6,s6⟩:=x6;simp only at e w6 q6 b9⊢;simp only[go_sem,d9,ah,aT];have b9' :=b9.put (b:=(some (.obj [.i v1,.s v2,.s v3,.s v4,.s v5,.i v6.kind,.i v6.n,.s v6.s,.i 0,.s [],.s [],.b false] 50))) m2 n2;have c9' :upd g9 i2 (some (.obj [.i v1,.s v2,.s v3,.s v4,.s v5,.i v6.kind,.i v6.n,.s v6.s,.i 0,.s [],.s [],.b false] 50)) i1=_:=(ag _ _ (Ne.symm n21)).trans c9;have d9' :upd g9 i2 (some (.obj [.i v1,.s v2,.s v3,.s v4,.s v5,.i v6.kind,.i v6.n,.s v6.s,.i 0,.s [],.s [],.b false] 50)) i2=_:=ah ..;clear b9 c9 d9;generalize upd g9 i2 (some (.obj [.i v1,.s v2,.s v3,.s v4,.s v5,.i v6.kind,.i v6.n,.s v6.s,.i 0,.s [],.s [],.b false] 50))=g10 at b9' c9' d9'⊢;have b10:=b9';have c10:=c9';have d10:=d9';clear b9' c9' d9';refine b10.step (Hi _ w6) fun g11 b11 k11=>?_
 have c11:=(k11 i1 n1).trans c10;have d11:=(k11 i2 n2).trans d10;clear b10 c10 d10 k11;have w7:=mE (lo:= -9223372036854775808) (hi:=9223372036854775807) w6;have q7:=u0 w6
 change WfR (gK _).2 at w7
 generalize gK s6=x7 at e w7 q7 b11⊢;obtain⟨v7,s7⟩:=x7;simp only at e w7 q7 b11⊢;simp only[go_sem,d11,ah];have b11' :=b11.put (b:=(some (.obj [.i v1,.s v2,.s v3,.s v4,.s v5,.i v6.kind,.i v6.n,.s v6.s,.i v7,.s [],.s [],.b false] 50))) m2 n2;have c11' :upd g11 i2 (some (.obj [.i v1,.s v2,.s v3,.s v4,.s v5,.i v6.kind,.i v6.n,.s v6.s,.i v7,.s [],.s [],.b false] 50)) i1=_:=(ag _ _ (Ne.symm n21)).trans c11;have d11' :upd g11 i2 (some (.obj [.i v1,.s v2,.s v3,.s v4,.s v5,.i v6.kind,.i v6.n,.s v6.s,.i v7,.s [],.s [],.b false] 50)) i2=_:=ah ..;clear b11 c11 d11;generalize upd g11 i2 (some (.obj [.i v1,.s v2,.s v3,.s v4,.s v5,.i v6.kind,.i v6.n,.s v6.s,.i v7,.s [],.s [],.b false] 50))=g12 at b11' c11' d11'⊢;have b12:=b11';have c12:=c11';have d12:=d11';clear b11' c11' d11';refine b12.step (qC _ w7 4096 afy) fun g13 b13 k13=>?_
 have c13:=(k13 i1 n1).trans c12;have d13:=(k13 i2 n2).trans d12;clear b12 c12 d12 k13;have w8:=hY (most:=4096) w7 afy;generalize bZ s7 4096=x8 at e w8 b13⊢;obtain⟨v8,s8⟩:=x8;simp only at e w8 b13⊢;simp only[go_sem];refine b13.step (qC _ w8 64 afy) fun g14 b14 k14=>?_
 have c14:=(k14 i1 n1).trans c13;have d14:=(k14 i2 n2).trans d13;clear b13 c13 d13 k14;have w9:=hY (most:=64) w8 afy;generalize bZ s8 64=x9 at e w9 b14⊢;obtain⟨v9,s9⟩:=x9;simp only at e w9 b14⊢;simp only[go_sem,d14,ah];have b14' :=b14.put (b:=(some (.obj [.i v1,.s v2,.s v3,.s v4,.s v5,.i v6.kind,.i v6.n,.s v6.s,.i v7,.s v8,.s v9,.b false] 50))) m2 n2;have c14' :upd g14 i2 (some (.obj [.i v1,.s v2,.s v3,.s v4,.s v5,.i v6.kind,.i v6.n,.s v6.s,.i v7,.s v8,.s v9,.b false] 50)) i1=_:=(ag _ _ (Ne.symm n21)).trans c14;have d14' :upd g14 i2 (some (.obj [.i v1,.s v2,.s v3,.s v4,.s v5,.i v6.kind,.i v6.n,.s v6.s,.i v7,.s v8,.s v9,.b false] 50)) i2=_:=ah ..;clear b14 c14 d14;generalize upd g14 i2 (some (.obj [.i v1,.s v2,.s v3,.s v4,.s v5,.i v6.kind,.i v6.n,.s v6.s,.i v7,.s v8,.s v9,.b false] 50))=g15 at b14' c14' d14'⊢;have b15:=b14';have c15:=c14';have d15:=d14';clear b14' c14' d14';refine b15.step (Is _ w9) fun g16 b16 k16=>?_
 have c16:=(k16 i1 n1).trans c15;have d16:=(k16 i2 n2).trans d15;clear b15 c15 d15 k16;have w10:=Jy w9;generalize qT s9=x10 at e w10 b16⊢;obtain⟨v10,s10⟩:=x10;simp only at e w10 b16⊢;simp only[go_sem];refine(FW true _).pthen ?_;simp only[go_sem,d16,ah,aT,dV];generalize hgl:(v10.kind==1 && (v10.n==1 && v10.s== []))=gl;have egl:eqV v10 (dV true)=gl:=hgl;rw[egl]at e;clear egl hgl;have b16' :=b16.put (b:=(some (.obj [.i v1,.s v2,.s v3,.s v4,.s v5,.i v6.kind,.i v6.n,.s v6.s,.i v7,.s v8,.s v9,.b gl] 50))) m2 n2;have c16' :upd g16 i2 (some (.obj [.i v1,.s v2,.s v3,.s v4,.s v5,.i v6.kind,.i v6.n,.s v6.s,.i v7,.s v8,.s v9,.b gl] 50)) i1=_:=(ag _ _ (Ne.symm n21)).trans c16;have d16' :upd g16 i2 (some (.obj [.i v1,.s v2,.s v3,.s v4,.s v5,.i v6.kind,.i v6.n,.s v6.s,.i v7,.s v8,.s v9,.b gl] 50)) i2=_:=ah ..;clear b16 c16 d16;generalize upd g16 i2 (some (.obj [.i v1,.s v2,.s v3,.s v4,.s v5,.i v6.kind,.i v6.n,.s v6.s,.i v7,.s v8,.s v9,.b gl] 50))=g17 at b16' c16' d16'⊢;have b17:=b16';have c17:=c16';have d17:=d16';clear b16' c16' d16';refine b17.step (TD _) fun g18 b18 k18=>?_
 have c18:=(k18 i1 n1).trans c17;have d18:=(k18 i2 n2).trans d17;clear b17 c17 d17 k18;generalize ho:(⟨v1,v2,v3,v4,v5,v6,v7,v8,v9,gl⟩:OpD)=o at e;have hd:g18 i2=some (.obj (opC o) 50):=by rw[d18,←ho];rfl
 have h64:mN o:=by rw[←ho];exact⟨q1,q6.1,q6.2,q7⟩
 have hc:g18 i1=some (.obj (opC pH) 50):=c18;clear d18 c18 ho;have hnone:∀(g:Heap),RAt h id g s10→pn l=none→nZ [opA pH,.b false] g fun r h' =>r=KJ l∧h' =h:=fun g hg en=>.mk _ (.refl _) (hg.base m0) ⟨by unfold KJ;rw[en];rfl,rfl⟩
 unfold opC pH aq at hc;unfold opC at hd;cases de:LA s10
 ·have en:pn l=none:=by grind [pn]
  simp only[go_sem,de,hc,ah];exact aix
 simp only[go_sem,de,hd];refine(C0 o _).pthen ?_;cases df:dK o
 ·exact alz
 have hF:=kC df;simp only[go_sem,hd];refine(OF o h64 (f_l hF) _).pthen ?_;simp only[go_sem];rw[hb5];refine(DU (gE o) l _ _ _).pthen ?_;cases dp:decide (gE o=l)
 ·exact alz
 ·have en:pn l=some o:=by grind [pn]
  simp only[go_sem,hc,hd,ah];exact .mk _ (.refl _) ((b18.put m1 n1).base m0) ⟨by unfold KJ;rw[en];rfl,rfl⟩
theorem Sh(s q:BitVec 64):IntKind.u64.wrap (IntKind.u64.wrap (((BitVec.ofInt 64 (s.toNat:Int) ^^^ BitVec.ofInt 64 (q.toNat:Int)).toNat:Nat):Int)*1099511628211)=(((s ^^^ q)*1099511628211#64).toNat:Int):=by rw[BitVec.ofInt_natCast,BitVec.ofInt_natCast,BitVec.ofNat_toNat,BitVec.ofNat_toNat,BitVec.setWidth_eq,BitVec.setWidth_eq];generalize s ^^^ q=x;rw[RJ _ x.isLt];have e:(x.toNat:Int)*1099511628211=((x.toNat*1099511628211:Nat):Int):=afu;rw[e,SJ,BitVec.toNat_mul,BitVec.toNat_ofNat]
theorem S8(p:BitVec 64):p.toNat % 256=(p &&& 255#64).toNat:=by exact(Nat.and_two_pow_sub_one_eq_mod p.toNat 8).symm
theorem MS(prev:BitVec 64)(y:AV)(l:Txt)(h:Heap)(hb:By h y l)(hl:l.length≤1000000):
  ai prog 63 [.v (.int .u64 (prev.toNat:Int)),y] h fun r h' =>r= .v (.int .u64 ((vB prev l).toNat:Int))∧h' =h:=by
 refine aw func63 31 [.tmp 4] ?_
 simp only[go_sem];refine .intro (fun k ρ g=>g=h∧∃(i:Nat) (p s:BitVec 64),i+k=8∧KB k p s=KB 8 prev 14695981039346656037#64∧lk ρ 0=some (.v (.int .u64 (p.toNat:Int)))∧lk ρ 1=some y∧lk ρ 5=some (.v (.int .u64 (s.toNat:Int)))∧lk ρ 8=some (.i (i:Int))) 8 ?_ ?_
 ·refine⟨rfl,0,prev,14695981039346656037#64,rfl,rfl,?_,?_,?_,?_⟩<;>simp only[go_sem]
  rfl
 rintro k ρ g ⟨rfl,i,p,s,hk,hv,r0,r1,r5,r8⟩
 rcases k with _|k
 ·have d1:decide ((i:Int)<8)=false:=decide_eq_false afu
  simp only[go_sem,r0,r1,r5,r8,d1,hb.len];refine .intro (fun k ρ g' =>g' =g∧∃(i:Nat) (s:BitVec 64),i+k=l.length∧(l.drop i).foldl (fun h c=>fnv h c.toNat) s=vB prev l∧lk ρ 5=some (.v (.int .u64 (s.toNat:Int)))∧lk ρ 18=some y∧lk ρ 19=some (.i (l.length:Int))∧lk ρ 20=some (.i (i:Int))) l.length ?_ ?_
  ·refine⟨rfl,0,s,afu,by grind [KD,vB],?_,?_,?_,?_⟩<;>simp only[go_sem,r5,r1]
   all_goals rfl
  clear r0 r1 r5 r8 hv
  rintro k ρ g' ⟨rfl,i,s,hk,hv,r5,r18,r19,r20⟩
  rcases k with _|k
  ·have d1:decide ((i:Int)<(l.length:Int))=false:=decide_eq_false afu
   simp only[go_sem,r5,r18,r19,r20,d1];rw[List.drop_eq_nil_of_le afu]at hv;exact .same (.refl _) ⟨by rw[←hv];rfl,rfl⟩
  ·have hlt:i<l.length:=by omega
   have d1:decide ((i:Int)<(l.length:Int))=true:=decide_eq_true afu;have w1:IntKind.i64.wrap ((i:Int)+1)=((i+1:Nat):Int):=afG;rw[List.drop_eq_getElem_cons hlt]at hv;simp only[go_sem,r5,r18,r19,r20,d1];refine hb.idx i rfl hlt u5 u5a fun q hq=>?_
   generalize l[i]=c at hq hv;have hcl:=c.toNat_lt;have w2:IntKind.u64.wrap (c.toNat:Int)=((BitVec.ofNat 64 c.toNat).toNat:Int):=afJ;have hx:=hq (fun v=>v=aK c)
   simp only[go_sem,r5,r18,r19,r20,hq _,aK,w2,w1];refine⟨k,afu,rfl,i+1,fnv s c.toNat,afu,afv,?_,?_,?_,?_⟩<;>simp only[go_sem,r18,r19,fnv]
   exact congrArg (fun z=>some (AV.v (Value.int IntKind.u64 z))) (Sh s _)
 ·have d1:decide ((i:Int)<8)=true:=decide_eq_true afu
  have w1:IntKind.i64.wrap ((i:Int)+1)=((i+1:Nat):Int):=afG;have e8:p.toNat / 256=(p>>>8).toNat:=ahV;have hp:=p.isLt;simp only[go_sem,r0,r1,r5,r8,d1,w1,show p.toNat<18446744073709551616 from hp,S8,e8]
  refine⟨k,afu,rfl,i+1,p>>>8,fnv s (p &&& 255#64).toNat,afu,by grind [KC],?_,?_,?_,?_⟩<;>simp only[go_sem,r1,fnv,BitVec.ofNat_toNat,BitVec.setWidth_eq]
  exact congrArg (fun z=>some (AV.v (Value.int IntKind.u64 z))) (Sh s _)
def cP(s:an):List AV:=[.i s.tick,fT s.cases,jZ s.reviews,kM s.notices,eu s.roles]++gD s.policy++ [.i s.version]
def mM(jid:Nat)(e:cg)(yl:AV):Blk:=.obj ([.ptr jid 0]++cP e.s++ [yl,.v (.int .u64 (e.ch.toNat:Int))]) 86
theorem bX(s:an):∃a1 a2 a3 a4 a5 a6 a7,cP s= [.i s.tick,fT s.cases,jZ s.reviews,kM s.notices,eu s.roles,a1,a2,a3,a4,a5,a6,a7,.i s.version]:=by obtain⟨tick,cases,reviews,notices,roles,policy,version⟩:=s;obtain⟨id,set,alg,tgt,rules,kids,obls⟩:=policy;exact⟨_,_,_,_,_,_,_,rfl⟩
def Cd(e:cg)(l:Txt):AV:=.tup [opA ((jq e l).getD pH),.v (.bool (jq e l).isSome)]
theorem I5(hl:l.length≤1000000)(h:pn l=some o):mN o:=by
 unfold pn at h;split at h
 ·cases h
  have w0:WfR ⟨l,0,false⟩:=⟨Nat.zero_le _,hl⟩;have w1:WfR (gK ⟨l,0,false⟩).2:=mE w0;have w2:=hY (most:=16) w1 afy;have w3:=hY (most:=16) w2 afy;have w4:=hY (most:=16) w3 afy;have w5:=hY (most:=16) w4 afy;exact⟨u0 w0,(Dp w5).1,(Dp w5).2,u0 (Jx w5)⟩
 grind
theorem Nk(l:Txt)(q:Perm)(e:cg)(yl:AV)(jid x:Nat)(h:Heap)(hl:l.length≤900000)(hx:h x=some (mM jid e yl)):ai prog 56 [.ptr x 0,.sl (l.map aK) q] h fun r h' =>r=Cd e l∧h' =h:=by
 obtain⟨a1,a2,a3,a4,a5,a6,a7,es⟩:=bX e.s;have g:=hx;unfold mM at g;rw[es]at g;simp only[List.cons_append,List.nil_append]at g;refine aw func56 33 [.cell 4 50,.tmp 5] ?_
 simp only[go_sem];intro i1 h1;have n1:i1≠x:=fun e=>afv
 by_cases hs:l.length<8
 ·have d1:decide ((l.length:Int)<8)=true:=decide_eq_true afu
  have er:jq e l=none:=by simp_all [jq,if_pos]
  simp only[go_sem,afj,d1,ah];exact .mk _ (.refl _) ((Sub.refl h).new h1 _) ⟨aiQ,rfl⟩
 have d1:decide ((l.length:Int)<8)=false:=decide_eq_false afu;simp only[go_sem,afj,d1];refine⟨afu,afu,?_⟩;refine(Nw (l.drop 8) _ afv _).pthen ?_;have er0:jq e l=(match pn (l.drop 8)with|some o=>if cF e.ch o=l then some o else none|none=>none):=by unfold jq;grind
 cases hg:pn (l.drop 8)with
 |none=>
  have er:jq e l=none:=afv;simp only[go_sem,KJ,hg,opA,opC,pH,aq,Option.getD,Option.isSome];intro i2 h2;have n2:=aA h2;have n21:=aH h2;simp only[go_sem,ak,n21,n21.symm,n1,n1.symm];generalize hH:upd (upd h i1 _) i2 _=H;have k1:H i1=some (.obj (opC pH) 50):=agN;have k2:H i2=some (.obj (opC pH) 50):=ahG;have kx:H x=some (mM jid e yl):=by rw[←hH,ag _ _ (fun e2=>afv),ag _ _ (Ne.symm n1)];omega
  have hsub:Ab.Sub h H:=agb;clear hH g;unfold mM at kx;rw[es]at kx;simp only[List.cons_append,List.nil_append]at kx;unfold opC pH aq at k1;refine .quiet afx ?_;simp only[go_sem];simp only[go_sem,k1,ah];exact alf
 |some o=>
  obtain⟨hf,hp⟩:=get_some hg;have h64:=I5 afv hg;have er1:jq e l=if cF e.ch o=l then some o else none:=afv
  simp only[go_sem,KJ,hg,opA,opC,Option.getD,Option.isSome];intro i2 h2;have n2:=aA h2;have n21:=aH h2;simp only[go_sem,ak,n21,n21.symm,n1,n1.symm];generalize hH:upd (upd h i1 _) i2 _=H;have k1:H i1=some (.obj (opC pH) 50):=agN;have k2:H i2=some (.obj (opC o) 50):=ahG;have kx:H x=some (mM jid e yl):=by rw[←hH,ag _ _ (fun e2=>afv),ag _ _ (Ne.symm n1)];omega
  have hsub:Ab.Sub h H:=agb;clear hH g;unfold mM at kx;rw[es]at kx;simp only[List.cons_append,List.nil_append]at kx;unfold opC pH aq at k1;unfold opC at k2;refine .quiet afx ?_;simp only[go_sem,kx,k2];refine⟨_,HP e.ch o h64 (f_l (kC hf)) afv _,?_⟩;simp only[go_sem];refine⟨_,DU (cF e.ch o) l _ _ _,?_⟩;cases dp:decide (cF e.ch o=l)
  ·have er:jq e l=none:=by grind
   simp only[go_sem,k1,ah];exact alf
  ·have er:jq e l=some o:=by grind
   simp only[go_sem,k1,k2,ah];exact alf
def ldA(d:qM):AV:=.agg (vC d)
def nY(h:Heap)(y:AV)(ds:List qM)(sp:List Nat):Prop:=(y= .sl [] .full∧ds= []∧sp= [])∨∃k,y= .sl (ds.map ldA) (.own k)∧h k=some (.spare ds.length 16)∧sp= [k]
theorem uD:(U 59).sz=16:=afJ
theorem nY.row(hg:nY h y ds sp):∃q,y= .sl (ds.map ldA) q:=by rcases hg with⟨rfl,rfl,_⟩|⟨k,rfl,_⟩<;>exact⟨_,rfl⟩
theorem nY.touch(hg:nY h y ds sp)(ht:Touch S h h')(hn:∀i∈sp,i∉S):nY h' y ds sp:=by
 rcases hg with⟨rfl,rfl,rfl⟩|⟨k,rfl,k1,rfl⟩
 ·exact .inl ⟨rfl,rfl,rfl⟩
 ·exact .inr ⟨k,rfl,ht _ _ (hn k afB) k1,rfl⟩
theorem nY.has(hg:nY h y ds sp):∀i∈sp,∃n,h i=some (.spare n 16):=by
 rcases hg with⟨rfl,rfl,rfl⟩|⟨k,rfl,k1,rfl⟩
 ·simp
 grind
theorem zB(ds:List qM):Sized 16 (ds.map ldA):=fun z hz=>by obtain⟨d,_,rfl⟩:=List.mem_map.1 hz;rfl
theorem uDb:∃n,(U 59).bytes=n∧n≠0∧n≤1000:=⟨_,rfl,afy,afy⟩
theorem nY.app{d:qM}{q:Perm}(hg:nY h y ds sp)(hl:ds.length≤1000000)
  (hk:∀y' h' sp',nY h' y' (ds++ [d]) sp'→Touch sp h h'→(∀i∈sp',i∈sp∨h i=none)→Q y' h'):apK U h y (.sl [ldA d] q) Q (.slice 59):=by
 obtain⟨n,hb,hb0,hb1⟩:=uDb;have hm:(ds.length+1)*n≤140737488355328:=by
  have:=Nat.mul_le_mul (show ds.length+1≤1000001 by omega) hb1
  omega
 have s2:Sized 16 [ldA d]:=zB [d];rcases hg with⟨rfl,rfl,rfl⟩|⟨k,rfl,k1,rfl⟩
 ·refine(qX ..).mpr ⟨afy,afu,?_⟩
  refine⟨by simp[Sized],by grind [uD],afv,And.intro (fun hn=>by cases hn) (fun hn=>oZ.own fun id hid=>?_)⟩
  rw[uD];exact hk _ _ [id] (.inr ⟨id,rfl,ajn,rfl⟩) (.of ((Ab.Sub.refl h).new hid _)) afv
 ·refine(CM ..).mpr ⟨afy,afu,?_⟩
  refine⟨by grind [uD,zB],by grind [uD],afv,by grind [uD],?_⟩
  rw[uD];exact hk _ _ [k] (.inr ⟨k,afB,ajn,rfl⟩) .upd afB
theorem I6(e:cg)(s:an)(d:qM)(p:Txt)(q:Perm)(jid x:Nat)(yl:AV)(sp:List Nat)(h:Heap)(hx:h x=some (mM jid e yl))(hg:nY h yl e.log sp)(hl:e.log.length≤1000000)(hp:p.length≤1000000):
  ai prog 57 [.ptr x 0,bQ s,.agg (vC d),.sl (p.map aK) q] h fun r h' =>r= .tup []∧∃yl' sp',h' x=some (mM jid {e with s:=s,log:=e.log++ [d],ch:=vB e.ch p} yl')∧nY h' yl' (e.log++ [d]) sp'∧Touch (x::sp) h h'∧(∀i∈sp',i∈sp∨h i=none):=by
 obtain⟨a1,a2,a3,a4,a5,a6,a7,es⟩:=bX e.s;obtain⟨b1,b2,b3,b4,b5,b6,b7,es2⟩:=bX s;have g:=hx;unfold mM at g;rw[es]at g;simp only[List.cons_append,List.nil_append]at g;rw[show bQ s= .agg (cP s)from rfl,es2]
 refine ai.of_wp hU func57 rfl afJ 31 rfl [] rfl (afi rfl) ?_;refine .one hU hm ?_;simp only[go_sem];intro i1 h1;simp only[go_sem,vC,opC];intro i2 h2;have n2:=aA h2;have n21:=aH h2;have x1:i1≠x:=fun e=>ain
 have x2:i2≠x:=fun e=>aio
 generalize hH:upd (upd h i1 _) i2 _=H;have k1:H i1=some (.obj [.i s.tick,fT s.cases,jZ s.reviews,kM s.notices,eu s.roles,b1,b2,b3,b4,b5,b6,b7,.i s.version] 41):=by rw[←hH,ag _ _ (Ne.symm n21),ah]
 have k2:H i2=some (.obj [.i d.op.kind,.s d.op.subj,.s d.op.case,.s d.op.field,.s d.op.to,.i d.op.val.kind,.i d.op.val.n,.s d.op.val.s,.i d.op.review,.s d.op.text,.s d.op.reason,.b d.op.glass,.i d.version,aO d.mark,.b d.glass,ay d.obls] 59):=by rw[←hH,ah]
 have kx:H x=_:=(by rw[←hH,ag _ _ (Ne.symm x2),ag _ _ (Ne.symm x1)]:H x=h x).trans g
 have hsub:Ab.Sub h H:=agb;clear hH g;simp only[go_sem];refine .one hU hm ?_;simp only[go_sem,kx,k1];generalize hK:upd H x _=K;have kx2:K x=some (.obj [.ptr jid 0,.i s.tick,fT s.cases,jZ s.reviews,kM s.notices,eu s.roles,b1,b2,b3,b4,b5,b6,b7,.i s.version,yl,.v (.int .u64 (e.ch.toNat:Int))] 86):=by rw[←hK,ah]
 have k22:K i2=_:=(by rw[←hK,ag _ _ x2]:K i2=H i2).trans k2
 have hT:Touch [x] H K:=by rw[←hK];exact .upd
 clear hK
 show WP _ _ _ _ _ _
 refine .one hU hm ?_;simp only[go_sem];refine .last (hm2 x (.obj [.ptr jid 0,.i s.tick,fT s.cases,jZ s.reviews,kM s.notices,eu s.roles,b1,b2,b3,b4,b5,b6,b7,.i s.version,yl,.v (.int .u64 (e.ch.toNat:Int))] 86) i2 (.obj [.i d.op.kind,.s d.op.subj,.s d.op.case,.s d.op.field,.s d.op.to,.i d.op.val.kind,.i d.op.val.n,.s d.op.val.s,.i d.op.review,.s d.op.text,.s d.op.reason,.b d.op.glass,.i d.version,aO d.mark,.b d.glass,ay d.obls] 59)) [0,1,2,3,4,5,6,7,8,9] (.hm2 kx2 k22) afx rfl afx rfl ?_;simp only[go_sem,kx2,k22,su _ _ (Ne.symm x2),sv];have hno:∀i∈sp,i≠x∧i≠i1∧i≠i2:=fun i hi=>by obtain⟨n,hn⟩:=hg.has i hi;exact⟨fun e=>(by rw[e,hx]at hn;cases hn),fun e=>afv,fun e=>afv⟩
 have hgK:nY K yl e.log sp:=(hg.touch (S:=[]) (.of hsub) afB).touch hT afv;refine hgK.app hl fun z G sp' hg4 ht4 hsp' =>?_
 have kx3:=ht4 _ _ afv kx2;have k23:=ht4 _ _ afv k22;have xG:∀i∈sp',i≠x:=fun i hi e2=>by obtain⟨n,hn⟩:=hg4.has i hi;rw[e2,kx3]at hn;cases hn
 refine⟨.hm2 kx3 k23,?_⟩;have hrow:=hg4.row;obtain⟨qz,ez⟩:=hrow;subst ez;simp only[go_sem,kx3];refine .vc hU hm ?_;simp only[go_sem,ah];refine(MS e.ch _ p _ (.sl _ _) hp).pthen ?_;simp only[go_sem,ah,eL];have hF:Touch [x] G (upd G x (some (.obj [.ptr jid 0,.i s.tick,fT s.cases,jZ s.reviews,kM s.notices,eu s.roles,b1,b2,b3,b4,b5,b6,b7,.i s.version,(.sl ((e.log++ [d]).map ldA) qz),.v (.int .u64 ((vB e.ch p).toNat:Int))] 86))):=.upd;refine .same (.refl _) ⟨rfl,_,sp',?_,hg4.touch hF afv,?_,fun i hi=>?_⟩
 ·simp_all [mM,ah]
 ·exact((((Touch.of (S:=[]) hsub).trans hT).trans ht4).trans hF).mono afv
 ·rcases hsp' i hi with h3|h3
  ·grind
  ·right
   have:K i=none:=h3;cases hh:h i with
   |none=>rfl
   |some b=>have hxi:i≠x:=xG i hi;have:=hT _ _ afv (hsub _ _ hh);rw[h3]at this;cases this
def j8(h:Heap)(x jid did:Nat)(e:cg)(spl spj:List Nat):Prop:=
 ∃yl,h x=some (mM jid e yl)∧nY h yl e.log spl∧JAt h 207 jid did e.ps e.down spj
theorem vG(x jid did:Nat)(e:cg)(spl spj:List Nat)(h:Heap)(he:j8 h x jid did e spl spj):ai prog 9 [.ptr x 0] h fun r h' =>r=bQ e.s∧h' =h:=by
 obtain⟨yl,hx,hg,hj⟩:=he;obtain⟨a1,a2,a3,a4,a5,a6,a7,es⟩:=bX e.s;have g:=hx;unfold mM at g;rw[es]at g;refine aw func9 7 [.cell 2 41] ?_
 simp only[go_sem];intro i1 h1;have n1:i1≠x:=fun e=>afv
 simp only[go_sem,ak,Ne.symm n1,n1,g,ah];refine .mk _ (.refl _) ((Sub.refl h).put h1 _) ⟨?_,rfl⟩;rw[show bQ e.s= .agg (cP e.s)from rfl,es]
 rfl
theorem Qh(x jid did:Nat)(e:cg)(spl spj:List Nat)(o:OpD)(h:Heap)(he:j8 h x jid did e spl spj)(hd:e.down=true):ai prog 33 [.ptr x 0,opA o] h fun r h' =>r= .agg (mF (xT 9))∧h' =h:=by
 obtain⟨yl,hx,hg,hj⟩:=he;have g:=hx;unfold mM at g;refine aw func33 53 [.cell 4 57] ?_
 simp only[go_sem,opA,opC];intro i1 h1;have x1:i1≠x:=fun e=>afv
 simp only[go_sem];intro i2 h2;have n2:=aA h2;have x2:i2≠x:=fun e=>afv
 generalize hH:upd (upd h i1 _) i2 _=H;have kx:H x=_:=(by rw[←hH,ag _ _ (Ne.symm x2),ag _ _ (Ne.symm x1)]:H x=h x).trans g
 have k2:H i2=some (.obj oJ 57):=ahG;have hsub:Ab.Sub h H:=agb;unfold oJ at k2;simp only[go_sem,kx];refine(yf jid did e.ps e.down spj H (hj.sub hsub)).pthen ?_;rw[hd];simp only[go_sem,k2,ah];refine .mk _ (.refl _) (hsub.put n2 _) ⟨?_,rfl⟩;rfl
theorem nJ(s:an)(r:iJ)(d:qM)(e:Int):kD (s,r,d,e)= .tup [bQ s,.agg [.i r.err,.v (.complex .f64 (hbit r.mark.1) (hbit r.mark.2)),.b r.glass,.i r.val.kind,.i r.val.n,.s r.val.s,.b r.hidden,.i r.at_],.agg [.i d.op.kind,.s d.op.subj,.s d.op.case,.s d.op.field,.s d.op.to,.i d.op.val.kind,.i d.op.val.n,.s d.op.val.s,.i d.op.review,.s d.op.text,.s d.op.reason,.b d.op.glass,.i d.version,.v (.complex .f64 (hbit d.mark.1) (hbit d.mark.2)),.b d.glass,.sl (d.obls.map bh) .no],.i e]:=rfl
theorem Tp(x jid did:Nat)(e:cg)(spl spj:List Nat)(o:OpD)(h:Heap)(he:j8 h x jid did e spl spj)(hd:e.down=false)(hG:fG k e.s)(hk:k≤1000)(h64:mN o)(her:jt h)(hne:(aE e.s o).2.2.2≠0):ai prog 33 [.ptr x 0,opA o] h fun r h' =>r= .agg (mF (aE e.s o).2.1)∧h' =h:=by
 have hgd:=fun(G:Heap) (hG' :Ab.Sub h G)=>nI e.s hG hk o h64 G (her.sub hG')
 have he0:=he;obtain⟨yl,hx,hg,hj⟩:=he;obtain⟨a1,a2,a3,a4,a5,a6,a7,es⟩:=bX e.s;have g:=hx;unfold mM at g;rw[es]at g;simp only[List.cons_append,List.nil_append]at g;refine aw func33 53 [.cell 4 57] ?_
 simp only[go_sem,opA,opC];intro i1 h1;have x1:i1≠x:=fun e=>ain
 simp only[go_sem];intro i2 h2;have n2:=aA h2;have x2:i2≠x:=fun e=>aio
 have n21:=aH h2;generalize hH:upd (upd h i1 _) i2 _=H;have kx:H x=_:=(by rw[←hH,ag _ _ (Ne.symm x2),ag _ _ (Ne.symm x1)]:H x=h x).trans g
 have k2:H i2=some (.obj oJ 57):=ahG;have k1:H i1=some (.obj (opC o) 50):=agN;have hsub:Ab.Sub h H:=agb;clear hH g;unfold oJ at k2;simp only[go_sem,kx];refine(yf jid did e.ps e.down spj H (hj.sub hsub)).pthen ?_;rw[hd];generalize aE e.s o=gd at hgd hne⊢;obtain⟨S,R,D,E⟩:=gd;simp only at hne⊢;obtain⟨b1,b2,b3,b4,b5,b6,b7,es2⟩:=bX S;rw[nJ,show bQ e.s= .agg (cP e.s)from rfl,es,show bQ S= .agg (cP S)from rfl,es2]at hgd
 simp only[opA,opC]at hgd;unfold opC at k1;simp only[go_sem];refine .tree _ (.quiet [0,1,2,3,4] 5 (.news [6,7,8,9,10] [11,12,13] (.seq [14,15,16,17]))) (.refl _) afx rfl ?_;simp only[go_sem,kx,k1];refine⟨_,fun G hs=>hgd G (hsub.trans hs),?_⟩
 simp only[go_sem];refine⟨.refl _,afB,?_⟩;intro jd hjd je hje jf hjf;have ned:=aH hje;have kje:=aA hje;have nfe:=aH hjf;have nfd:=aH (aA hjf);have kjf:=aA (aA hjf);simp only[go_sem,ak,ned,ned.symm,nfe,nfe.symm,nfd,nfd.symm];refine⟨afH,afH,afH,?_⟩;have mjd:=hsub.none hjd;have mje:=hsub.none kje;have mjf:=hsub.none kjf;have j2:jd≠i2:=fun e=>ai6
 have j2e:je≠i2:=fun e=>ai7
 have j2f:jf≠i2:=fun e=>ai8
 have dE:(E==0)=false:=beq_eq_false_iff_ne.mpr hne;have dE2:(E !=0)=true:=bne_iff_ne.mpr hne;simp only[go_sem,ak,dE,dE2,ned,ned.symm,nfe,nfe.symm,nfd,nfd.symm,j2,j2.symm,j2e,j2e.symm,j2f,j2f.symm,k2];refine .mk _ (.refl _) ?_ ⟨rfl,rfl⟩
 repeat (first|exact hsub|refine Ab.Sub.put ?_ afI _)
theorem IU{U:TypeId→TI}{l:List Oper}{K:Exit→Env→Heap→Prop}(hh:∀H2,H2=h→nX P U n l ρ H2 K):nX P U n l ρ h K:=hh h rfl
theorem bF.upd{id i:Nat}{t:TypeId}{b:Option Blk}(hd:bF h id d)(hi:h i=some (.obj cs t))(h1:t≠92)(h2:t≠5):bF (Ab.upd h i b) id d:=by
 obtain⟨y,hy,hb⟩:=hd;refine⟨y,?_,?_⟩
 ·grind [ag,Option.some.inj]
 ·rcases hb with hb|⟨j,off,cs2,rfl,a1,a2,a3⟩
  ·exact ajs
  ·refine .oa ?_ a2 a3
   grind [ag,Option.some.inj]
theorem Tr(x jid did:Nat)(e:cg)(d:D)(spl spj:List Nat)(o:OpD)(h:Heap)(he:j8 h x jid did e spl spj)(hdk:bF h did d)(hdo:d.ok)(hps:e.ps.length≤1000000)(hlg:e.log.length≤1000000)(hd:e.down=false)(hG:fG k e.s)(hk:k≤1000)(h64:mN o)(her:jt h)(hne:(aE e.s o).2.2.2=0)(hcode:(jadd d e.ps false (cF e.ch o)).2≠0):
  ai prog 33 [.ptr x 0,opA o] h fun r h' =>r= .agg (mF (doE e d o).2.2)∧∃spl' spj',j8 h' x jid did (doE e d o).1 spl' spj'∧bF h' did (doE e d o).2.1∧Touch (x::did::jid::(spl++spj)) h h'∧(∀i∈spl',i∈spl∨h i=none)∧(∀i∈spj',i∈spj∨h i=none):=by
 have hF:=kC (fK hne);have hrl:=mW (h:=e.ch) hF;have hpl:=Dm hF;have edo:doE e d o=(let a:=jadd d e.ps false (cF e.ch o);if a.2=0 then({mI e (aE e.s o) (cF e.ch o)with ps:=a.1.2.1,down:=a.1.2.2},a.1.1,(aE e.s o).2.1)else({e with ps:=a.1.2.1,down:=a.1.2.2},a.1.1,xT (a.2:Int))):=by exact alw
 have hgd:=fun(G:Heap) (hG' :Ab.Sub h G)=>nI e.s hG hk o h64 G (her.sub hG')
 have he0:=he;obtain⟨yl,hx,hg,hj⟩:=he;obtain⟨a1,a2,a3,a4,a5,a6,a7,es⟩:=bX e.s;have g:=hx;unfold mM at g;rw[es]at g;simp only[List.cons_append,List.nil_append]at g;refine aw func33 53 [.cell 4 57] ?_
 simp only[go_sem,opA,opC];intro i1 h1;have x1:i1≠x:=fun e=>ain
 simp only[go_sem];intro i2 h2;have n2:=aA h2;have x2:i2≠x:=fun e=>aio
 have n21:=aH h2;generalize hH:upd (upd h i1 _) i2 _=H;have kx:H x=_:=(by rw[←hH,ag _ _ (Ne.symm x2),ag _ _ (Ne.symm x1)]:H x=h x).trans g
 have k2:H i2=some (.obj oJ 57):=ahG;have k1:H i1=some (.obj (opC o) 50):=agN;have hsub:Ab.Sub h H:=agb;clear hH g;unfold oJ at k2;simp only[go_sem,kx];refine(yf jid did e.ps e.down spj H (hj.sub hsub)).pthen ?_;rw[hd];generalize aE e.s o=gd at hgd hne edo⊢;obtain⟨S,R,D,E⟩:=gd;simp only at hne edo⊢;subst hne;obtain⟨b1,b2,b3,b4,b5,b6,b7,es2⟩:=bX S;rw[nJ,show bQ e.s= .agg (cP e.s)from rfl,es,show bQ S= .agg (cP S)from rfl,es2]at hgd
 simp only[opA,opC]at hgd;unfold opC at k1;simp only[go_sem];refine .tree _ (.quiet [0,1,2,3,4] 5 (.news [6,7,8,9,10] [11,12,13] (.seq [14,15,16,17]))) (.refl _) afx rfl ?_;simp only[go_sem,kx,k1];refine⟨_,fun G hs=>hgd G (hsub.trans hs),?_⟩
 simp only[go_sem];refine⟨.refl _,afB,?_⟩;intro jd hjd je hje jf hjf;have ned:=aH hje;have kje:=aA hje;have nfe:=aH hjf;have nfd:=aH (aA hjf);have kjf:=aA (aA hjf);simp only[go_sem,ak,ned,ned.symm,nfe,nfe.symm,nfd,nfd.symm];refine⟨afH,afH,afH,?_⟩;have mjd:=hsub.none hjd;have mje:=hsub.none kje;have mjf:=hsub.none kjf;have j2:jd≠i2:=fun e=>ai6
 have j2e:je≠i2:=fun e=>ai7
 have j2f:jf≠i2:=fun e=>ai8
 refine IU fun H2 w2=>?_
 have xjd:jd≠x:=fun e=>aja
 have xje:je≠x:=fun e=>ajb
 have xjf:jf≠x:=fun e=>ajc
 have y1:jd≠i1:=fun e=>by rw[e,k1]at hjd;cases hjd
 have y2:je≠i1:=fun e=>by rw[e,k1]at kje;cases kje
 have y3:jf≠i1:=fun e=>by rw[e,k1]at kjf;cases kjf
 have hs2:Ab.Sub h H2:=ahr;have fx:H2 x=_:=(by rw[w2];simp only[ak,xjd,xjd.symm,xje,xje.symm,xjf,xjf.symm,ne_eq,not_false_eq_true]:H2 x=H x).trans kx
 have f1:H2 i1=_:=(by rw[w2];simp only[ak,y1,y1.symm,y2,y2.symm,y3,y3.symm,ne_eq,not_false_eq_true]:H2 i1=H i1).trans k1
 have f2:H2 i2=_:=(by rw[w2];simp only[ak,j2,j2.symm,j2e,j2e.symm,j2f,j2f.symm,ne_eq,not_false_eq_true]:H2 i2=H i2).trans k2
 have fd:H2 jd=some (.obj [.i S.tick,fT S.cases,jZ S.reviews,kM S.notices,eu S.roles,b1,b2,b3,b4,b5,b6,b7,.i S.version] 41):=afP;have fe:H2 je=some (.obj [.i R.err,.v (.complex .f64 (hbit R.mark.1) (hbit R.mark.2)),.b R.glass,.i R.val.kind,.i R.val.n,.s R.val.s,.b R.hidden,.i R.at_] 57):=afP;have ff:H2 jf=some (.obj (vC D) 59):=agn;clear w2;refine .quiet afx ?_;simp only[go_sem,fx,f1];refine⟨_,HP e.ch o h64 (f_l hF) afu _,?_⟩;simp only[go_sem,fx];refine(Jd d hdo did jid e.ps e.down spj H2 _ (cF e.ch o) (hdk.keep hs2.gF) (hj.sub hs2) (.sl _ _) afu hps).mono fun r H3 ⟨er,spj',hd3,hj3,hT3,hs3⟩=>?_
 subst er;have hin:∀q∈did::jid::spj,∃b,h q=some b∧∀cs,b≠ .obj cs 86:=fun q hq=>by exact akh
 have out:∀q,h q=none→q∉did::jid::spj:=fun q hq hi=>by obtain⟨b,hb,_⟩:=hin q hi;rw[hq]at hb;cases hb
 have outx:x∉did::jid::spj:=fun hi=>by exact alC
 have fx3:=hT3 _ _ outx fx;have f23:=hT3 _ _ (out i2 n2) f2;have fd3:=hT3 _ _ (out jd mjd) fd;have fe3:=hT3 _ _ (out je mje) fe;have ff3:=hT3 _ _ (out jf mjf) ff;rw[hd]at hd3 hj3⊢;generalize jadd d e.ps false (cF e.ch o)=a at hd3 hj3 edo hcode⊢;obtain⟨⟨d2,ps2,dn2⟩,code⟩:=a;simp only at hd3 hj3 edo hcode⊢;cases dc:((code:Int)==0)
 ·have hc:code≠0:=fun e2=>by subst e2;cases dc
  have dc2:((code:Int) !=0)=true:=by rw[bne,dc];rfl
  rw[if_neg hc]at edo;simp only[go_sem,dc2,f23,ah];have hsp:∀i∈spl,i∉did::jid::spj:=fun i hi hq=>by exact akf
  have hg3:=(hg.touch (S:=[]) (.of hs2) (fun i hi hh=>agW)).touch hT3 hsp
  have hnl:∀i∈spl,i∉ [i2]:=fun i hi hh=>by obtain⟨n,hn⟩:=hg.has i hi;rw[List.mem_singleton.1 hh,n2]at hn;cases hn
  have hF4:∀b,Touch [i2] H3 (upd H3 i2 b):=fun b=> .upd
  have hj3' :=hj3;obtain⟨z,zs,hz1,hz2,_⟩:=hj3';refine .same (.refl _) ⟨by rw[edo];rfl,spl,spj',?_,?_,?_,fun i hi=> .inl hi,fun i hi=>?_⟩
  ·rw[edo]
   refine⟨yl,?_,hg3.touch (hF4 _) hnl,hj3.touch (hF4 _) ?_ ?_⟩
   ·rw[ag _ _ (Ne.symm x2),fx3]
    unfold mM;rw[es];rfl
   ·intro hh
    rw[List.mem_singleton.1 hh,f23]at hz1;cases hz1
   ·intro i hi hh
    obtain⟨n,hn⟩:=hz2.has i hi;rw[List.mem_singleton.1 hh,f23]at hn;cases hn
  ·rw[edo]
   exact hd3.upd f23 afy afy
  ·exact(((Touch.of (S:=[]) hs2).trans hT3).trans (hF4 _)).mono (fun i hi=>by
    simp only[List.nil_append,List.mem_append,List.mem_cons,List.mem_singleton,List.not_mem_nil,or_false]at hi;rcases hi with(h3|h3|h3)|h3
    ·left;simp[h3]
    ·left;simp[h3]
    ·left;simp[h3]
    ·right;rw[h3];exact n2)
  ·rcases hs3 i hi with h3|h3
   ·exact .inl h3
   ·right;exact hs2.none h3
 ·exact absurd (eq_of_beq dc) afu
theorem bF.touch{id:Nat}(hd:bF h id d)(ht:Touch S h h')(hS:∀i∈S,∀cs,h i≠some (.obj cs 92)∧h i≠some (.obj cs 5)):bF h' id d:=by
 obtain⟨y,hy,hb⟩:=hd;refine⟨y,ht _ _ afv hy,?_⟩;rcases hb with hb|⟨j,off,cs2,rfl,a1,a2,a3⟩
 ·exact ajs
 ·exact .oa (ht _ _ afv a1) a2 a3
theorem Tq(x jid did:Nat)(e:cg)(d:D)(spl spj:List Nat)(o:OpD)(h:Heap)(he:j8 h x jid did e spl spj)(hdk:bF h did d)(hdo:d.ok)(hps:e.ps.length≤1000000)(hlg:e.log.length≤1000000)(hd:e.down=false)(hG:fG k e.s)(hk:k≤1000)(h64:mN o)(her:jt h)(hne:(aE e.s o).2.2.2=0)(hcode:(jadd d e.ps false (cF e.ch o)).2=0):
  ai prog 33 [.ptr x 0,opA o] h fun r h' =>r= .agg (mF (doE e d o).2.2)∧∃spl' spj',j8 h' x jid did (doE e d o).1 spl' spj'∧bF h' did (doE e d o).2.1∧Touch (x::did::jid::(spl++spj)) h h'∧(∀i∈spl',i∈spl∨i∈spj∨h i=none)∧(∀i∈spj',i∈spj∨h i=none):=by
 have hF:=kC (fK hne);have hrl:=mW (h:=e.ch) hF;have hpl:=Dm hF;have edo:doE e d o=(let a:=jadd d e.ps false (cF e.ch o);if a.2=0 then({mI e (aE e.s o) (cF e.ch o)with ps:=a.1.2.1,down:=a.1.2.2},a.1.1,(aE e.s o).2.1)else({e with ps:=a.1.2.1,down:=a.1.2.2},a.1.1,xT (a.2:Int))):=by exact alw
 have hgd:=fun(G:Heap) (hG' :Ab.Sub h G)=>nI e.s hG hk o h64 G (her.sub hG')
 have he0:=he;obtain⟨yl,hx,hg,hj⟩:=he;obtain⟨a1,a2,a3,a4,a5,a6,a7,es⟩:=bX e.s;have g:=hx;unfold mM at g;rw[es]at g;simp only[List.cons_append,List.nil_append]at g;refine aw func33 53 [.cell 4 57] ?_
 simp only[go_sem,opA,opC];intro i1 h1;have x1:i1≠x:=fun e=>ain
 simp only[go_sem];intro i2 h2;have n2:=aA h2;have x2:i2≠x:=fun e=>aio
 have n21:=aH h2;generalize hH:upd (upd h i1 _) i2 _=H;have kx:H x=_:=(by rw[←hH,ag _ _ (Ne.symm x2),ag _ _ (Ne.symm x1)]:H x=h x).trans g
 have k2:H i2=some (.obj oJ 57):=ahG;have k1:H i1=some (.obj (opC o) 50):=agN;have hsub:Ab.Sub h H:=agb;clear hH g;unfold oJ at k2;simp only[go_sem,kx];refine(yf jid did e.ps e.down spj H (hj.sub hsub)).pthen ?_;rw[hd];generalize aE e.s o=gd at hgd hne edo⊢;obtain⟨S,R,D,E⟩:=gd;simp only at hne edo⊢;subst hne;obtain⟨b1,b2,b3,b4,b5,b6,b7,es2⟩:=bX S;rw[nJ,show bQ e.s= .agg (cP e.s)from rfl,es,show bQ S= .agg (cP S)from rfl,es2]at hgd
 simp only[opA,opC]at hgd;unfold opC at k1;simp only[go_sem];refine .tree _ (.quiet [0,1,2,3,4] 5 (.news [6,7,8,9,10] [11,12,13] (.seq [14,15,16,17]))) (.refl _) afx rfl ?_;simp only[go_sem,kx,k1];refine⟨_,fun G hs=>hgd G (hsub.trans hs),?_⟩
 simp only[go_sem];refine⟨.refl _,afB,?_⟩;intro jd hjd je hje jf hjf;have ned:=aH hje;have kje:=aA hje;have nfe:=aH hjf;have nfd:=aH (aA hjf);have kjf:=aA (aA hjf);simp only[go_sem,ak,ned,ned.symm,nfe,nfe.symm,nfd,nfd.symm];refine⟨afH,afH,afH,?_⟩;have mjd:=hsub.none hjd;have mje:=hsub.none kje;have mjf:=hsub.none kjf;have j2:jd≠i2:=fun e=>ai6
 have j2e:je≠i2:=fun e=>ai7
 have j2f:jf≠i2:=fun e=>ai8
 refine IU fun H2 w2=>?_
 have xjd:jd≠x:=fun e=>aja
 have xje:je≠x:=fun e=>ajb
 have xjf:jf≠x:=fun e=>ajc
 have y1:jd≠i1:=fun e=>by rw[e,k1]at hjd;cases hjd
 have y2:je≠i1:=fun e=>by rw[e,k1]at kje;cases kje
 have y3:jf≠i1:=fun e=>by rw[e,k1]at kjf;cases kjf
 have hs2:Ab.Sub h H2:=ahr;have fx:H2 x=_:=(by rw[w2];simp only[ak,xjd,xjd.symm,xje,xje.symm,xjf,xjf.symm,ne_eq,not_false_eq_true]:H2 x=H x).trans kx
 have f1:H2 i1=_:=(by rw[w2];simp only[ak,y1,y1.symm,y2,y2.symm,y3,y3.symm,ne_eq,not_false_eq_true]:H2 i1=H i1).trans k1
 have f2:H2 i2=_:=(by rw[w2];simp only[ak,j2,j2.symm,j2e,j2e.symm,j2f,j2f.symm,ne_eq,not_false_eq_true]:H2 i2=H i2).trans k2
 have fd:H2 jd=some (.obj [.i S.tick,fT S.cases,jZ S.reviews,kM S.notices,eu S.roles,b1,b2,b3,b4,b5,b6,b7,.i S.version] 41):=afP;have fe:H2 je=some (.obj [.i R.err,.v (.complex .f64 (hbit R.mark.1) (hbit R.mark.2)),.b R.glass,.i R.val.kind,.i R.val.n,.s R.val.s,.b R.hidden,.i R.at_] 57):=afP;have ff:H2 jf=some (.obj (vC D) 59):=agn;clear w2;refine .quiet afx ?_;simp only[go_sem,fx,f1];refine⟨_,HP e.ch o h64 (f_l hF) afu _,?_⟩;simp only[go_sem,fx];refine(Jd d hdo did jid e.ps e.down spj H2 _ (cF e.ch o) (hdk.keep hs2.gF) (hj.sub hs2) (.sl _ _) afu hps).mono fun r H3 ⟨er,spj',hd3,hj3,hT3,hs3⟩=>?_
 subst er;have hin:∀q∈did::jid::spj,∃b,h q=some b∧∀cs,b≠ .obj cs 86:=fun q hq=>by exact akh
 have out:∀q,h q=none→q∉did::jid::spj:=fun q hq hi=>by obtain⟨b,hb,_⟩:=hin q hi;rw[hq]at hb;cases hb
 have outx:x∉did::jid::spj:=fun hi=>by exact alC
 have fx3:=hT3 _ _ outx fx;have f23:=hT3 _ _ (out i2 n2) f2;have fd3:=hT3 _ _ (out jd mjd) fd;have fe3:=hT3 _ _ (out je mje) fe;have ff3:=hT3 _ _ (out jf mjf) ff;rw[hd]at hd3 hj3⊢;generalize jadd d e.ps false (cF e.ch o)=a at hd3 hj3 edo hcode⊢;obtain⟨⟨d2,ps2,dn2⟩,code⟩:=a;simp only at hd3 hj3 edo hcode⊢;subst hcode;rw[if_pos rfl]at edo;simp only[vC,opC,List.cons_append,List.nil_append]at ff3;have hsp:∀i∈spl,i∉did::jid::spj:=fun i hi hq=>by exact akf
 have hg3:=(hg.touch (S:=[]) (.of hs2) (fun i hi hh=>agW)).touch hT3 hsp
 have hx3:H3 x=some (mM jid e yl):=by rw[fx3];unfold mM;rw[es];rfl
 have hgo:=I6 e S D (cF e.ch o) .no jid x yl spl H3 hx3 hg3 hlg afu;rw[show bQ S= .agg (cP S)from rfl,es2]at hgo
 simp only[vC,opC,List.cons_append,List.nil_append]at hgo;simp only[go_sem,fd3,ff3];refine hgo.mono fun r H4 ⟨er,yl',spl',hx4,hg4,hT4,hs4⟩=>?_
 subst er;have hnl:∀q,h q=none→q∉x::spl:=fun q hq hh=>by
  rcases List.mem_cons.1 hh with rfl|hh
  ·rw[hx]at hq;cases hq
  ·obtain⟨n,hn⟩:=hg.has q hh
   rw[hn]at hq;cases hq
 have fe4:=hT4 _ _ (hnl je mje) fe3;have f24:=hT4 _ _ (hnl i2 n2) f23;simp only[go_sem,fe4,f24,ah];have hF4:∀b,Touch [i2] H4 (upd H4 i2 b):=fun b=> .upd
 have hj3' :=hj3;obtain⟨z,zs,hz1,hz2,_⟩:=hj3';have jx:jid∉x::spl:=fun hh=>by exact akS
 have sx:∀i∈spj',i∉x::spl:=fun i hi hh=>by
  obtain⟨n,hn⟩:=hz2.has i hi;rcases List.mem_cons.1 hh with rfl|hh
  ·rw[hx3]at hn;cases hn
  ·obtain⟨n2,hn2⟩:=hg3.has i hh
   rw[hn2]at hn;cases hn
 have hj4:=hj3.touch hT4 jx sx;have hj4' :=hj4;obtain⟨z4,zs4,hz41,hz42,_⟩:=hj4';have hd4:=hd3.touch hT4 (fun i hi cs=>by
  rcases List.mem_cons.1 hi with rfl|hi
  ·rw[hx3];exact⟨fun hh=>agW,fun hh=>agW⟩
  ·obtain⟨n,hn⟩:=hg3.has i hi
   rw[hn];exact⟨fun hh=>agW,fun hh=>agW⟩)
 refine .same (.refl _) ⟨by rw[edo];rfl,spl',spj',?_,?_,?_,fun i hi=>?_,fun i hi=>?_⟩
 ·rw[edo]
  refine⟨yl',?_,hg4.touch (hF4 _) ?_,hj4.touch (hF4 _) ?_ ?_⟩
  ·rw[ag _ _ (Ne.symm x2),hx4]
   unfold mM;simp only[mI]
  ·intro i hi hh
   obtain⟨n,hn⟩:=hg4.has i hi;rw[List.mem_singleton.1 hh,f24]at hn;cases hn
  ·intro hh
   rw[List.mem_singleton.1 hh,f24]at hz41;cases hz41
  ·intro i hi hh
   obtain⟨n,hn⟩:=hz42.has i hi;rw[List.mem_singleton.1 hh,f24]at hn;cases hn
 ·rw[edo]
  exact hd4.upd f24 afy afy
 ·exact((((Touch.of (S:=[]) hs2).trans hT3).trans hT4).trans (hF4 _)).mono (fun i hi=>by
   simp only[List.nil_append,List.mem_append,List.mem_cons,List.mem_singleton,List.not_mem_nil,or_false]at hi;rcases hi with((h3|h3|h3)|(h3|h3))|h3
   ·left;simp[h3]
   ·left;simp[h3]
   ·left;simp[h3]
   ·left;simp[h3]
   ·left;simp[h3]
   ·right;rw[h3];exact n2)
 ·rcases hs4 i hi with h3|h3
  ·exact .inl h3
  ·right
   cases hh:h i with
   |none=>exact .inr rfl
   |some b=>
    left
    by_cases hm3:i∈did::jid::spj
    ·simp only[List.mem_cons]at hm3
     rcases hm3 with rfl|rfl|hm3
     ·obtain⟨w,hw,_⟩:=hd3
      rw[hw]at h3;cases h3
     ·rw[hz1]at h3;cases h3
     ·exact hm3
    ·have:=hT3 _ _ hm3 (hs2 _ _ hh)
     rw[h3]at this;cases this
 ·rcases hs3 i hi with h3|h3
  ·exact .inl h3
  ·right;exact hs2.none h3
theorem Wx(x jid did:Nat)(e:cg)(d:D)(spl spj:List Nat)(o:OpD)(h:Heap)(he:j8 h x jid did e spl spj)(hdk:bF h did d)(hdo:d.ok)(hps:e.ps.length≤1000000)(hlg:e.log.length≤1000000)(hG:fG k e.s)(hk:k≤1000)(h64:mN o)(her:jt h):
  ai prog 33 [.ptr x 0,opA o] h fun r h' =>r= .agg (mF (doE e d o).2.2)∧∃spl' spj',j8 h' x jid did (doE e d o).1 spl' spj'∧bF h' did (doE e d o).2.1∧Touch (x::did::jid::(spl++spj)) h h'∧(∀i∈spl',i∈spl∨i∈spj∨h i=none)∧(∀i∈spj',i∈spj∨h i=none):=by
 have stay:∀R:iJ,doE e d o=(e,d,R)→∀(r:AV) (h' :Heap),(r= .agg (mF R)∧h' =h)→r= .agg (mF (doE e d o).2.2)∧∃spl' spj',j8 h' x jid did (doE e d o).1 spl' spj'∧bF h' did (doE e d o).2.1∧Touch (x::did::jid::(spl++spj)) h h'∧(∀i∈spl',i∈spl∨i∈spj∨h i=none)∧(∀i∈spj',i∈spj∨h i=none):=fun R ed r h' ⟨e1,e2⟩=>by subst e2;rw[ed];exact⟨e1,spl,spj,he,hdk,.refl _ _,fun i hi=> .inl hi,fun i hi=> .inl hi⟩
 cases hd:e.down
 case true=>exact(Qh x jid did e spl spj o h he hd).mono (stay _ (by simp_all [doE,if_pos]))
 by_cases hne:(aE e.s o).2.2.2=0
 case neg=>exact(Tp x jid did e spl spj o h he hd hG hk h64 her hne).mono (stay _ (by simp_all [doE,if_neg,if_pos]))
 by_cases hcode:(jadd d e.ps false (cF e.ch o)).2=0
 ·exact Tq x jid did e d spl spj o h he hdk hdo hps hlg hd hG hk h64 her hne hcode
 ·exact(Tr x jid did e d spl spj o h he hdk hdo hps hlg hd hG hk h64 her hne hcode).mono fun r h' ⟨a,s1,s2,b,c,f,g,i⟩=>⟨a,s1,s2,b,c,f,fun q hq=>(g q hq).imp id .inr,i⟩
theorem Sa{U:TypeId→TI}{a b:Code}{K:Exit→Env→Heap→Prop}(hh:∀H2,H2=h→jR P U n a b ρ H2 K y):jR P U n a b ρ h K y:=hh h rfl
theorem jt.touch(he:jt h)(ht:Touch S h h')(hS:∀i∈S,∀b vs,h i≠some (.ro b vs)):jt h' :=by obtain⟨ev,hev,id,hi⟩:=he;exact⟨ev,hev,id,ht _ _ afv hi⟩
theorem GU{l:List Txt}{i:Nat}(hi:i<l.length)(h:lU e (l.take i)=some e1):lU e (l.take (i+1))=kR e1 l[i]:=by grind [List.take_succ_eq_append_getElem,th]
theorem GS{l:List Txt}{i:Nat}(h:lU e (l.take i)=none):lU e l=none:=by
 rw[←List.take_append_drop i l];generalize l.take i=a at h⊢
 induction a generalizing e with
 |nil=>cases h
 |cons p a ih=>
  simp only[List.cons_append,lU]at h⊢
  grind
theorem Ux{e':cg}(h:kR e p=some e')(hG:fG k e.s):fG (k+1) e'.s:=by
 unfold kR at h;cases hr:jq e p with
 |none=>grind
 |some o=>
  rw[hr]at h;simp only at h;split at h
  ·cases h;exact lW o hG
  grind
theorem Rf(h:jq e p=some o)(hl:p.length≤1000000):mN o:=by grind [jq,I5,List.length_drop]
def vq(h h' :Heap)(did:Nat)(ps:List Txt)(r:AV):Prop:=match wq ps with
 |none=>r= .tup [.v (.pointer none),.i 7]
 |some e=>∃x jid spl spj,r= .tup [.ptr x 0,.i 0]∧j8 h' x jid did e spl spj∧(∀i∈x::jid::(spl++spj),h i=none)
theorem newL:cP xX= [.i 0,.sl [] .no,.sl [] .no,.sl [] .no,.sl [] .no,.s jY,.b false,.i 6,.sl [] .no,.sl [] .no,.sl [] .no,.sl [] .no,.i 0]:=rfl
theorem OY(d:D)(hdo:d.ok)(did:Nat)(h:Heap)(hdk:bF h did d)(her:jt h)(hps:(scan d.b).1.length≤900):
  ai prog 17 [.ptr did 0] h fun r h' =>bF h' did d.bT.1∧Keep did h h'∧if d.bT.2=0 then vq h h' did (scan d.b).1 r else r= .tup [.v (.pointer none),.i (d.bT.2:Nat)]:=by
 have hlen:=(Rm d.b).2;refine aw func17 62 [.tmp 2,.tmp 3] ?_
 simp only[go_sem];refine(NM d hdo did h hdk).mono fun r h1 ⟨J,e1,hd1,kp1,hif⟩=>?_
 subst e1;have her1:jt h1:=her.touch (.keep kp1) (fun i hi b vs hh=>by obtain⟨y,hy,_⟩:=hdk;rw[List.mem_singleton.1 hi,hy]at hh;cases hh)
 generalize (scan d.b).1=ps at hps hlen hif⊢;generalize d.bT=od at hd1 hif⊢;obtain⟨d1,c1⟩:=od;simp only at hd1 hif⊢
 by_cases hc:c1=0
 case neg=>
  rw[if_neg hc]at hif;subst hif;have t1:(((c1:Nat):Int) !=0)=true:=by simp[hc]
  simp only[go_sem,t1];exact .same (.refl _) ⟨hd1,kp1,by rw[if_neg hc];rfl⟩
 subst hc;rw[if_pos rfl]at hif;obtain⟨jid,spj,rfl,hjn,hj,hsn⟩:=hif;simp only[go_sem];refine(T9 h1 her1).pthen ?_;rw[show bQ xX= .agg (cP xX)from rfl,newL]
 simp only[go_sem];intro x hx;have hxh:h x=none:=by
  cases hh:h x with
  |none=>rfl
  |some k=>
   by_cases e:x=did
   ·subst e
    obtain⟨y,hy,_⟩:=hd1;rw[hy]at hx;cases hx
   ·rw[kp1 _ _ e hh]at hx;cases hx
 simp only[go_sem];refine inH fun H1 w1=>?_
 have hs1:Ab.Sub h1 H1:=by rw[w1];exact(Sub.refl h1).new hx _
 have hE1:j8 H1 x jid did (kW ps) [] spj:=⟨_,by rw[w1,ah];rfl,.inl ⟨rfl,rfl,rfl⟩,hj.sub hs1⟩
 clear w1;have hK1:Keep did h H1:=kp1.trans (hs1.keep did);refine(HQ jid did ps false spj H1 (hj.sub hs1) afu (fun p hp=>by have:=hlen p hp;omega)).mono fun r h2 ⟨q,er,hs2⟩=>?_
 subst er;simp only[go_sem,afj];refine .intro (fun m ρ H=>∃(i:Nat) (e:cg) (spl:List Nat),lU (kW ps) (ps.take i)=some e∧e.ps=ps∧e.down=false∧e.log.length=i∧fG i e.s∧j8 H x jid did e spl spj∧bF H did d1∧Keep did h H∧(∀j∈spl,h j=none)∧i≤ps.length∧m=ps.length - i∧lk ρ 6=some (.ptr x 0)∧lk ρ 28=some (.sl (ps.map nS) q)∧lk ρ 29=some (.i ps.length)∧lk ρ 30=some (.i i)) (ps.length - 0) ?_ ?_
 ·obtain⟨yl,a,b,c⟩:=hE1
  refine⟨0,kW ps,[],rfl,rfl,rfl,rfl,tj,⟨yl,hs2 _ _ a,b.touch (S:=[]) (.of hs2) (fun i hi=>by cases hi),c.sub hs2⟩,(hd1.keep hs1.gF).keep hs2.gF,hK1.trans (hs2.keep did),fun j hj=>(by cases hj),afu,rfl,?_,?_,?_,?_⟩<;>simp only[go_sem]
 rintro m ρ H ⟨i,e,spl,hf,hps2,hdn,hlg,hG,hE,hD,hK,hsl,hi,rfl,r6,r28,r29,r30⟩
 by_cases hlt:i<ps.length
 case neg=>
  have ei:i=ps.length:=afu;have t1:decide ((i:Int)<(ps.length:Int))=false:=decide_eq_false afu;rw[ei,List.take_length]at hf;simp only[go_sem,r6,r28,r29,r30,t1];refine .same (.refl _) ⟨hD,hK,?_⟩
  show vq h H did ps (.tup [.ptr x 0,.i 0])
  unfold vq wq;rw[hf];exact⟨x,jid,spl,spj,rfl,hE,fun j hj=>by
   simp only[List.mem_cons,List.mem_append]at hj;rcases hj with rfl|rfl|hj|hj
   ·exact hxh
   ·exact hjn
   ·exact hsl _ hj
   ·exact(hsn _ hj).1⟩
 have t1:decide ((i:Int)<(ps.length:Int))=true:=decide_eq_true afu;have w3:=afp i afu;have ix:=fun k=>fF.eq (xs:=ps.map nS) (sz:=1) i afQ afD k
 have hf1:=GU hlt hf;have hpl:=hlen _ (afo hlt);rw[afk]at ix;obtain⟨p,ep⟩:∃p,ps[i]=p:=⟨_,rfl⟩;rw[ep]at ix hf1 hpl;simp only[nS]at ix;have hEx:=hE;obtain⟨yl,hx2,hgl,hj2⟩:=hE;simp only[go_sem,r6,r28,r29,r30,t1,ix];refine(Nk p .no e yl jid x H afu hx2).pthen ?_;unfold Cd;have her2:jt H:=her.touch (.keep hK) (fun i hi b vs hh=>by obtain⟨y,hy,_⟩:=hdk;rw[List.mem_singleton.1 hi,hy]at hh;cases hh)
 have bad:∀H',Ab.Sub H H'→kR e p=none→bF H' did d1∧Keep did h H'∧vq h H' did ps (.tup [.v (.pointer none),.i 7]):=fun H' hs hn=>by refine⟨hD.keep hs.gF,hK.trans (hs.keep did),?_⟩;unfold vq wq;rw[GS (hf1.trans hn)]
 cases hr:jq e p with
 |none=>
  have hn:kR e p=none:=by unfold kR;rw[hr]
  simp only[go_sem,hr,opA,opC,pH,aq,Option.getD,Option.isSome];intro i9 h9;simp only[go_sem];exact .mk _ (.refl _) (.refl _) (bad _ ((Sub.refl H).new h9 _) hn)
 |some o=>
  have h64:=Rf hr afu;have hst:kR e p=if(aE e.s o).2.2.2=0 then some (mI e (aE e.s o) p)else none:=by unfold kR;rw[hr]
  obtain⟨a1,a2,a3,a4,a5,a6,a7,es⟩:=bX e.s;have hgd:=fun(G:Heap) (hG' :Ab.Sub H G)=>nI e.s hG afu o h64 G (her2.sub hG')
  have hG2:=lW o hG;have g:=hx2;unfold mM at g;rw[es]at g;simp only[List.cons_append,List.nil_append]at g;simp only[go_sem,hr,opA,opC,Option.getD,Option.isSome];intro i9 h9;have x9:i9≠x:=fun e=>by rw[e,hx2]at h9;cases h9
  simp only[go_sem];generalize hH:upd H i9 _=H1;have kx:H1 x=_:=(by rw[←hH,ag _ _ (Ne.symm x9)]:H1 x=H x).trans g
  have k9:H1 i9=some (.obj (opC o) 50):=ahG;have hsub:Ab.Sub H H1:=by rw[←hH];exact(Sub.refl H).new h9 _
  clear hH g;generalize aE e.s o=gd at hgd hst hG2⊢;obtain⟨S,R,D,E⟩:=gd;simp only at hst hG2;obtain⟨b1,b2,b3,b4,b5,b6,b7,es2⟩:=bX S;rw[nJ,show bQ e.s= .agg (cP e.s)from rfl,es,show bQ S= .agg (cP S)from rfl,es2]at hgd
  simp only[opA,opC]at hgd;unfold opC at k9;refine .tree _ (.quiet [0,1,2,3,4] 5 (.news [6,7,8,9,10] [11,12,13] (.seq [14,15,16,17]))) (.refl _) afx rfl ?_;simp only[go_sem,r6,kx,k9];refine⟨_,fun G hs=>hgd G (hsub.trans hs),?_⟩
  simp only[go_sem];refine⟨.refl _,afB,?_⟩;intro jd hjd je hje jf hjf;have ned:=aH hje;have kje:=aA hje;have nfe:=aH hjf;have nfd:=aH (aA hjf);have kjf:=aA (aA hjf);simp only[go_sem,ak,ned,ned.symm,nfe,nfe.symm,nfd,nfd.symm];refine⟨afH,afH,afH,?_⟩;refine Sa fun H2 w2=>?_
  have xjd:jd≠x:=fun e=>aja
  have xje:je≠x:=fun e=>ajb
  have xjf:jf≠x:=fun e=>ajc
  have hs2:Ab.Sub H H2:=by have:=hsub.none hjd;have:=hsub.none kje;have:=hsub.none kjf;rw[w2];repeat (first|exact hsub|refine Ab.Sub.put ?_ afI _)
  have fx:H2 x=_:=(by rw[w2];simp only[ak,xjd,xjd.symm,xje,xje.symm,xjf,xjf.symm,ne_eq,not_false_eq_true]:H2 x=H1 x).trans kx
  have fd:H2 jd=some (.obj [.i S.tick,fT S.cases,jZ S.reviews,kM S.notices,eu S.roles,b1,b2,b3,b4,b5,b6,b7,.i S.version] 41):=by rw[w2];simp only[ak,ned,ned.symm,nfe,nfe.symm,nfd,nfd.symm,ah,ne_eq,not_false_eq_true]
  have ff:H2 jf=some (.obj (vC D) 59):=by rw[w2];simp only[ak,ned,ned.symm,nfe,nfe.symm,nfd,nfd.symm,ah,ne_eq,not_false_eq_true];rfl
  clear w2;simp only[vC,opC,List.cons_append,List.nil_append]at ff
  by_cases hE0:E=0
  case neg=>
   have t2:(E !=0)=true:=by simp[hE0]
   rw[if_neg hE0]at hst;simp only[go_sem,t2];exact .same (.refl _) (bad _ hs2 hst)
  subst hE0;rw[if_pos rfl]at hst;have hx3:H2 x=some (mM jid e yl):=by rw[fx];unfold mM;rw[es];rfl
  have hg3:=hgl.touch (S:=[]) (.of hs2) (fun i hi hh=>agW)
  have hgo:=I6 e S D p .no jid x yl spl H2 hx3 hg3 afu afu;rw[show bQ S= .agg (cP S)from rfl,es2]at hgo
  simp only[vC,opC,List.cons_append,List.nil_append]at hgo;simp only[go_sem,r6,fd,ff];refine hgo.mono fun r H4 ⟨er,yl',spl',hx4,hg4,hT4,hs4⟩=>?_
  subst er;simp only[go_sem,r6,r28,r29,r30,w3];have hout:∀j∈x::spl,h j=none:=fun j hj=>by
   rcases List.mem_cons.1 hj with rfl|hj
   ·exact hxh
   ·exact hsl _ hj
  have hdid:h did≠none:=by obtain⟨y,hy,_⟩:=hdk;rw[hy];simp
  have hj3:=hj2.sub hs2;have hD2:=hD.keep hs2.gF;refine⟨_,?_,i+1,mI e (S,R,D,0) p,spl',hf1.trans hst,hps2,hdn,?_,hG2,⟨yl',hx4,hg4,?_⟩,?_,?_,?_,afu,rfl,?_,?_,?_,?_⟩
  ·omega
  ·simp[mI,hlg]
  ·refine hj3.touch hT4 ?_ ?_
   ·obtain⟨z,zs,hz1,_⟩:=hj3
    intro hh;exact akS
   ·obtain⟨z,zs,_,hz2,_⟩:=hj3
    intro j hj hh;obtain⟨n,hn⟩:=hz2.has j hj;rcases List.mem_cons.1 hh with rfl|hh
    ·rw[hx3]at hn;cases hn
    ·obtain⟨n2,hn2⟩:=hg3.has j hh
     rw[hn2]at hn;cases hn
  ·exact hD2.touch hT4 (fun j hj cs=>by
    rcases List.mem_cons.1 hj with rfl|hj
    ·rw[hx3];exact⟨fun hh=>agW,fun hh=>agW⟩
    ·obtain⟨n,hn⟩:=hg3.has j hj
     rw[hn];exact⟨fun hh=>agW,fun hh=>agW⟩)
  ·intro j k hj hk
   exact hT4 _ _ (fun hh=>by rw[hout j hh]at hk;cases hk) (hs2 _ _ (hK _ _ hj hk))
  ·intro j hj
   rcases hs4 j hj with hh|hh
   ·exact hsl _ hh
   ·cases hk:h j with
    |none=>rfl
    |some k=>
     by_cases e1:j=did
     ·subst e1
      obtain⟨y,hy,_⟩:=hD2;rw[hy]at hh;cases hh
     ·rw[hs2 _ _ (hK _ _ e1 hk)]at hh;cases hh
  all_goals simp only[go_sem,r6,r28,r29]
theorem j8.sub{x jid did:Nat}(he:j8 h x jid did e spl spj)(hs:Ab.Sub h h'):j8 h' x jid did e spl spj:=by obtain⟨yl,a,b,c⟩:=he;exact⟨yl,hs _ _ a,b.touch (S:=[]) (.of hs) afB,c.sub hs⟩
theorem MT(y:AV)(xs:List AV)(h:Heap)(hb:Rd h 16 y xs)(hl:xs.length≤1000000):ai prog 30 [y] h fun r h' =>OwE 59 h h' 16 r xs∧Ab.Sub h h' :=by
 refine aw func30 8 [.tmp 2] ?_
 simp only[go_sem];refine hb.nil fun b hxs=>?_
 cases b
 ·simp only[go_sem]
  refine hb.src (U:=U) (e:=59) afJ ⟨hb.1,afu,OwE.ko (U:=U) (sz:=16) afJ afJ hb.1 fun y' h' hw hs=>?_⟩
  exact ajT
 ·exact ajQ
theorem J9(y:AV)(xs:List AV)(h:Heap)(hb:Rd h 3 y xs)(hl:xs.length≤10000000)(hp:gO xs=true):ai prog 31 [y] h fun r h' =>r= .sl xs .no∧h' =h:=
 ai.freeze fun g hg _=>ai.mono (Q:=fun r h' =>OwE 90 g h' 3 r xs∧Ab.Sub g h') (by
  have hb:=hb.sub hg;refine aw func31 8 [.tmp 2] ?_
  simp only[go_sem];refine hb.nil fun b hxs=>?_
  cases b
  ·simp only[go_sem]
   refine hb.src (U:=U) (e:=90) afJ ⟨hb.1,afu,OwE.ko (U:=U) (sz:=3) afJ afJ hb.1 fun y' h' hw hs=>?_⟩
   exact ajT
  ·have hx:xs= []:=by grind
   simp only[go_sem];exact .same (.refl _) ⟨.inl ⟨hx,rfl⟩,.refl _⟩) fun r h' ⟨h1,h2⟩=>⟨h2,_,h1.frz hp,rfl⟩
theorem QK(d:qM):cN (ldA d)=true:=by
 have:=bn (f:=bh) (fun _=>rfl) d.obls
 simp[ldA,vC,opC,ay,aO,cN,gO,this]
theorem SE:(U 37).sz≠0:=afy
theorem UI:(U 37).sz=1:=afJ
theorem CW(x jid did:Nat)(e:cg)(spl spj:List Nat)(h:Heap)(he:j8 h x jid did e spl spj)(hl:e.log.length≤1000000)(ho:∀d∈e.log,d.obls.length≤10000000):
  ai prog 10 [.ptr x 0] h fun r h' =>r= .sl (e.log.map ldA) .no∧h' =h:=
 ai.freeze fun g hgs _=>by
 obtain⟨yl,hx,hg,hj⟩:=he.sub hgs;obtain⟨a1,a2,a3,a4,a5,a6,a7,es⟩:=bX e.s;have gx:=hx;unfold mM at gx;rw[es]at gx;simp only[List.cons_append,List.nil_append]at gx;obtain⟨q,rfl⟩:=hg.row;generalize e.log=l at hl ho gx⊢;refine aw func10 27 [.tmp 2] ?_
 simp only[go_sem,gx];refine(MT _ (l.map ldA) g (.sl (zB l) q) afv).mono fun z M ⟨o1,s1⟩=>?_
 simp only[go_sem,o1.rd.len,afj];refine .intro (fun m ρ G=>∃i:Nat,Ab.Sub M G∧i≤l.length∧m=l.length - i∧lk ρ 3=some z∧lk ρ 11=some (.i l.length)∧lk ρ 12=some (.i i)) l.length ?_ ?_
 ·refine⟨0,.refl _,afu,rfl,?_,?_,?_⟩<;>simp only[go_sem]
 rintro m ρ G ⟨i,hs,hi,rfl,r3,r11,r12⟩
 have v1:=o1.sub hs
 by_cases hlt:i<l.length
 case neg=>have d1:decide ((i:Int)<(l.length:Int))=false:=decide_eq_false afu;simp only[go_sem,r3,r11,r12,d1];exact .same (.refl _) ⟨s1.trans hs,_,v1.frz (bn QK _),rfl⟩
 have d1:decide ((i:Int)<(l.length:Int))=true:=decide_eq_true afu;have w1:IntKind.i64.wrap ((i:Int)+1)=((i+1:Nat):Int):=afG;have hob:=ho _ (afo hlt);obtain⟨d,ed⟩:∃d,l[i]=d:=⟨_,rfl⟩;have hxi:(l.map ldA)[i]'afv=ldA d:=afv;rw[ed]at hob;simp only[go_sem,r3,r11,r12,d1];refine v1.rd.idx (U:=U) (e:=59) i rfl afv uD afy fun p hp1=>?_
 simp only[go_sem];refine hp1.field (f:=4) (off:=15) (t:=37) rfl SE fun p2 hp2=>?_
 have hld:=hp2.part (U:=U) (ty:=37) SE (by rw[hxi,UI];exact afi rfl)
 simp only[go_sem,hld,hxi,ldA,vC,opC,ay];refine(J9 _ (d.obls.map bh) G (eP bh 3 (fun _=>rfl) _ _) afv (bn (fun _=>rfl) _)).pthen ?_
 simp only[go_sem,r3,r12];obtain⟨id1,hg1,u1⟩:=v1.ow afv;refine u1.idx (U:=U) (e:=59) i rfl afv uD afy ?_;simp only[go_sem];have u1' :=u1;obtain⟨cap,rest,ey,hid,hr,hcap,hsz⟩:=u1';have hbd:i*16+16≤(au (l.map ldA)++rest).length:=by grind [afn,aY,afj]
 have e5:List.take (i*16+15) (au (l.map ldA)++rest)++ [.sl (d.obls.map bh) .no]++List.drop (i*16+15+1) (au (l.map ldA)++rest)=au (l.map ldA)++rest:=by refine(kP hsz i afv 15 [.sl (d.obls.map bh) .no] (afi rfl)).trans ?_;rw[pK];rw[List.getElem?_eq_getElem afv,hxi];rfl
 simp only[go_sem,r12,hid];rw[e5,tN hid];refine⟨afu,?_⟩;simp only[go_sem,w1];refine⟨_,?_,i+1,hs,afu,rfl,?_,?_,?_⟩
 ·omega
 all_goals simp only[go_sem,r3,r11]
end Go.Proofs.YtelkmnkejghkeaaGreatDoor
namespace Go.Bf
open Go Go.Ab Go.Proofs.YtelkmnkejghkeaaGreatDoor
variable {e:cg}{o:OpD}{d:D}{ps:List Txt}
def qJ(e:cg)(o:OpD):cg:={mI e (aE e.s o) (cF e.ch o)with ps:=e.ps++ [cF e.ch o],down:=false}
theorem IP(d:D)(h:e.down=false)(hg:(aE e.s o).2.2.2≠0):doE e d o=(e,d,(aE e.s o).2.1):=by simp_all [doE,if_neg,if_pos]
theorem Qi{d':D}{dn:Bool}{c:Nat}(h:e.down=false)(hg:(aE e.s o).2.2.2=0)(hj:jadd d e.ps false (cF e.ch o)=((d',ps,dn),c)):
  doE e d o=if c=0 then({mI e (aE e.s o) (cF e.ch o)with ps:=ps,down:=dn},d',(aE e.s o).2.1)else({e with ps:=ps,down:=dn},d',xT (c:Int)):=by
 simp_all [doE,if_neg]
theorem IT(h:e.down=false)(hg:(aE e.s o).2.2.2=0)(h1:d.off=false)(h2:d.f=0)(hr:d.b.length+(frame (cF e.ch o)).length≤d.q):
  doE e d o=({mI e (aE e.s o) (cF e.ch o)with ps:=e.ps++ [cF e.ch o],down:=false},{d with b:=d.b++frame (cF e.ch o),sy:=(d.b++frame (cF e.ch o)).length},(aE e.s o).2.1):=by
 have hl:=mW (h:=e.ch) (kC (fK hg));rw[Qi h hg (Xb h1 h2 afu afu hr),if_pos rfl]
theorem IQ(h:e.down=false)(hg:(aE e.s o).2.2.2=0)(h1:d.off=false)(hr:d.q<d.b.length+(frame (cF e.ch o)).length):doE e d o=(e,d,xT 8):=by have hl:=mW (h:=e.ch) (kC (fK hg));rw[Qi h hg (NK h1 afu afu hr),if_neg afy];obtain⟨_,_,_,_,dn⟩:=e;cases h;rfl
theorem NL{p:Txt}(h1:d.off=false)(h2:d.f=1∨d.f=2)(hp1:1≤p.length)(hp2:p.length≤8192)(hf:d.b.length+(frame p).length≤d.q):
  jadd d ps false p=(({d with b:=d.b++frame p,f:=0,off:=true},ps,true),9):=by
 obtain⟨q,b,s,f,off⟩:=d;subst h1;have hno:¬(p.length=0∨8192<p.length):=afu;have ha:∀n:Nat,D.append ⟨q,b,s,n,false⟩ (frame p)=(D.burn ⟨q,b++frame p,s,n,false⟩,if(D.burn ⟨q,b++frame p,s,n,false⟩).off then 9 else 0):=fun n=>iN rfl hf
 unfold jadd;rw[if_neg afB,if_neg hno,ha];rcases h2 with rfl|rfl<;>rfl
theorem CV(h:e.down=false)(hg:(aE e.s o).2.2.2=0)(h1:d.off=false)(h2:d.f=1∨d.f=2)(hr:d.b.length+(frame (cF e.ch o)).length≤d.q):
  doE e d o=({e with down:=true},{d with b:=d.b++frame (cF e.ch o),f:=0,off:=true},xT 9):=by
 have hl:=mW (h:=e.ch) (kC (fK hg));rw[Qi h hg (NL h1 h2 afu afu hr),if_neg afy];rfl
end Go.Bf
namespace Go.Proofs.YtelkmnkejghkeaaGreatDoor
open Go Go.Ab Go.Bf Tryz
variable {h0 h h':Heap}{S spl spj:List Nat}{x jid k:Nat}{e:cg}{d:D}
theorem Cl(hs:Ab.Sub h0 h)(ht:Touch S h h')(hn:∀i∈S,h0 i=none):Ab.Sub h0 h' :=fun j k hj=>ht j k afv (hs j k hj)
theorem vb{i:Nat}(hs:Ab.Sub h0 h)(ht:Keep i h h')(hn:h0 i=none):Ab.Sub h0 h' :=Cl hs (.keep ht) afv
theorem TE{did:Nat}(he:j8 h x jid did e spl spj)(hd:bF h did d):∀i∈x::did::jid::(spl++spj),h i≠none:=fun i hi=>by
 obtain⟨yl,a,b,z,zs,c1,c2,_⟩:=he;obtain⟨y,d1,_⟩:=hd;simp only[List.mem_cons,List.mem_append]at hi;rcases hi with rfl|rfl|rfl|hi|hi
 ·grind
 ·grind
 ·grind
 ·obtain⟨n,e⟩:=b.has i hi;grind
 ·obtain⟨n,e⟩:=c2.has i hi;grind
structure qN (h0 h:Heap) (x jid did:Nat) (e:cg) (d:D) (spl spj:List Nat):Prop where
 eng:j8 h x jid did e spl spj
 disk:bF h did d
 ok:d.ok
 sub:Ab.Sub h0 h
 new:∀i∈x::did::jid::(spl++spj),h0 i=none
theorem qN.up{did:Nat}(w:qN h0 h x jid did e d spl spj)(hs:Ab.Sub h h'):qN h0 h' x jid did e d spl spj:=
 ⟨w.eng.sub hs,w.disk.keep hs.gF,w.ok,w.sub.trans hs,w.new⟩
theorem qN.did{did:Nat}{d':D}(w:qN h0 h x jid did e d spl spj)(hd:bF h' did d')(hk:Keep did h h')(ho:d'.ok):qN h0 h' x jid did e d' spl spj:=by
 have hw:=w.disk;obtain⟨yl,a,b,c⟩:=w.eng;obtain⟨y,hy,_⟩:=hw;have h1:x∉ [did]:=fun hi=>by rw[List.mem_singleton.1 hi,hy]at a;cases a
 have h3:∀i∈spl,i∉ [did]:=fun i hi hh=>by
  obtain⟨n,hn⟩:=b.has i hi
  grind
 have h2:jid∉ [did]∧∀i∈spj,i∉ [did]:=by
  obtain⟨z,zs,c1,c2,_⟩:=c;refine⟨fun hi=>afv,fun i hi hh=>?_⟩
  obtain⟨n,hn⟩:=c2.has i hi
  grind
 exact⟨⟨yl,hk _ _ afv a,b.touch (.keep hk) h3,c.touch (.keep hk) h2.1 h2.2⟩,hd,ho,vb w.sub hk (w.new _ afB),w.new⟩
theorem qN.doS{did:Nat}(w:qN h0 h x jid did e d spl spj)(o:OpD)(hps:e.ps.length≤1000000)(hlg:e.log.length≤1000000)(hG:fG k e.s)(hk:k≤1000)(h64:mN o)(her:jt h0)(hok:(doE e d o).2.1.ok):
  ai prog 33 [.ptr x 0,opA o] h fun r h' =>r= .agg (mF (doE e d o).2.2)∧∃spl' spj',qN h0 h' x jid did (doE e d o).1 (doE e d o).2.1 spl' spj'∧Touch (x::did::jid::(spl++spj)) h h'∧(∀i∈x::did::jid::(spl' ++spj'),i∈x::did::jid::(spl++spj)∨h i=none):=
 (Wx x jid did e d spl spj o h w.eng w.disk w.ok hps hlg hG hk h64 (her.sub w.sub)).mono fun r h' ⟨e1,spl',spj',a,b,c,f,g⟩=>by
  have hin:∀i∈x::did::jid::(spl' ++spj'),i∈x::did::jid::(spl++spj)∨h i=none:=fun i hi=>by
   simp only[List.mem_cons,List.mem_append]at hi⊢;rcases hi with hi|hi|hi|hi|hi
   ·exact .inl (.inl hi)
   ·exact .inl (.inr (.inl hi))
   ·exact .inl (.inr (.inr (.inl hi)))
   ·rcases f i hi with h1|h1|h1
    ·exact .inl (.inr (.inr (.inr (.inl h1))))
    ·exact .inl (.inr (.inr (.inr (.inr h1))))
    ·exact .inr h1
   ·rcases g i hi with h1|h1
    ·exact .inl (.inr (.inr (.inr (.inr h1))))
    ·exact .inr h1
  exact⟨e1,spl',spj',⟨a,b,hok,Cl w.sub c w.new,fun i hi=>(hin i hi).elim (w.new i) w.sub.none⟩,c,hin⟩
theorem qN.fresh{did:Nat}(w:qN h0 h x jid did e d spl spj){i:Nat}(hi:h i=none):i∉x::did::jid::(spl++spj):=fun hh=>TE w.eng w.disk i hh hi
end Go.Proofs.YtelkmnkejghkeaaGreatDoor
namespace Go.Proofs
open Go.Shelf
open Go.RowKit in
open Go.RowKit in
def Tryz.ES:Go.Shelf.Ren:=⟨fun|121=>129|214=>176|n=>n,fun|4=>4|9=>9|n=>n,fun|n=>n⟩
theorem Tryz.QG:Go.Proofs.Lays.n121 Tryz.prog Tryz.ES:={
 mixed:=afx
 f121:=Tryz.func129.trans (congrArg some afx)
 f214:=Tryz.func176.trans (congrArg some afx)
 t4:=Tryz.underlying4
 a4:=Tryz.isAgg4
 z4:=Tryz.sizeOf4
 v4:=Tryz.zeroValue4
 t9:=Tryz.underlying9
 a9:=Tryz.isAgg9
 z9:=Tryz.sizeOf9
 v9:=Tryz.zeroValue9}
open Go.RowKit in
theorem Tryz.strconv_FormatBool(b:Bool)(w:World):
  Calls Tryz.prog 129 #[.bool b] w fun e w' =>e= .returned (.string ⟨(Lib.formatBool b).toArray⟩)∧w' =w:=Any.strconv_FormatBool Tryz.QG b w
def Tryz.Db:Go.Shelf.Ren:=⟨fun|171=>69|243=>128|246=>175|283=>224|284=>225|285=>226|286=>227|129=>261|317=>260|318=>262|319=>263|320=>264|337=>288|338=>289|n=>n,fun|3=>3|9=>9|2=>2|4=>4|171=>312|0=>0|53=>74|37=>76|5=>5|173=>315|212=>349|51=>273|20=>20|213=>350|46=>144|232=>401|233=>402|n=>n,fun|17=>3|18=>4|19=>5|n=>n⟩
theorem Tryz.NU:Go.Proofs.LaysM.n171 Tryz.prog Tryz.Db:={
 mixed:=afx
 f129:=Tryz.func261.trans (congrArg some afx)
 f171:=Tryz.func69.trans (congrArg some afx)
 f243:=Tryz.func128.trans (congrArg some afx)
 f246:=Tryz.func175.trans (congrArg some afx)
 f283:=Tryz.func224.trans (congrArg some afx)
 f284:=Tryz.func225.trans (congrArg some afx)
 f285:=Tryz.func226.trans (congrArg some afx)
 f286:=Tryz.func227.trans (congrArg some afx)
 f317:=Tryz.func260.trans (congrArg some afx)
 f318:=Tryz.func262.trans (congrArg some afx)
 f319:=Tryz.func263.trans (congrArg some afx)
 f320:=Tryz.func264.trans (congrArg some afx)
 f337:=Tryz.func288.trans (congrArg some afx)
 f338:=Tryz.func289.trans (congrArg some afx)
 t0:=Tryz.underlying0
 a0:=Tryz.isAgg0
 z0:=Tryz.sizeOf0
 v0:=Tryz.zeroValue0
 t2:=Tryz.underlying2
 a2:=Tryz.isAgg2
 z2:=Tryz.sizeOf2
 v2:=Tryz.zeroValue2
 t3:=Tryz.underlying3
 a3:=Tryz.isAgg3
 z3:=Tryz.sizeOf3
 v3:=Tryz.zeroValue3
 t4:=Tryz.underlying4
 a4:=Tryz.isAgg4
 z4:=Tryz.sizeOf4
 v4:=Tryz.zeroValue4
 t5:=Tryz.underlying5
 a5:=Tryz.isAgg5
 z5:=Tryz.sizeOf5
 v5:=Tryz.zeroValue5
 t9:=Tryz.underlying9
 a9:=Tryz.isAgg9
 z9:=Tryz.sizeOf9
 v9:=Tryz.zeroValue9
 t20:=Tryz.underlying20
 a20:=Tryz.isAgg20
 z20:=Tryz.sizeOf20
 v20:=Tryz.zeroValue20
 t37:=Tryz.underlying76
 a37:=Tryz.isAgg76
 z37:=Tryz.sizeOf76
 v37:=Tryz.zeroValue76
 t46:=Tryz.underlying144
 a46:=Tryz.isAgg144
 z46:=Tryz.sizeOf144
 v46:=Tryz.zeroValue144
 t51:=Tryz.underlying273
 a51:=Tryz.isAgg273
 z51:=Tryz.sizeOf273
 v51:=Tryz.zeroValue273
 t53:=Tryz.underlying74
 a53:=Tryz.isAgg74
 z53:=Tryz.sizeOf74
 v53:=Tryz.zeroValue74
 t171:=Tryz.underlying312
 a171:=Tryz.isAgg312
 z171:=Tryz.sizeOf312
 v171:=Tryz.zeroValue312
 t173:=Tryz.underlying315
 a173:=Tryz.isAgg315
 z173:=Tryz.sizeOf315
 v173:=Tryz.zeroValue315
 t212:=Tryz.underlying349
 a212:=Tryz.isAgg349
 z212:=Tryz.sizeOf349
 v212:=Tryz.zeroValue349
 t213:=Tryz.underlying350
 a213:=Tryz.isAgg350
 z213:=Tryz.sizeOf350
 t232:=Tryz.underlying401
 a232:=Tryz.isAgg401
 z232:=Tryz.sizeOf401
 v232:=Tryz.zeroValue401
 t233:=Tryz.underlying402
 a233:=Tryz.isAgg402
 z233:=Tryz.sizeOf402
 v233:=Tryz.zeroValue402
 g17:=afx
 g18:=afx
 g19:=afx
 i0:=afx
 i2:=afx
 i3:=afx
 i4:=afx
 i5:=afx
 i9:=afx
 i20:=afx
 i37:=afx
 i46:=afx
 i51:=afx
 i53:=afx
 i171:=afx
 i173:=afx
 i212:=afx
 i232:=afx
 i233:=afx
 m17:=afx
 m18:=afx
 m19:=afx}
open Go.RowKit Go.Sort Go.Lib in
theorem Tryz.strconv_Itoa (n : Int) (h0 : -9223372036854775808 ≤ n) (h1 : n ≤ 9223372036854775807) (w : World) (htab : Lib.TabIs Tryz.prog w "internal/strconv.uint64pow10" .u64 Lib.pow10Tab) :
  Calls Tryz.prog 69 #[.int .i64 n] w fun e w' =>e= .returned (.string ⟨(Lib.itoa n).toArray⟩)∧∃k os,w' =grow (w.drewN k) os:=Any.strconv_Itoa Tryz.NU n h0 h1 w htab
end Go.Proofs
namespace Go.Proofs.YtelkmnkejghkeaaGreatDoor
open Go Go.Ab Go.Bf Tryz
abbrev AQ(h:Heap):Prop:=Tab h 3 Ac
theorem ou(n:Int)(h:Heap)(hn: -9223372036854775808≤n∧n≤9223372036854775807)(ht:AQ h):ai prog 69 [.i n] h fun r h' =>r= .s (Lib.itoa n)∧h' =h:=by
 refine .lib ⟨_,func69,afJ,rfl⟩ fun c vs hs g h1 h2=>?_
 obtain ⟨v,rfl⟩:∃v,vs= #[v]:=Array.size_eq_one_iff.1 h1;have e:v= .int .i64 n:=(h2 0 afB).bV;subst e;have hv := ht.var (P := prog) (name := "internal/strconv.uint64pow10") afJ hs g;refine (Tryz.strconv_Itoa n hn.1 hn.2 c.w (by unfold Lib.TabIs; rw [hv]; rfl)).mono ?_
 rintro e w' ⟨rfl,k,os,rfl⟩
 refine⟨⟨_,rfl,fun c' _=> .s _ ?_⟩,rfl,rfl,rfl,?_,fun k hk=>?_⟩
 ·grind [Lib.itoa_length_le,Nat,lim]
 ·simp
 ·show(_++os)[k]? =_
  simp_all [Array.getElem?_append,if_pos]
theorem No(b:Bool)(h:Heap):ai prog 129 [.b b] h fun r h' =>r= .s (Lib.formatBool b)∧h' =h:=by
 refine .lib ⟨_,func129,afJ,rfl⟩ fun c vs hs g h1 h2=>?_
 obtain⟨v,rfl⟩:∃v,vs= #[v]:=Array.size_eq_one_iff.1 h1;have e:v= .bool b:=(h2 0 afB).bV;subst e;refine(Tryz.strconv_FormatBool b c.w).mono ?_
 rintro e w' ⟨rfl,rfl⟩
 exact⟨⟨_,rfl,fun c' _=> .s _ (by cases b<;>decide)⟩,.refl _ _⟩
def Quoted:Prop:=∀(s:Txt) (h:Heap),s.length≤64→ai prog 130 [.s s] h fun r h' =>r= .s (oV s)∧h' =h
def AH(v:bu):Txt:=if bz v then Bf.kX v else []
theorem Po(Q:Quoted)(v:bu)(hi:inV v)(h:Heap)(ht:AQ h):ai prog 70 [aT v] h fun r h' =>r= .s (AH v)∧h' =h:=by
 refine aw func70 33 [.tmp 2] ?_
 simp only[go_sem,aT];intro id hid;have ht2:AQ (upd h id (some (.obj [.i v.kind,.i v.n,.s v.s] 48))):=ht.sub (.aj hid);simp only[go_sem];refine(gr v _).pthen ?_;cases d1:bz v
 ·simp only[go_sem,d1]
  exact .mk _ (.refl _) (.aj hid) ⟨by grind [AH,ax],rfl⟩
 have hl:lim=9223372036854775808:=rfl;have hil:=Lib.itoa_length_le v.n hi.1 hi.2;cases k1:(v.kind==1)
 case true=>have e1:v.kind=1:=afv;simp only[go_sem,d1,k1];refine(No _ _).pthen ?_;exact akG
 have e1:v.kind≠1:=afv;cases k4:(v.kind==4)
 case true=>have e4:v.kind=4:=afv;simp only[go_sem,d1,k1,k4];refine(ou _ _ hi ht2).pthen ?_;have c1:0+1+(Lib.itoa v.n).length<lim:=afu;simp only[go_sem,c1];exact .mk _ (.refl _) (.aj hid) ⟨aiD,rfl⟩
 have e4:v.kind≠4:=afv;cases k5:(v.kind==5)
 case true=>
  have e5:v.kind=5:=afv;have hn:v.s.length≤16:=by grind [bz,BX]
  have c1:0+1+v.s.length<lim:=afu;simp only[go_sem,d1,k1,k4,k5,c1];exact .mk _ (.refl _) (.aj hid) ⟨aiD,rfl⟩
 have e5:v.kind≠5:=afv;cases k3:(v.kind==3)
 case true=>
  have e3:v.kind=3:=afv;have hn:v.s.length≤64:=by grind [bz]
  simp only[go_sem,d1,k1,k4,k5,k3];refine(Q _ _ hn).pthen ?_;exact akG
 have e3:v.kind≠3:=afv;simp only[go_sem,d1,k1,k4,k5,k3];refine(ou _ _ hi ht2).pthen ?_;exact akG
end Go.Proofs.YtelkmnkejghkeaaGreatDoor
namespace Go.Proofs
open Go.Shelf
def Tryz.xo:Go.Shelf.Ren:=⟨fun|166=>178|167=>177|169=>179|240=>228|276=>265|n=>n,fun|31=>22|72=>269|76=>160|70=>267|37=>76|75=>159|127=>317|164=>352|80=>233|n=>n,fun|n=>n⟩
theorem Tryz.QI:Go.Proofs.Lays.n167 Tryz.prog Tryz.xo:={
 mixed:=afx
 f167:=Tryz.func177.trans (congrArg some afx)
 f240:=Tryz.func228.trans (congrArg some afx)
 f276:=Tryz.func265.trans (congrArg some afx)
 t0:=Tryz.underlying0
 a0:=Tryz.isAgg0
 z0:=Tryz.sizeOf0
 v0:=Tryz.zeroValue0
 t4:=Tryz.underlying4
 a4:=Tryz.isAgg4
 z4:=Tryz.sizeOf4
 v4:=Tryz.zeroValue4
 t5:=Tryz.underlying5
 a5:=Tryz.isAgg5
 z5:=Tryz.sizeOf5
 v5:=Tryz.zeroValue5
 t9:=Tryz.underlying9
 a9:=Tryz.isAgg9
 z9:=Tryz.sizeOf9
 v9:=Tryz.zeroValue9
 t20:=Tryz.underlying20
 a20:=Tryz.isAgg20
 z20:=Tryz.sizeOf20
 v20:=Tryz.zeroValue20
 t37:=Tryz.underlying76
 a37:=Tryz.isAgg76
 z37:=Tryz.sizeOf76
 v37:=Tryz.zeroValue76
 t70:=Tryz.underlying267
 a70:=Tryz.isAgg267
 z70:=Tryz.sizeOf267
 v70:=Tryz.zeroValue267
 t72:=Tryz.underlying269
 a72:=Tryz.isAgg269
 z72:=Tryz.sizeOf269
 v72:=Tryz.zeroValue269
 t75:=Tryz.underlying159
 a75:=Tryz.isAgg159
 z75:=Tryz.sizeOf159
 v75:=Tryz.zeroValue159
 t164:=Tryz.underlying352
 a164:=Tryz.isAgg352
 z164:=Tryz.sizeOf352
 v164:=Tryz.zeroValue352
}
def Tryz.xm:Go.Shelf.Ren:=⟨fun|166=>178|167=>177|169=>179|240=>228|276=>265|n=>n,fun|31=>22|72=>269|76=>160|70=>267|37=>76|75=>159|127=>317|164=>352|80=>233|n=>n,fun|n=>n⟩
theorem Tryz.QH:Go.Proofs.Lays.n166 Tryz.prog Tryz.xm:={
 mixed:=afx
 f166:=Tryz.func178.trans (congrArg some afx)
 f240:=Tryz.func228.trans (congrArg some afx)
 f276:=Tryz.func265.trans (congrArg some afx)
 t0:=Tryz.underlying0
 a0:=Tryz.isAgg0
 z0:=Tryz.sizeOf0
 v0:=Tryz.zeroValue0
 t3:=Tryz.underlying3
 a3:=Tryz.isAgg3
 z3:=Tryz.sizeOf3
 v3:=Tryz.zeroValue3
 t4:=Tryz.underlying4
 a4:=Tryz.isAgg4
 z4:=Tryz.sizeOf4
 v4:=Tryz.zeroValue4
 t9:=Tryz.underlying9
 a9:=Tryz.isAgg9
 z9:=Tryz.sizeOf9
 v9:=Tryz.zeroValue9
 t20:=Tryz.underlying20
 a20:=Tryz.isAgg20
 z20:=Tryz.sizeOf20
 v20:=Tryz.zeroValue20
 t37:=Tryz.underlying76
 a37:=Tryz.isAgg76
 z37:=Tryz.sizeOf76
 v37:=Tryz.zeroValue76
 t70:=Tryz.underlying267
 a70:=Tryz.isAgg267
 z70:=Tryz.sizeOf267
 v70:=Tryz.zeroValue267
 t72:=Tryz.underlying269
 a72:=Tryz.isAgg269
 z72:=Tryz.sizeOf269
 v72:=Tryz.zeroValue269
 t75:=Tryz.underlying159
 a75:=Tryz.isAgg159
 z75:=Tryz.sizeOf159
 v75:=Tryz.zeroValue159
 t164:=Tryz.underlying352
 a164:=Tryz.isAgg352
 z164:=Tryz.sizeOf352
 v164:=Tryz.zeroValue352
}
def Tryz.xp:Go.Shelf.Ren:=⟨fun|166=>178|167=>177|169=>179|240=>228|276=>265|n=>n,fun|31=>22|72=>269|76=>160|70=>267|37=>76|75=>159|127=>317|164=>352|80=>233|n=>n,fun|n=>n⟩
theorem Tryz.QJ:Go.Proofs.Lays.n169 Tryz.prog Tryz.xp:={
 mixed:=afx
 f169:=Tryz.func179.trans (congrArg some afx)
 t0:=Tryz.underlying0
 a0:=Tryz.isAgg0
 z0:=Tryz.sizeOf0
 v0:=Tryz.zeroValue0
 t3:=Tryz.underlying3
 a3:=Tryz.isAgg3
 z3:=Tryz.sizeOf3
 v3:=Tryz.zeroValue3
 t9:=Tryz.underlying9
 a9:=Tryz.isAgg9
 z9:=Tryz.sizeOf9
 v9:=Tryz.zeroValue9
 t37:=Tryz.underlying76
 a37:=Tryz.isAgg76
 z37:=Tryz.sizeOf76
 v37:=Tryz.zeroValue76
 t70:=Tryz.underlying267
 a70:=Tryz.isAgg267
 z70:=Tryz.sizeOf267
 v70:=Tryz.zeroValue267
 t72:=Tryz.underlying269
 a72:=Tryz.isAgg269
 z72:=Tryz.sizeOf269
 v72:=Tryz.zeroValue269
 t127:=Tryz.underlying317
 a127:=Tryz.isAgg317
 z127:=Tryz.sizeOf317
 v127:=Tryz.zeroValue317
}
theorem Tryz.tU:Builder.Extra Tryz.prog Tryz.xo where
 sizeBuilder:=afx
 liesBuilder:=afx
 t5:=Tryz.underlying5
 a5:=Tryz.isAgg5
 z5:=Tryz.sizeOf5
 v5:=Tryz.zeroValue5
 infoByte:=afx
 cellsByte:=afx
 sizeByte:=afx
 neB5:=afy
theorem Tryz.tT:Builder.Extra Tryz.prog Tryz.xm where
 sizeBuilder:=afx
 liesBuilder:=afx
 t5:=Tryz.underlying5
 a5:=Tryz.isAgg5
 z5:=Tryz.sizeOf5
 v5:=Tryz.zeroValue5
 infoByte:=afx
 cellsByte:=afx
 sizeByte:=afx
 neB5:=afy
theorem Tryz.tV:Builder.Extra Tryz.prog Tryz.xp where
 sizeBuilder:=afx
 liesBuilder:=afx
 t5:=Tryz.underlying5
 a5:=Tryz.isAgg5
 z5:=Tryz.sizeOf5
 v5:=Tryz.zeroValue5
 infoByte:=afx
 cellsByte:=afx
 sizeByte:=afx
 neB5:=afy
theorem Tryz.Builder_WriteByte_k(B b:Nat)(bs:List Value)(c:Int)(w:World)(h:Lib.IsBuilderF 269 5 B b bs w)(hlen:bs.length+1≤140737488355328)(hBw:B≤w.heap.size):
  Calls Tryz.prog 177 #[.pointer (some ⟨b,0,none⟩),.int .u8 c] w fun e w' =>e= .returned .nilIface∧(Lib.BuilderAtF 269 5 B b (.pointer (some ⟨b,0,none⟩)) (bs++ [.int .u8 c]) w'∧RowKit.Below B w w'∧Lib.OthersKept 5 (some b) w w'):=Any.Builder_WriteByte_k Tryz.QI Tryz.tU B b bs c w h hlen hBw
theorem Tryz.Builder_WriteString_k(B b:Nat)(bs:List Value)(s:ByteArray)(w:World)(h:Lib.IsBuilderF 269 5 B b bs w)(hlen:bs.length+s.size≤140737488355328)(hBw:B≤w.heap.size):
  Calls Tryz.prog 178 #[.pointer (some ⟨b,0,none⟩),.string s] w fun e w' =>e= .returned (.tuple #[.int .i64 s.size,.nilIface])∧(Lib.BuilderAtF 269 5 B b (.pointer (some ⟨b,0,none⟩)) (bs++Lib.strCells s) w'∧RowKit.Below B w w'∧Lib.OthersKept 5 (some b) w w'):=Any.Builder_WriteString_k Tryz.QH Tryz.tT B b bs s w h hlen hBw
theorem Tryz.Builder_String_k(B b:Nat)(l:List UInt8)(w:World)(h:Lib.IsBuilderF 269 5 B b (Lib.byteCells l) w)(h0:l≠ []):
  Calls Tryz.prog 179 #[.pointer (some ⟨b,0,none⟩)] w fun e w' =>e= .returned (.string ⟨l.toArray⟩)∧(Lib.IsBuilderF 269 5 B b (Lib.byteCells l) w'∧RowKit.Below B w w'∧Lib.OthersKept 5 (some b) w w'):=Any.Builder_String_k Tryz.QJ Tryz.tV B b l w h h0
end Go.Proofs
