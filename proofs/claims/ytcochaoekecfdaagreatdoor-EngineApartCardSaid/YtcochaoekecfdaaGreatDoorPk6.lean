/- The law EngineApart: pack 6 of its texts. -/
import Derived.Test.YtcochaoekecfdaaGreatDoorPk1
import Derived.Test.YtcochaoekecfdaaGreatDoorPk2
import Derived.Test.YtcochaoekecfdaaGreatDoorPk3
import Derived.Test.YtcochaoekecfdaaGreatDoorPk4
import Derived.Test.YtcochaoekecfdaaGreatDoorPk5
set_option linter.unusedSimpArgs false
set_option linter.unusedVariables false
set_option maxRecDepth 100000
namespace Go.Proofs.YtcochaoekecfdaaGreatDoor
open Go Go.Ab Go.Bf
theorem AD(l:List jr):Sized 2 (l.map rsA):=br (f:=rsA) (fun _=>rfl) l
theorem EX{id:Txt}{set:Bool}{alg:Int}(ha:1≤alg∧alg≤6){tgt:fU}{rules:List cM}{kids:List bI}{obls:List cC}(ho:obls.length≤1000000)(t:Nat)(ht:t=1∨t=2)(parts:List jr)(hp:∀x∈parts,M6 x.1)(hn:parts.length≤32){B:Nat}(hB:B≤10000000)(hpb:∀x∈parts,x.2.length≤B)(q:Perm)(h:Heap):
  ai Tryz.prog 212 [aL (.mk id set alg tgt rules kids obls),.i t,.sl (parts.map rsA) q] h fun r h' =>r=rsA (o7 alg obls t parts)∧h' =h:=by
 have hm6:∀m∈parts.map (·.1),M6 m:=fun m hm=>by
  obtain⟨x,hx,rfl⟩:=List.mem_map.1 hm;exact hp x hx
 have hc6:M6 (gI alg (parts.map (·.1))):=FY hm6
 have uR:=TU;have uO:=TT;have uM:=TS;have hall:=fun(p:Perm) (G:Heap)=>Pg alg ha (parts.map (·.1)) (by rw[aa7];omega) hm6 p G
 simp only[jz]at hall;refine abg Tryz.func212 84 [.cell 6 119] fun hwf=>?_
 simp only[go_sem,aL];intro i3 h3;simp only[go_sem];intro i6 h6;have n63:=aH h6;have n6' :=aB h6;obtain⟨H0,eH⟩:∃H0,upd (upd h i3 (some (.obj [.s id,.b set,.i alg,aU tgt,.sl (rules.map aC) .no,.sl (fu kids) .no,aA obls] 65))) i6 (some (.obj [.v (.complex .f64 0 0),.sl [] .full] 119))=H0:=⟨_,rfl⟩;have hH0:Ab.Sub h H0:=aef;have g3:H0 i3=some (.obj [.s id,.b set,.i alg,aU tgt,.sl (rules.map aC) .no,.sl (fu kids) .no,aA obls] 65):=by rw[←eH,ag _ _ n63.symm,ah]
 have g6:H0 i6=some (.obj [.v (.complex .f64 0 0),.sl [] .full] 119):=acJ;simp only[go_sem,aa7];rw[eH];clear eH;refine .intro (fun m ρ H=>∃(i:Nat) (y:AV),Acc U 34 H0 H y (((parts.map (·.1)).take i).map aQ)∧i≤parts.length∧m=parts.length - i∧lk ρ 1=some (.i t)∧lk ρ 2=some (.sl (parts.map rsA) q)∧lk ρ 3=some (.ptr i3 0)∧lk ρ 6=some (.ptr i6 0)∧lk ρ 7=some y∧lk ρ 15=some (.sl (parts.map rsA) q)∧lk ρ 16=some (.i parts.length)∧lk ρ 17=some (.i i)) parts.length ?_ ?_
 ·refine⟨0,.sl [] .full,.full (.refl _),abh,rfl,?_,?_,?_,?_,?_,?_,?_,?_⟩<;>simp only[go_sem]
 ·rintro m ρ H ⟨i,y,hy,hi,rfl,r1,r2,r3,r6,r7,r15,r16,r17⟩
  obtain⟨qy,eqy⟩:=hy.row;subst eqy;simp only[go_sem,r16,r17];refine .intro (fun e=>?_) (fun e=>?_)
  ·have hlt:i<parts.length:=abe e
   have w1:=abd i abh;have hsn:((parts.map (·.1)).take (i+1)).map aQ=((parts.map (·.1)).take i).map aQ++ [aQ parts[i].1]:=by
    rw[List.take_succ_eq_append_getElem abH,List.map_append,aa8];rfl
   have ix:=fun k=>fD.eq (xs:=parts.map rsA) (sz:=2) i abH aby k
   rw[aa8]at ix;obtain⟨x,ex⟩:∃x,parts[i]=x:=⟨_,rfl⟩;rw[ex]at ix hsn;simp only[rsA,aQ,aA]at ix;simp only[go_sem,r15,r17,ix];intro i9 h9;simp only[go_sem,r7];refine(hy.sub (.ak h9)).app (zs:=[aQ x.1]) (by rw[uM];decide) abm (fun k hk=>hk) (by rw[uM];exact br (f:=aQ) (fun _=>rfl) _) (by rw[uM];intro z hz;rw[List.mem_singleton.1 hz];rfl) abA fun y' H' hy' kp=>?_
   simp only[go_sem,r17,w1];refine⟨_,?_,i+1,y',by rw[hsn];exact hy',abh,rfl,?_,?_,?_,?_,?_,?_,?_,?_⟩
   ·omega
   all_goals simp only[go_sem,r1,r2,r3,r6,r15,r16]
  ·have hge:i=parts.length:=by have:=aba e;omega
   subst hge;have htl:(parts.map (·.1)).take parts.length=parts.map (·.1):=List.take_of_length_le abp
   rw[htl]at hy;have k3:=hy.1 _ _ g3;have k6:=hy.1 _ _ g6;have hsH:=hH0.trans hy.1;have hjp:o7 alg obls t parts=if t=0 then(naM,[])else if t=1 then(gA (gI alg (parts.map (·.1))),[])else if gI alg (parts.map (·.1))≠bf∧gI alg (parts.map (·.1))≠cD then(gI alg (parts.map (·.1)),[])
     else(gI alg (parts.map (·.1)),eD alg (gI alg (parts.map (·.1))) parts++ew obls (gI alg (parts.map (·.1)))):=rfl
   have hple:(eD alg (gI alg (parts.map (·.1))) parts).length≤32*B+B:=tu hpb hn
   have hal:=fun G=>hall qy G
   obtain⟨m,em⟩:∃m,gI alg (parts.map (·.1))=m:=⟨_,rfl⟩
   rw[em]at hc6 hjp hal hple;have hin:=fun G=>xP m hc6.m9 G
   have npe:=(nb hc6.m9).npe;have nde:=(nb hc6.m9).nde;simp only[aQ]at hal hin;rw[htl]at r7;simp only[go_sem,r3,r7,k3];refine(hal _).pthen ?_;rcases ht with rfl|rfl
   ·simp only[go_sem,r1]
    refine(hin _).pthen ?_;simp only[go_sem,r6,k6];exact .mk (rsA (gA m,[])) (qB [] (gA m) rfl _) (hsH.put n6' _) ⟨by rw[hjp];rfl,rfl⟩
   have k6H:=k6;cases dp:(m==bf)
   case true=>
    have e1:m=bf:=by simpa using dp
    have hne:¬(m≠bf∧m≠cD):=fun hh=>hh.1 e1
    have hdu:=fun G=>qO obls ho m (.inl e1) G
    simp only[aA,aQ]at hdu;simp only[go_sem,r1,npe,dp];exact afn
   case false=>
    cases dd:(m==cD)
    case true=>
     have e1:m=cD:=by simpa using dd
     have hne:¬(m≠bf∧m≠cD):=fun hh=>hh.2 e1
     have hdu:=fun G=>qO obls ho m (.inr e1) G
     simp only[aA,aQ]at hdu;simp only[go_sem,r1,npe,nde,dp,dd];exact afn
    case false=>
     have e1:m≠bf:=by simpa using dp
     have e2:m≠cD:=by simpa using dd
     simp only[go_sem,r1,r6,npe,nde,dp,dd,k6];exact .mk (rsA (m,[])) (qB [] m rfl _) (hsH.put n6' _) ⟨by rw[hjp,if_neg abk,if_neg abk,if_pos ⟨e1,e2⟩],rfl⟩
theorem zT:∀(n d:Nat),d+n=5→∀(p:bI),mc d p→∀(gs:List bk),qY gs→∀(h:Heap),ai Tryz.prog 172 [aL p,bH gs] h fun r h' =>r=rsA (fq gs p)∧h' =h
 |0,d,hd,.mk id set alg tgt rules kids obls,hE,gs,hf,h=>by
  simp only[mc]at hE;omega
 |n+1,d,hd,.mk id set alg tgt rules kids obls,hE,gs,hf,h=>by
  have ih:=zT n (d+1) abh;simp only[mc,qk]at hE;obtain⟨_,_,ha1,ha2,_,_,hT,hO,hR,hK,hRE,hKE⟩:=hE;have hob:=(jX hO).1;have hmt:=fun G=>KL tgt (BN hT) gs hf G
  have hev:fq gs (.mk id set alg tgt rules kids obls)=if mb gs tgt=0 then(naM,[])else o7 alg obls (mb gs tgt) (rules.map (gQ gs)++kids.map (fq gs)):=by simp only[fq,sH]
  have hjo:=fun(ht:mb gs tgt=1∨mb gs tgt=2) (q:Perm) (G:Heap)=>EX (id:=id) (set:=set) (alg:=alg) ⟨ha1,ha2⟩ (tgt:=tgt) (rules:=rules) (kids:=kids) (obls:=obls) abh (mb gs tgt) ht (rules.map (gQ gs)++kids.map (fq gs)) (fun x hx=>by
   rcases List.mem_append.1 hx with hx|hx
   ·obtain⟨r,_,rfl⟩:=List.mem_map.1 hx;exact zW _ _ _
   ·obtain⟨r,_,rfl⟩:=List.mem_map.1 hx;exact Bj gs r) abV (B:=10000000) (Nat.le_refl _) (fun x hx=>by
   rcases List.mem_append.1 hx with hx|hx
   ·obtain⟨r,hr,rfl⟩:=List.mem_map.1 hx
    have h1:=zV r (mb gs r.tgt) (pT gs r.cond);have h2:=(jX (hRE r hr).2.2.2).1
    show(mH r (mb gs r.tgt) (pT gs r.cond)).2.length≤_
    omega
   ·obtain⟨r,hr,rfl⟩:=List.mem_map.1 hx
    have h1:=Bi gs n (d+1) r abh (hKE r hr);have h2:oB n≤oB 4:=by
     have:n≤4:=abh;rcases(show n=0∨n=1∨n=2∨n=3∨n=4 by omega)with rfl|rfl|rfl|rfl|rfl<;>decide
    exact Nat.le_trans h1 (Nat.le_trans h2 abk)) q G
  have hrl:=fun(r:cM) (hr:DD r) (G:Heap)=>HF r hr gs hf G
  have hml:=KK gs tgt;obtain⟨t,et⟩:∃t,mb gs tgt=t:=⟨_,rfl⟩;rw[et]at hmt hjo hev hml;simp only[aL,bH,aW,aU,aA]at hmt hjo hrl;have uR:=TU;refine abg Tryz.func172 50 [.cell 4 119] fun hwf=>?_
  simp only[go_sem,aL,bH,aW,aU,aA];intro i2 h2;simp only[go_sem];intro i4 h4;have n42:=aH h4;have n4' :=aB h4;obtain⟨H0,eH⟩:∃H0,upd (upd h i2 (some (.obj [.s id,.b set,.i alg,.sl (tgt.map cO) .no,.sl (rules.map aC) .no,.sl (kids.map aL) .no,.sl (obls.map bn) .no] 65))) i4 (some (.obj [.v (.complex .f64 0 0),.sl [] .full] 119))=H0:=⟨_,rfl⟩;have hH0:Ab.Sub h H0:=aee;have g2:H0 i2=some (.obj [.s id,.b set,.i alg,.sl (tgt.map cO) .no,.sl (rules.map aC) .no,.sl (kids.map aL) .no,.sl (obls.map bn) .no] 65):=aeW;have g4:H0 i4=some (.obj [.v (.complex .f64 0 0),.sl [] .full] 119):=acJ;simp only[go_sem,aj,n42.symm];rw[eH];clear eH;refine(hmt _).pthen ?_;cases dt:((t:Int)==0)
  case true=>
   have e0:t=0:=by have:(t:Int)=0:=(by simpa using dt);omega
   simp only[go_sem,dt,g4];exact .mk (rsA (naM,[])) (qB [] naM rfl _) (hH0.put n4' _) ⟨by rw[hev,if_pos e0],rfl⟩
  have ht0:t≠0:=by rintro rfl;simp at dt
  have ht12:t=1∨t=2:=abh;rw[if_neg ht0]at hev;simp only[go_sem,dt,g2,aa7];refine .intro (fun m ρ H=>∃(i:Nat) (y:AV),Acc U 119 H0 H y (((rules.map (gQ gs)).take i).map rsA)∧i≤rules.length∧m=rules.length - i∧lk ρ 1=some (.sl (gs.map kG) .no)∧lk ρ 2=some (.ptr i2 0)∧lk ρ 4=some (.ptr i4 0)∧lk ρ 5=some (.i t)∧lk ρ 6=some y∧lk ρ 19=some (.sl (rules.map aC) .no)∧lk ρ 20=some (.i rules.length)∧lk ρ 21=some (.i i)) rules.length ?_ ?_
  ·refine⟨0,.sl [] .full,.full (.refl _),abh,rfl,?_,?_,?_,?_,?_,?_,?_,?_⟩<;>simp only[go_sem]
  ·rintro m ρ H ⟨i,y,hy,hi,rfl,r1,r2,r4,r5,r6,r19,r20,r21⟩
   obtain⟨qy,eqy⟩:=hy.row;subst eqy;simp only[go_sem,r20,r21];refine .intro (fun e=>?_) (fun e=>?_)
   ·have hlt:i<rules.length:=abe e
    have w1:=abd i abh;have hsn:((rules.map (gQ gs)).take (i+1)).map rsA=((rules.map (gQ gs)).take i).map rsA++ [rsA (gQ gs rules[i])]:=by
     rw[List.take_succ_eq_append_getElem abH,List.map_append,aa8];rfl
    have ix:=fun k=>fD.eq (xs:=rules.map aC) (sz:=5) i abH aby k
    rw[aa8]at ix;have hre:=hRE _ (abc hlt);obtain⟨x,ex⟩:∃x,rules[i]=x:=⟨_,rfl⟩;rw[ex]at ix hsn hre;have hr1:=hrl x hre;simp only[aC,aU,aA]at ix hr1;simp only[go_sem,r19,r21,ix];intro i8 h8;simp only[go_sem,r1,r6];refine(hr1 _).pthen ?_;simp only[go_sem,rsA,aQ,aA];refine(hy.sub (.ak h8)).app (zs:=[rsA (gQ gs x)]) (by rw[uR];decide) abm (fun k hk=>hk) (by rw[uR];exact AD _) adP abA fun y' H' hy' kp=>?_
    simp only[go_sem,r21,w1];refine⟨_,?_,i+1,y',by rw[hsn];exact hy',abh,rfl,?_,?_,?_,?_,?_,?_,?_,?_⟩
    ·omega
    all_goals simp only[go_sem,r1,r2,r4,r5,r19,r20]
   ·have hge:i=rules.length:=by have:=aba e;omega
    subst hge;have htl:(rules.map (gQ gs)).take rules.length=rules.map (gQ gs):=List.take_of_length_le abp;rw[htl]at hy r6;have k2:=hy.1 _ _ g2;simp only[go_sem,r2,k2,aa7];refine .intro (fun m ρ H=>∃(i:Nat) (y:AV),Acc U 119 H0 H y ((rules.map (gQ gs)++(kids.map (fq gs)).take i).map rsA)∧i≤kids.length∧m=kids.length - i∧lk ρ 1=some (.sl (gs.map kG) .no)∧lk ρ 2=some (.ptr i2 0)∧lk ρ 4=some (.ptr i4 0)∧lk ρ 5=some (.i t)∧lk ρ 6=some y∧lk ρ 33=some (.sl (kids.map aL) .no)∧lk ρ 34=some (.i kids.length)∧lk ρ 35=some (.i i)) kids.length ?_ ?_
    ·refine⟨0,_,by rw[List.take_zero,List.append_nil];exact hy,abh,rfl,?_,?_,?_,?_,?_,?_,?_,?_⟩<;>simp only[go_sem,r1,r2,r4,r5,r6]
    ·rintro m ρ2 H2 ⟨i,y,hy,hi,rfl,s1,s2,s4,s5,s6,s33,s34,s35⟩
     obtain⟨qy,eqy⟩:=hy.row;subst eqy;simp only[go_sem,s34,s35];refine .intro (fun e=>?_) (fun e=>?_)
     ·have hlt:i<kids.length:=abe e
      have w1:=abd i abh;have hsn:(rules.map (gQ gs)++(kids.map (fq gs)).take (i+1)).map rsA=(rules.map (gQ gs)++(kids.map (fq gs)).take i).map rsA++ [rsA (fq gs kids[i])]:=by
       rw[List.take_succ_eq_append_getElem abH,←List.append_assoc,List.map_append,aa8];rfl
      have ix:=fun k=>fD.eq (xs:=kids.map aL) (sz:=7) i abH (by rw[aa8,iX]) k
      rw[aa8]at ix;have hke:=hKE _ (abc hlt);obtain⟨x,ex⟩:∃x,kids[i]=x:=⟨_,rfl⟩;rw[ex]at ix hsn hke;have hr1:=ih x hke gs hf;obtain⟨kid,kset,kalg,ktgt,krules,kkids,kobls⟩:=x;simp only[aL,aU,aA,bH,aW]at ix hr1;simp only[go_sem,s33,s35,ix];intro i10 h10;simp only[go_sem,s1,s6];refine(hr1 _).pthen ?_;simp only[go_sem,rsA,aQ,aA];refine(hy.sub (.ak h10)).app (zs:=[rsA (fq gs (.mk kid kset kalg ktgt krules kkids kobls))]) (by rw[uR];decide) abm (fun k hk=>hk) (by rw[uR];exact AD _) adP (by simp only[go_sem,aa7,List.length_take,List.length_cons,List.length_nil,abb];omega) fun y' H' hy' kp=>?_
      simp only[go_sem,s35,w1];refine⟨_,?_,i+1,y',by rw[hsn];exact hy',abh,rfl,?_,?_,?_,?_,?_,?_,?_,?_⟩
      ·omega
      all_goals simp only[go_sem,s1,s2,s4,s5,s33,s34]
     ·have hge:i=kids.length:=by have:=aba e;omega
      subst hge;have htl:(kids.map (fq gs)).take kids.length=kids.map (fq gs):=List.take_of_length_le abp;rw[htl]at hy s6;have k2:=hy.1 _ _ g2;have k4:=hy.1 _ _ g4;have hj:=fun G=>hjo ht12 qy G
      rw[←hev]at hj;obtain⟨z,ez⟩:∃z,fq gs (.mk id set alg tgt rules kids obls)=z:=⟨_,rfl⟩;rw[ez]at hj;simp only[go_sem,s2,s5,s6,k2];refine(hj _).pthen ?_;simp only[go_sem,s4,rsA,aQ,aA,k4];exact .mk (rsA z) (.refl _) ((hH0.trans hy.1).put n4' _) ⟨by rw[ez];rfl,rfl⟩
theorem Cs(p:bI)(hp:gh p=0)(gs:List bk)(hf:qY gs)(h:Heap):ai Tryz.prog 123 [aL p,bH gs] h fun r h' =>r= .tup [rsA (fq gs p),.i 0]∧h' =h:=by
 have hd:=fun G=>zT 4 1 rfl p (qC hp) gs hf G
 have hr:=fun G=>tI p G
 rw[hp]at hr;obtain⟨id,set,alg,tgt,rules,kids,obls⟩:=p;refine abg Tryz.func123 13 [.cell 4 119,.tmp 5] fun hwf=>?_
 simp only[go_sem,aL,bH,aU,aA];intro i2 h2;simp only[go_sem];intro i4 h4;have n42:=aH h4;have n4:=aB h4;have hs:∀x y,Ab.Sub h (upd (upd h i2 x) i4 y):=fun x y=>((Sub.refl h).put h2 x).put n4 y
 simp only[go_sem,aj,n42.symm];refine(hr _).pthen ?_;simp only[go_sem,aj,n42.symm];refine(hd _).pthen ?_;simp only[go_sem,rsA,aQ,aA];exact acR
end Go.Proofs.YtcochaoekecfdaaGreatDoor
namespace Go.Bf
open Go Go.Ab Go.Proofs.YtcochaoekecfdaaGreatDoor
def qs:OpD:=⟨1,St,cT,[],[],ax,0,[],[],false⟩
def rep(n:Nat)(t:Txt):Txt:=(List.replicate n t).flatten
def MLe(a b:dS):Prop:=(∀x∈a.met,x∈b.met)∧a.rules≤b.rules
theorem MLe.refl(a:dS):MLe a a:=⟨fun _ h=>h,Nat.le_refl _⟩
theorem MLe.trans{a b c:dS}(h1:MLe a b)(h2:MLe b c):MLe a c:=⟨fun x h=>h2.1 x (h1.1 x h),Nat.le_trans h1.2 h2.2⟩
theorem Gm{a b b' :dS}{s:Txt}(h:MLe a b)(hm:iQ b s=some b'):∃a',iQ a s=some a'∧MLe a' b' :=by
 unfold iQ at hm⊢;split at hm
 ·rename_i hc
  cases hm;refine⟨_,if_pos ⟨fun hx=>hc.1 (h.1 s hx),hc.2⟩,fun x hx=>?_,h.2⟩
  rcases List.mem_append.1 hx with hx|hx
  ·exact List.mem_append.2 (.inl (h.1 x hx))
  grind
 grind
theorem Gn{b b' :dS}{s:Txt}(hm:iQ b s=some b'):MLe b b' :=by
 unfold iQ at hm;split at hm
 ·cases hm;exact⟨fun x hx=>List.mem_append.2 (.inl hx),Nat.le_refl _⟩
 grind
theorem nK{e:Int}{w:Went}{m:dS}(h:need e w= .ok m):e=0∧w= .ok m:=by
 grind [need]
theorem NA{a b b' :dS}{r:cM}(h:MLe a b)(hr:fW b r= .ok b'):(∃a',fW a r= .ok a'∧MLe a' b')∧MLe b b' :=by
 unfold fW at hr⊢;cases hm:iQ b r.id with
 |none=>grind
 |some m=>
  rw[hm]at hr;obtain⟨a',ha,hl⟩:=Gm h hm;simp only at hr;split at hr
  ·grind
  ·obtain⟨e1,hr⟩:=nK hr
   obtain⟨e2,hr⟩:=nK hr;obtain⟨e3,hr⟩:=nK hr;cases hr;have hup:=Gn hm;refine⟨⟨⟨a'.met,a'.rules+1⟩,?_,hl.1,by have:=hl.2;simp only;omega⟩,hup.1,by have:=hup.2;simp only;omega⟩
   rw[ha];have:=hl.2;simp only[e1,e2,e3,need,if_true];rw[if_neg abh]
theorem DF:∀(l:List cM) {a b b' :dS},MLe a b→fl b l= .ok b'→(∃a',fl a l= .ok a'∧MLe a' b')∧MLe b b'
 | [],a,b,b',h,hr=>by
  cases hr;exact⟨⟨a,rfl,h⟩,.refl _⟩
 |r::l,a,b,b',h,hr=>by
  simp only[fl]at hr⊢;cases hw:fW b r with
  |bad e=>grind
  |ok m=>
   rw[hw]at hr;obtain⟨⟨a',ha,hl⟩,hu⟩:=NA h hw;obtain⟨⟨a'',ha',hl'⟩,hu'⟩:=DF l hl hr;exact⟨⟨a'',abi,hl'⟩,hu.trans hu'⟩
theorem MR{a b b' :dS}{id:Txt}{set:Bool}{alg:Int}{tgt:fU}{nr nk nk' :Nat}{obls:List cC}(h:MLe a b)(hk:nk'≤nk)(hr:eU b id set alg tgt nr nk obls= .ok b'):(∃a',eU a id set alg tgt nr nk' obls= .ok a'∧MLe a' b')∧MLe b b' :=by
 unfold eU at hr⊢;cases hm:iQ b id with
 |none=>rw[hm]at hr;cases hr
 |some m=>
  rw[hm]at hr;obtain⟨a',ha,hl⟩:=Gm h hm;simp only at hr;split at hr
  ·cases hr
  ·rename_i h1
   split at hr
   ·cases hr
   ·rename_i h2
    obtain⟨e1,hr⟩:=nK hr;obtain⟨e2,hr⟩:=nK hr;split at hr
    ·cases hr
    ·rename_i h3
     cases hr;refine⟨⟨a',?_,hl⟩,Gn hm⟩;rw[ha];have h2' :¬(set=true∧nr>0∨set=false∧(nk' >0∨alg=4)):=by
      rintro(⟨p,q⟩|⟨p,q|q⟩)
      ·exact h2 (.inl ⟨p,q⟩)
      ·exact h2 (.inr ⟨p,.inl abh⟩)
      ·exact h2 (.inr ⟨p,.inr q⟩)
     simp only[if_neg h1,if_neg h2',e1,e2,need,if_true];rw[if_neg abh]
theorem Dm(gs:List bk):∀l:List bI,(jO gs l).length≤l.length
 | []=>by simp[jO]
 |k::r=>by
  have:=Dm gs r;simp only[jO];split<;>simp<;>omega
mutual
theorem Dp(gs:List bk):∀(p:bI) (d:Nat) {a b b' :dS},MLe a b→jY b d p= .ok b'→(∃a',jY a d (kN gs p)= .ok a'∧MLe a' b')∧MLe b b'
 |.mk id set alg tgt rules kids obls,d,a,b,b',h,hr=>by
  simp only[jY,kN]at hr⊢;split at hr
  ·cases hr
  ·rename_i hd
   rw[if_neg hd];cases hh:eU b id set alg tgt rules.length kids.length obls with
   |bad e=>rw[hh]at hr;cases hr
   |ok m=>
    rw[hh]at hr;simp only at hr;obtain⟨⟨a1,ha1,hl1⟩,hu1⟩:=MR h (Dm gs kids) hh;cases hw:fl m rules with
    |bad e=>rw[hw]at hr;cases hr
    |ok m2=>
     rw[hw]at hr;simp only at hr;obtain⟨⟨a2,ha2,hl2⟩,hu2⟩:=DF rules hl1 hw;obtain⟨⟨a3,ha3,hl3⟩,hu3⟩:=uu gs kids (d+1) hl2 hr;refine⟨⟨a3,?_,hl3⟩,(hu1.trans hu2).trans hu3⟩;rw[ha1];simp only[ha2];exact ha3
theorem uu(gs:List bk):∀(l:List bI) (d:Nat) {a b b' :dS},MLe a b→iC b d l= .ok b'→(∃a',iC a d (jO gs l)= .ok a'∧MLe a' b')∧MLe b b'
 | [],d,a,b,b',h,hr=>by
  simp only[iC,jO]at hr⊢;cases hr;exact⟨⟨a,rfl,h⟩,.refl _⟩
 |k::r,d,a,b,b',h,hr=>by
  simp only[iC]at hr;cases hw:jY b d k with
  |bad e=>rw[hw]at hr;cases hr
  |ok m=>
   rw[hw]at hr;simp only at hr;obtain⟨⟨a1,ha1,hl1⟩,hu1⟩:=Dp gs k d h hw;simp only[jO];split
   ·obtain⟨⟨a2,ha2,hl2⟩,hu2⟩:=uu gs r d hl1 hr
    refine⟨⟨a2,?_,hl2⟩,hu1.trans hu2⟩;simp only[iC,ha1];exact ha2
   ·obtain⟨⟨a2,ha2,hl2⟩,hu2⟩:=uu gs r d (h.trans hu1) hr
    exact⟨⟨a2,ha2,hl2⟩,hu1.trans hu2⟩
end
theorem Fi(gs:List bk){p:bI}(h:gh p=0):gh (kN gs p)=0:=by
 unfold gh at*;cases hw:jY ⟨[],0⟩ 1 p with
 |bad e=>
  have:=tD 4 1 _ _ e rfl hw;rw[hw]at h;exact(this h).elim
 |ok m=>
  obtain⟨⟨a,ha,_⟩,_⟩:=Dp gs p 1 (.refl _) hw;rw[ha];rfl
def T4:bO:=⟨⟨0,[],false⟩,0,ax⟩
def MX(k:Option bO):AV:=match k with
 |some m=> .tup [dH m,.b true]
 |none=> .tup [dH T4,.b false]
theorem Kx{x:List (List bO)}{r:fU}(h:x.length≠1):nI (x::r)=nI r:=by
 match x,h with
 | [],_=>rfl
 | [l],h=>exact(h rfl).elim
 |a::b::c,_=>rfl
theorem Kw{l:List bO}{r:fU}(h:(l.find? fun m=>m.op==1 && !m.attr.must)=none):nI ([l]::r)=nI r:=by
 grind [nI]
theorem Ky{l:List bO}{r:fU}{m:bO}(h:(l.find? fun m=>m.op==1 && !m.attr.must)=some m):nI ([l]::r)=some m:=by
 grind [nI]
theorem Dl(gs:List bk):∀l:List bI,jO gs l=(l.filter (rT gs)).map (kN gs)
 | []=>abx
 |k::r=>by
  simp only[jO,List.filter_cons,Dl gs r]
  grind
def ixP(gs:List bk)(l:List bI)(n:Nat):List Nat:=(List.range n).filter fun j=>rT gs (l.getD j kZ)
theorem CU(gs:List bk)(l:List bI){n:Nat}(h:n<l.length):ixP gs l (n+1)=ixP gs l n++(if rT gs l[n]=true then [n]else []):=by
 grind [ixP,List.range_succ,List.getD,List.getElem?_eq_getElem]
theorem CV(gs:List bk)(l:List bI):∀n:Nat,n≤l.length→(ixP gs l n).map (fun j=>l.getD j kZ)=(l.take n).filter (rT gs)
 |0,_=>abx
 |n+1,h=>by
  have hlt:n<l.length:=abh;rw[CU gs l hlt,List.map_append,CV gs l n abh,List.take_succ_eq_append_getElem hlt,List.filter_append,List.filter_cons]
  congr 1
  grind
theorem P6{gs:List bk}{l:List bI}{n j:Nat}(h:j∈ixP gs l n):j<n:=List.mem_range.1 (List.mem_filter.1 h).1
theorem Gi(gs:List bk)(l:List bI)(n:Nat):(ixP gs l n).length≤n:=by
 grind [ixP,Nat.le_trans,List.length_filter_le]
theorem Ks(gs:List bk)(l:List bI):(ixP gs l l.length).map (fun j=>kN gs (l.getD j kZ))=jO gs l:=by
 rw[Dl,←List.take_length (l:=l),←CV gs l l.length (Nat.le_refl _),List.map_map,List.take_length];rfl
theorem nJ(m:bO):dH m= .agg [.i m.attr.cat,.s m.attr.name,.b m.attr.must,.i m.op,.i m.val.kind,.i m.val.n,.s m.val.s]:=rfl
end Go.Bf
namespace Go.Proofs.YtcochaoekecfdaaGreatDoor
open Go Go.Ab Go.Bf
theorem P7(t:fU)(ht:Me t)(h:Heap):ai Tryz.prog 213 [aU t] h fun r h' =>r=MX (nI t)∧h' =h:=by
 have htl:=ht.1;refine abg Tryz.func213 38 [.cell 2 273,.tmp 3] fun hwf=>?_
 simp only[go_sem,aU];intro i2 h2;simp only[go_sem,aa7];have hH0:∀x,Ab.Sub h (upd h i2 x):=fun x=> .ak h2
 refine .intro (fun m ρ H=>Ab.Sub h H∧H i2=some (.obj [.i 0,.s [],.b false,.i 0,.i 0,.i 0,.s []] 273)∧∃i:Nat,i≤t.length∧m=t.length - i∧nI (t.drop i)=nI t∧lk ρ 2=some (.ptr i2 0)∧lk ρ 8=some (.sl (t.map cO) .no)∧lk ρ 9=some (.i t.length)∧lk ρ 10=some (.i i)) t.length ?_ ?_
 ·refine⟨hH0 _,ah ..,0,abh,rfl,rfl,?_,?_,?_,?_⟩<;>simp only[go_sem]
 ·rintro m ρ H ⟨hs,k2,i,hi,rfl,hk,r2,r8,r9,r10⟩
  simp only[go_sem,r9,r10];refine .intro (fun e=>?_) (fun e=>?_)
  ·have hlt:i<t.length:=abe e
   have w1:IntKind.i64.wrap ((i:Int)+1)=((i+1:Nat):Int):=abv;rw[List.drop_eq_getElem_cons hlt]at hk;have hxl:=(ht.2 _ (abc hlt)).2;have ix:=fun k=>fD.eq (xs:=t.map cO) (sz:=1) i abi aby k
   rw[aa8]at ix;obtain⟨x,ex⟩:∃x,t[i]=x:=⟨_,rfl⟩;rw[ex]at ix hk hxl;simp only[cO]at ix;cases d1:((x.length:Int) !=1)
   case true=>
    have hx1:x.length≠1:=abi;rw[Kx hx1]at hk;simp only[go_sem,r8,r10,ix,aa7,d1,w1];refine⟨_,?_,hs,k2,i+1,abh,rfl,hk,?_,?_,?_,?_⟩
    ·omega
    all_goals simp only[go_sem,r2,r8,r9]
   have hx1:x.length=1:=abi;obtain⟨l,rfl⟩:=List.length_eq_one_iff.1 hx1;have hll:=hxl l (List.mem_singleton.2 rfl);have iy:=fun k=>fD.eq (xs:=[iF l]) (sz:=1) 0 abp rfl k
   simp only[List.getElem_cons_zero,iF,Int.natCast_zero]at iy;simp only[go_sem,r8,r10,ix,aa7,List.length_cons,List.length_nil,List.map_cons,List.map_nil,iF,iy];refine .intro (fun m ρ2 H2=>Ab.Sub h H2∧H2 i2=some (.obj [.i 0,.s [],.b false,.i 0,.i 0,.i 0,.s []] 273)∧∃j:Nat,j≤l.length∧m=l.length - j∧(∀k (h1:k<l.length),k<j→(l[k].op==1 && !l[k].attr.must)=false)∧lk ρ2 2=some (.ptr i2 0)∧lk ρ2 8=some (.sl (t.map cO) .no)∧lk ρ2 9=some (.i t.length)∧lk ρ2 10=some (.i i)∧lk ρ2 19=some (.sl (l.map dH) .no)∧lk ρ2 20=some (.i l.length)∧lk ρ2 21=some (.i j)) l.length ?_ ?_
   ·refine⟨hs,k2,0,abh,rfl,fun k _ hk=>abh,?_,?_,?_,?_,?_,?_,?_⟩<;>simp only[go_sem,r2,r8,r9,r10]
   ·rintro m ρ2 H2 ⟨hs2,k2,j,hj,rfl,hc,s2,s8,s9,s10,s19,s20,s21⟩
    simp only[go_sem,s20,s21];refine .intro (fun e=>?_) (fun e=>?_)
    ·have hlt2:j<l.length:=abe e
     have w2:IntKind.i64.wrap ((j:Int)+1)=((j+1:Nat):Int):=abv;have iz:=fun k=>fD.eq (xs:=l.map dH) (sz:=7) j abi aby k
     rw[aa8]at iz;have hci:=fun(d:(l[j].op==1 && !l[j].attr.must)=false)=>(fun k (h1:k<l.length) (hk:k<j+1)=>(by
      grind:(l[k].op==1 && !l[k].attr.must)=false))
     have hat:=fun(d:(l[j].op==1 && !l[j].attr.must)=true)=>(List.find?_eq_some_iff_getElem.2 ⟨d,j,hlt2,rfl,fun k hk=>abi⟩:(l.find? fun m=>m.op==1 && !m.attr.must)=some l[j])
     obtain⟨z,ez⟩:∃z,l[j]=z:=⟨_,rfl⟩;rw[ez]at iz hci hat;simp only[nJ]at iz;simp only[go_sem,s19,s21,iz];intro i7 h7;have n72:i7≠i2:=fun e=>abi
     cases a1:(z.op==1)
     ·exact afZ
     ·cases a2:z.attr.must
      ·have hkk:=hk.symm.trans (Ky (hat abi))
       simp only[go_sem,s2,a1,aj,n72.symm,k2];exact .mk _ (.refl _) ((hs2.trans (.ak h7)).put h2 _) ⟨by rw[hkk];simp only[MX,nJ,a2];rfl,rfl⟩
      ·exact afZ
    ·have hge:j=l.length:=by grind
     subst hge;rw[Kw (List.find?_eq_none.2 fun z hz=>by
      obtain⟨k,hk,rfl⟩:=List.mem_iff_getElem.1 hz
      grind)]at hk
     simp only[go_sem,s10,w1];refine⟨_,?_,hs2,k2,i+1,abh,rfl,hk,?_,?_,?_,?_⟩
     ·omega
     all_goals simp only[go_sem,s2,s8,s9]
  ·have hge:i=t.length:=by grind
   subst hge;rw[List.drop_length]at hk;simp only[go_sem,r2,k2];exact .mk _ (.refl _) (hs.put h2 _) ⟨by rw[←hk];rfl,rfl⟩
theorem Iv{gs:List bk}{p:bI}(h:nI (rX p)=none):rT gs p=true:=by grind [rT]
theorem Iw{gs:List bk}{p:bI}{m:bO}(h:nI (rX p)=some m):rT gs p=decide (jA gs m≠0):=by grind [rT]
def sZ(n:Nat):AV:=.i n
theorem La(l:List bI)(hl:l.length≤1000)(ht:∀p∈l,Me (rX p))(gs:List bk)(hf:qY gs)(h:Heap):ai Tryz.prog 173 [.sl (l.map aL) .no,bH gs] h fun r h' =>r= .sl ((ixP gs l l.length).map sZ) .no∧h' =h:=by
 have hmt:=fun(m:bO) (G:Heap)=>Am m gs hf G
 simp only[nJ,bH]at hmt;have uI:(U 3).sz=1:=abx;refine abg Tryz.func173 37 [.tmp 4] fun hwf=>?_
 simp only[go_sem,bH,aa7];refine .intro (fun m ρ H=>∃(i:Nat) (y:AV),Acc U 3 h H y ((ixP gs l i).map sZ)∧i≤l.length∧m=l.length - i∧lk ρ 1=some (.sl (gs.map kG) .no)∧lk ρ 5=some y∧lk ρ 10=some (.sl (l.map aL) .no)∧lk ρ 11=some (.i l.length)∧lk ρ 12=some (.i i)) l.length ?_ ?_
 ·refine⟨0,.sl [] .full,.full (.refl _),abh,rfl,?_,?_,?_,?_,?_⟩<;>simp only[go_sem]
 ·rintro m ρ H ⟨i,y,hy,hi,rfl,r1,r5,r10,r11,r12⟩
  obtain⟨qy,eqy⟩:=hy.row;subst eqy;simp only[go_sem,r11,r12];refine .intro (fun e=>?_) (fun e=>?_)
  ·have hlt:i<l.length:=abe e
   have w1:IntKind.i64.wrap ((i:Int)+1)=((i+1:Nat):Int):=abv;have hsn:=CU gs l hlt;have hpl:=Gi gs l i;have ix:=fun k=>fD.eq (xs:=l.map aL) (sz:=7) i abi (by rw[aa8,iX]) k
   rw[aa8]at ix;have hft:=ht _ (abc hlt);obtain⟨x,ex⟩:∃x,l[i]=x:=⟨_,rfl⟩;rw[ex]at ix hsn hft;have hky:=fun G=>P7 (rX x) hft G
   have mn:=fun h=>Iv (gs:=gs) (p:=x) h
   have ms:=fun m h=>Iw (gs:=gs) (p:=x) (m:=m) h
   obtain⟨kid,kset,kalg,ktgt,krules,kkids,kobls⟩:=x;simp only[rX]at hky hft mn ms;simp only[aL,aU,aA,aW]at ix;simp only[aU]at hky;simp only[go_sem,r10,r12,ix];intro i7 h7;simp only[go_sem];refine(hky _).pthen ?_;have hkeep:rT gs (.mk kid kset kalg ktgt krules kkids kobls)=true→ixP gs l (i+1)=ixP gs l i++ [i]:=fun e=>abi
   have hdrop:rT gs (.mk kid kset kalg ktgt krules kkids kobls)=false→ixP gs l (i+1)=ixP gs l i:=fun e=>abi
   cases hk:nI ktgt with
   |none=>
    simp only[go_sem,MX,nJ];intro i8 h8;simp only[go_sem,r5];exact afK
   |some m=>
    have hm2:=ms m hk;simp only[go_sem,MX,nJ];intro i8 h8;simp only[go_sem,r1];refine(hmt m _).pthen ?_;cases dm:((jA gs m:Int) !=0)
    ·have e0:jA gs m=0:=by grind
     simp only[go_sem,r12,dm,w1];refine⟨_,?_,i+1,_,by rw[hdrop abi];exact(hy.sub (.ak h7)).sub (.ak h8),abh,rfl,?_,?_,?_,?_,?_⟩
     ·omega
     all_goals simp only[go_sem,r1,r5,r10,r11]
    ·have e0:jA gs m≠0:=by grind
     simp only[go_sem,r5,dm];exact afK
  ·have hge:i=l.length:=by grind
   subst hge;simp only[go_sem,r5];exact .mk _ (.sl _ _) hy.1 ⟨rfl,rfl⟩
theorem Tw{id:Txt}{set:Bool}{alg:Int}{tgt:fU}{rules:List cM}{kids:List bI}{obls:List cC}{L:List AV}(hL:L=kids.map aL)(q:Perm):Weak (.agg [.s id,.b set,.i alg,.sl (tgt.map cO) .no,.sl (rules.map aC) .no,.sl L q,.sl (obls.map bn) .no]) (aL (.mk id set alg tgt rules kids obls)):=by
 subst hL;rw[aL,aW];refine .agg _ _ rfl fun i a b=>?_
 rcases i with _|_|_|_|_|_|_|i
 ·exact acC
 ·exact acC
 ·exact acC
 ·exact acC
 ·exact acC
 ·exact adV
 ·exact acC
 ·simp at a;omega
theorem As:∀(n d:Nat),d+n=5→∀(p:bI),mc d p→∀(gs:List bk),qY gs→∀(h:Heap),ai Tryz.prog 124 [aL p,bH gs] h fun r h' =>r=aL (kN gs p)∧h' =h
 |0,d,hd,.mk id set alg tgt rules kids obls,hE,gs,hf,h=>by
  simp only[mc]at hE;omega
 |n+1,d,hd,.mk id set alg tgt rules kids obls,hE,gs,hf,h=>by
  have ih:=As n (d+1) abh;simp only[mc,qk]at hE;obtain⟨_,_,_,_,_,_,hT,hO,hR,hK,hRE,hKE⟩:=hE;have hpk:=fun G=>La kids abh (fun p hp=>by
   have h1:=hKE p hp;obtain⟨kid,kset,kalg,ktgt,krules,kkids,kobls⟩:=p;simp only[mc]at h1;exact BN h1.2.2.2.2.2.2.1) gs hf G
  have hpe:kN gs (.mk id set alg tgt rules kids obls)= .mk id set alg tgt rules (jO gs kids) obls:=abx;have hfull:=Ks gs kids;have hIlt:∀j∈ixP gs kids kids.length,j<kids.length:=fun j hj=>P6 hj
  have hIl:(ixP gs kids kids.length).length≤16:=Nat.le_trans (Gi _ _ _) hK;obtain⟨I,eI⟩:∃I,ixP gs kids kids.length=I:=⟨_,rfl⟩;rw[eI]at hpk hfull hIlt hIl;simp only[bH]at hpk;have uP:(U 65).sz=7:=abx;refine abg Tryz.func124 31 [.cell 4 65] fun hwf=>?_
  simp only[go_sem,aL,bH,aW,aU,aA];intro i2 h2;simp only[go_sem];intro i4 h4;have n42:=aH h4;have n4' :=aB h4;obtain⟨H0,eH⟩:∃H0,upd (upd h i2 (some (.obj [.s id,.b set,.i alg,.sl (tgt.map cO) .no,.sl (rules.map aC) .no,.sl (kids.map aL) .no,.sl (obls.map bn) .no] 65))) i4 (some (.obj [.s [],.b false,.i 0,.sl [] .full,.sl [] .full,.sl [] .full,.sl [] .full] 65))=H0:=⟨_,rfl⟩;have hH0:Ab.Sub h H0:=aee;have g2:H0 i2=some (.obj [.s id,.b set,.i alg,.sl (tgt.map cO) .no,.sl (rules.map aC) .no,.sl (kids.map aL) .no,.sl (obls.map bn) .no] 65):=aeW;have g4:H0 i4=some (.obj [.s [],.b false,.i 0,.sl [] .full,.sl [] .full,.sl [] .full,.sl [] .full] 65):=acJ;simp only[go_sem,aj,n42.symm];rw[eH];clear eH;refine(hpk _).pthen ?_;simp only[go_sem,aa7];refine .intro (fun m ρ H=>∃(i:Nat) (y:AV),Acc U 65 H0 H y (((I.map fun j=>kN gs (kids.getD j kZ)).take i).map aL)∧i≤I.length∧m=I.length - i∧lk ρ 1=some (.sl (gs.map kG) .no)∧lk ρ 2=some (.ptr i2 0)∧lk ρ 4=some (.ptr i4 0)∧lk ρ 5=some y∧lk ρ 11=some (.sl (I.map sZ) .no)∧lk ρ 12=some (.i I.length)∧lk ρ 13=some (.i i)) I.length ?_ ?_
  ·refine⟨0,.sl [] .full,.full (.refl _),abh,rfl,?_,?_,?_,?_,?_,?_,?_⟩<;>simp only[go_sem]
  ·rintro m ρ H ⟨i,y,hy,hi,rfl,r1,r2,r4,r5,r11,r12,r13⟩
   obtain⟨qy,eqy⟩:=hy.row;subst eqy;have k2:=hy.1 _ _ g2;simp only[go_sem,r12,r13];refine .intro (fun e=>?_) (fun e=>?_)
   ·have hlt:i<I.length:=abe e
    have w1:IntKind.i64.wrap ((i:Int)+1)=((i+1:Nat):Int):=abv;have hjlt:=hIlt _ (abc hlt);have hsn:((I.map fun j=>kN gs (kids.getD j kZ)).take (i+1)).map aL=((I.map fun j=>kN gs (kids.getD j kZ)).take i).map aL++ [aL (kN gs (kids.getD I[i] kZ))]:=by
     grind [List.take_succ_eq_append_getElem]
    have ix:=fun k=>fD.eq (xs:=I.map sZ) (sz:=1) i abi aby k
    rw[aa8]at ix;obtain⟨j,ej⟩:∃j,I[i]=j:=⟨_,rfl⟩;rw[ej]at ix hsn hjlt;have iy:=fun k=>fD.eq (xs:=kids.map aL) (sz:=7) j abi (by rw[aa8,iX]) k
    rw[aa8]at iy;rw[show kids.getD j kZ=kids[j] by grind]at hsn
    have hke:=hKE _ (abc hjlt);obtain⟨x,ex⟩:∃x,kids[j]=x:=⟨_,rfl⟩;rw[ex]at iy hsn hke;have hr1:=ih x hke gs hf;obtain⟨z,ez⟩:∃z,kN gs x=z:=⟨_,rfl⟩;rw[ez]at hr1 hsn;obtain⟨kid,kset,kalg,ktgt,krules,kkids,kobls⟩:=x;obtain⟨zid,zset,zalg,ztgt,zrules,zkids,zobls⟩:=z;simp only[aL,aU,aA,aW,bH]at iy hr1;simp only[sZ]at ix;simp only[go_sem,r1,r2,r5,r11,r13,ix,k2,iy];refine(hr1 _).pthen ?_;simp only[go_sem];refine hy.app (zs:=[aL (.mk zid zset zalg ztgt zrules zkids zobls)]) abh abk (fun k hk=>show k _ from(by simpa only[aL,aU,aA,aW]using hk)) (by grind [br,aL,iX]) (by rw[uP];intro z hz;grind [List.mem_singleton,iX]) abA fun y' H' hy' kp=>?_
    simp only[go_sem,r13,w1];refine⟨_,?_,i+1,y',abi,abh,rfl,?_,?_,?_,?_,?_,?_,?_⟩
    ·omega
    all_goals simp only[go_sem,r1,r2,r4,r11,r12]
   ·have hge:i=I.length:=by grind
    subst hge;have htl:(I.map fun j=>kN gs (kids.getD j kZ)).take I.length=jO gs kids:=by grind [List.take_of_length_le]
    rw[htl]at r5 hy;have k4:=hy.1 _ _ g4;have n24:i2≠i4:=n42.symm;simp only[go_sem,r2,r4,r5,k2,aj,n42,k4];refine .mk (aL (.mk id set alg tgt rules (jO gs kids) obls)) (Tw rfl _) (((hH0.trans hy.1).put h2 _).put n4' _) ⟨abx,rfl⟩
theorem CT(p:bI)(hp:gh p=0)(gs:List bk)(hf:qY gs)(h:Heap):ai Tryz.prog 69 [aL p,bH gs] h fun r h' =>r= .tup [rsA (fq gs p),.i 0]∧h' =h:=by
 have hpk:=fun G=>As 4 1 rfl p (qC hp) gs hf G
 have hev:=fun G=>Cs (kN gs p) (Fi gs hp) gs hf G
 have hr:=fun G=>tI p G
 rw[hp]at hr;rw[Aq]at hev;obtain⟨id,set,alg,tgt,rules,kids,obls⟩:=p;refine abg Tryz.func69 17 [.cell 4 119,.tmp 5] fun hwf=>?_
 simp only[go_sem,aL,bH,aU,aA];intro i2 h2;simp only[go_sem];intro i4 h4;have n42:=aH h4;have n4:=aB h4;have hs:∀x y,Ab.Sub h (upd (upd h i2 x) i4 y):=fun x y=>((Sub.refl h).put h2 x).put n4 y
 simp only[go_sem,aj,n42.symm];refine(hr _).pthen ?_;simp only[go_sem,aj,n42.symm];refine(hpk _).pthen ?_;simp only[go_sem];refine(hev _).pthen ?_;simp only[go_sem,rsA,aQ,aA];exact acR
theorem Kt{α:Type}(y:AV)(xs:List AV)(ds:List α)(q:α→Bool)(g:FuncId)(cap:List AV)(h:Heap)(hb:Rd h 7 y xs)(hn:xs.length=ds.length)(hl:xs.length≤1000000000)(hx:∀x∈xs,bx x=true)
  (hp:∀i (h1:i<xs.length) (h2:i<ds.length),ai Tryz.prog g (xs[i]::cap) h fun r h' =>r= .b (q ds[i])∧h' =h):
  ai Tryz.prog 217 [y,.fn g cap] h fun r h' =>r= .i (ixD q ds)∧h' =h:=by
 refine abg Tryz.func217 19 [.tmp 4] fun hwf=>?_
 simp only[go_sem,hb.len];refine .intro (fun m ρ h' =>h' =h∧∃i:Nat,i≤xs.length∧m=xs.length - i∧(∀j (hj:j<i) (h2:j<ds.length),q ds[j]=false)∧lk ρ 0=some y∧lk ρ 1=some (.fn g cap)∧lk ρ 7=some (.i xs.length)∧lk ρ 8=some (.i i)) xs.length ?_ ?_
 ·refine⟨rfl,0,abh,rfl,fun j hj=>abh,?_,?_,?_,?_⟩<;>simp only[go_sem]
 ·rintro m ρ h' ⟨rfl,i,hi,rfl,hc,r0,r1,r7,r8⟩
  simp only[go_sem,r7,r8];refine .intro (fun e=>?_) (fun e=>?_)
  ·have hlt:i<xs.length:=abe e
   have hlt2:i<ds.length:=abh;have w1:IntKind.i64.wrap ((i:Int)+1)=((i+1:Nat):Int):=abv;simp only[go_sem,r0,r1,r8];refine hb.idx (e:=143) i rfl hlt abx abk fun p hp1=>?_
   have hld:=hp1.all (U:=U) (ty:=143) abk ab8 ac4;simp only[go_sem,hld];refine(show ai Tryz.prog g (xs[i]::cap) _ _ from hp i hlt hlt2).pthen ?_
   cases d1:q ds[i]
   ·simp only[go_sem,r8,w1]
    refine⟨_,?_,rfl,i+1,abh,rfl,fun j hj h2=>?_,?_,?_,?_,?_⟩
    ·omega
    ·grind
    all_goals simp only[go_sem,r0,r1,r7]
   ·simp only[go_sem]
    exact .same (.refl _) ⟨abW,rfl⟩
  ·have hge:i=xs.length:=by grind
   simp only[go_sem];exact .same (.refl _) ⟨abK,rfl⟩
theorem Kr{α:Type}(y:AV)(xs:List AV)(ds:List α)(q:α→Bool)(g:FuncId)(cap:List AV)(h:Heap)(hb:Rd h 3 y xs)(hn:xs.length=ds.length)(hl:xs.length≤1000000000)(hx:∀x∈xs,bx x=true)
  (hp:∀i (h1:i<xs.length) (h2:i<ds.length),ai Tryz.prog g (xs[i]::cap) h fun r h' =>r= .b (q ds[i])∧h' =h):
  ai Tryz.prog 183 [y,.fn g cap] h fun r h' =>r= .i (ixD q ds)∧h' =h:=by
 refine abg Tryz.func183 19 [.tmp 4] fun hwf=>?_
 simp only[go_sem,hb.len];refine .intro (fun m ρ h' =>h' =h∧∃i:Nat,i≤xs.length∧m=xs.length - i∧(∀j (hj:j<i) (h2:j<ds.length),q ds[j]=false)∧lk ρ 0=some y∧lk ρ 1=some (.fn g cap)∧lk ρ 7=some (.i xs.length)∧lk ρ 8=some (.i i)) xs.length ?_ ?_
 ·refine⟨rfl,0,abh,rfl,fun j hj=>abh,?_,?_,?_,?_⟩<;>simp only[go_sem]
 ·rintro m ρ h' ⟨rfl,i,hi,rfl,hc,r0,r1,r7,r8⟩
  simp only[go_sem,r7,r8];refine .intro (fun e=>?_) (fun e=>?_)
  ·have hlt:i<xs.length:=abe e
   have hlt2:i<ds.length:=abh;have w1:IntKind.i64.wrap ((i:Int)+1)=((i+1:Nat):Int):=abv;simp only[go_sem,r0,r1,r8];refine hb.idx (e:=158) i rfl hlt abx abk fun p hp1=>?_
   have hld:=hp1.all (U:=U) (ty:=158) abk ab8 ac4;simp only[go_sem,hld];refine(show ai Tryz.prog g (xs[i]::cap) _ _ from hp i hlt hlt2).pthen ?_
   cases d1:q ds[i]
   ·simp only[go_sem,r8,w1]
    refine⟨_,?_,rfl,i+1,abh,rfl,fun j hj h2=>?_,?_,?_,?_,?_⟩
    ·omega
    ·grind
    all_goals simp only[go_sem,r0,r1,r7]
   ·simp only[go_sem]
    exact .same (.refl _) ⟨abW,rfl⟩
  ·have hge:i=xs.length:=by grind
   simp only[go_sem];exact .same (.refl _) ⟨abK,rfl⟩
theorem Ih(y:AV)(ds:List pH)(q:pH→Bool)(g:FuncId)(cap:List AV)(h:Heap)(hb:Rd h 7 y (ds.map iu))(hl:ds.length≤1000000000)
  (hp:∀i (h2:i<ds.length),ai Tryz.prog g (iu ds[i]::cap) h fun r h' =>r= .b (q ds[i])∧h' =h):
  ai Tryz.prog 175 [y,.fn g cap] h fun r h' =>r= .b (ds.any q)∧h' =h:=by
 refine abg Tryz.func175 9 [.tmp 4] fun hwf=>?_
 simp only[go_sem];refine(Kt y _ ds q g cap h hb abp abi (nU (fun _=>rfl) _) fun i a b=>by rw[aa8];exact hp i b).pthen ?_
 simp only[go_sem,tY];exact abu
theorem Ig(y:AV)(ds:List cC)(q:cC→Bool)(g:FuncId)(cap:List AV)(h:Heap)(hb:Rd h 3 y (ds.map bn))(hl:ds.length≤1000000000)
  (hp:∀i (h2:i<ds.length),ai Tryz.prog g (bn ds[i]::cap) h fun r h' =>r= .b (q ds[i])∧h' =h):
  ai Tryz.prog 137 [y,.fn g cap] h fun r h' =>r= .b (ds.any q)∧h' =h:=by
 refine abg Tryz.func137 9 [.tmp 4] fun hwf=>?_
 simp only[go_sem];refine(Kr y _ ds q g cap h hb abp abi (nU (fun _=>rfl) _) fun i a b=>by rw[aa8];exact hp i b).pthen ?_
 simp only[go_sem,tY];exact abu
theorem EN(y:AV)(xs:List AV)(ds:List aK)(q:aK→Bool)(g:FuncId)(cap:List AV)(h:Heap)(hb:Rd h 5 y xs)(hn:xs.length=ds.length)(hl:xs.length≤1000000000)(hx:∀x∈xs,bx x=true)
  (hp:∀i (h1:i<xs.length) (h2:i<ds.length),ai Tryz.prog g (xs[i]::cap) h fun r h' =>r= .b (q ds[i])∧h' =h):
  ai Tryz.prog 143 [y,.fn g cap] h fun r h' =>r= .b (ds.any q)∧h' =h:=by
 refine abg Tryz.func143 9 [.tmp 4] fun hwf=>?_
 simp only[go_sem];refine(ur y xs ds q g cap h hb hn hl hx hp).pthen ?_;simp only[go_sem,tY];exact abu
theorem Kz{h:Heap}(r:pH){k1 k2:Nat}{subj:Txt}{s:an}(hk1:h k1=some (.obj [.s subj] 9))(hk2:h k2=some (.obj (sL s) 67))(ht:0≤s.tick∧s.tick≤1099511627776)(hr:0≤r.tick∧r.tick≤1099511627776):
  ai Tryz.prog 176 [iu r,.ptr k1 0,.ptr k2 0] h fun x h' =>x= .b (r.subj==subj && qw s r)∧h' =h:=by
 have w:IntKind.i64.wrap (s.tick - r.tick)=s.tick - r.tick:=bh _ abh;obtain⟨tick,cs,rv,nt,ro,⟨pid,pset,palg,ptgt,prules,pkids,pobls⟩,ver⟩:=s;simp only[sL]at hk2;simp only at w;refine abg Tryz.func176 21 [.tmp 4] fun hwf=>?_
 simp only[go_sem,iu];intro i3 h3;have n31:i3≠k1:=fun e=>abi
 have n32:i3≠k2:=fun e=>abi
 cases d1:(r.subj==subj)
 ·simp only[go_sem,aj,n31.symm,hk1,d1]
  exact .mk _ (.refl _) (.ak h3) ⟨rfl,rfl⟩
 cases d2:r.isOpen
 ·simp only[go_sem,aj,n31.symm,hk1,d1]
  exact .mk _ (.refl _) (.ak h3) ⟨by simp only[qw,d2];rfl,rfl⟩
 ·simp only[go_sem,aj,n31.symm,n32.symm,hk1,hk2,d1,w]
  exact .mk _ (.refl _) (.ak h3) ⟨by simp only[qw,d2];rfl,rfl⟩
theorem MZ(s:an)(subj:Txt)(hn:s.reviews.length≤1000000)(ht:0≤s.tick∧s.tick≤1099511627776)(hr:gN s)(h:Heap):ai Tryz.prog 128 [cJ s,.s subj] h fun x h' =>x= .b (KA s subj)∧h' =h:=by
 have hl1:=fun(H:Heap) (k1 k2:Nat) (e1:H k1=some (.obj [.s subj] 9)) (e2:H k2=some (.obj (sL s) 67))=>Ih (jP s.reviews) s.reviews (fun r=>r.subj==subj && qw s r) 176 [.ptr k1 0,.ptr k2 0] H (eJ iu 7 (fun _=>rfl) H _) abh fun i h2=>Kz _ e1 e2 ht (hr _ (abc h2))
 have hst:=uS s;obtain⟨tick,cs,rv,nt,ro,⟨pid,pset,palg,ptgt,prules,pkids,pobls⟩,ver⟩:=s;rw[hst];simp only[sL]at hl1⊢;refine abg Tryz.func128 9 [.tmp 4] fun hwf=>?_
 simp only[go_sem];intro i2 h2;simp only[go_sem];intro i3 h3;have n32:=aH h3;have n3:=aB h3;have hs:∀x y,Ab.Sub h (upd (upd h i2 x) i3 y):=fun x y=>((Sub.refl h).put h2 x).put n3 y
 simp only[go_sem,aj,n32.symm];refine(hl1 _ i3 i2 (ah ..) (by grind [ag,ah])).pthen ?_
 simp only[go_sem];exact acR
theorem Hq(s:an)(o:OpD)(m:aS)(hm9:M9 m)(hn:s.reviews.length≤1000000)(hro:s.roles.length≤1000000)(ht:0≤s.tick∧s.tick≤1099511627776)(hr:gN s)(h:Heap):ai Tryz.prog 71 [cJ s,opA o,aQ m] h fun x h' =>x= .b (su s o m)∧h' =h:=by
 have hla:=fun G=>MZ s o.subj hn ht hr G
 have hha:=fun G=>ER (rdS G s) o.subj Bo abh
 have hbd:su s o m=(o.glass && (m==cD||m==naM) && xL s.roles ⟨o.subj,Bo⟩ && !KA s o.subj):=rfl
 have de:=(nb hm9).de;have na:=(nb hm9).na;have hst:=uS s;obtain⟨tick,cs,rv,nt,ro,⟨pid,pset,palg,ptgt,prules,pkids,pobls⟩,ver⟩:=s;rw[hst]at hla hha⊢;simp only[sL,Bo]at hla hha hbd⊢;refine abg Tryz.func71 30 [.tmp 6] fun hwf=>?_
 simp only[go_sem,opA,opC,aQ];intro i3 h3;simp only[go_sem];intro i4 h4;have n43:=aH h4;have n4:=aB h4;have hs:∀x y,Ab.Sub h (upd (upd h i3 x) i4 y):=fun x y=>((Sub.refl h).put h3 x).put n4 y
 cases dg:o.glass
 ·simp only[go_sem]
  exact .mk _ (.refl _) (hs _ _) ⟨by rw[hbd,dg];rfl,rfl⟩
 cases d1:(m==cD)<;>cases d2:(m==naM)
 case false.false=>
  simp only[go_sem,de,na,d1,d2];exact .mk _ (.refl _) (hs _ _) ⟨by rw[hbd,dg,d1,d2];rfl,rfl⟩
 all_goals
  simp only[go_sem,aj,n43.symm,de,na,d1,d2];refine(hha _).pthen ?_;cases dh:xL ro ⟨o.subj,[103,108,97,115,115]⟩
  ·simp only[go_sem]
   exact .mk _ (.refl _) (hs _ _) ⟨by rw[hbd,dg,d1,d2,dh];rfl,rfl⟩
  ·simp only[go_sem,aj,n43.symm]
   refine(hla _).pthen ?_;simp only[go_sem];exact .mk _ (.refl _) (hs _ _) ⟨by rw[hbd,dg,d1,d2,dh];rfl,rfl⟩
theorem Ij{h:Heap}(x:cC){k:Nat}{field:Txt}(hk:h k=some (.obj [.s field] 9)):ai Tryz.prog 138 [bn x,.ptr k 0] h fun r h' =>r= .b (x.kind==2 && x.arg==field)∧h' =h:=by
 refine abg Tryz.func138 13 [.tmp 3] fun hwf=>?_
 simp only[go_sem,bn];intro i2 h2;have n2:i2≠k:=fun e=>abi
 cases d1:(x.kind==2)
 all_goals
  simp only[go_sem,aj,n2.symm,hk,d1];exact .mk _ (.refl _) (.ak h2) ⟨rfl,rfl⟩
theorem Kl(l:List cC)(hl:l.length≤1000000000)(field:Txt)(h:Heap):ai Tryz.prog 75 [aA l,.s field] h fun r h' =>r= .b (jw l field)∧h' =h:=by
 refine abg Tryz.func75 8 [.tmp 4] fun hwf=>?_
 simp only[go_sem,aA];intro i3 h3;simp only[go_sem];refine(Ig (.sl (l.map bn) .no) l (fun x=>x.kind==2 && x.arg==field) _ [.ptr i3 0] _ (eJ bn 3 (fun _=>rfl) _ _) hl fun i h2=>Ij _ (ah ..)).pthen ?_
 simp only[go_sem];exact .mk _ (.refl _) (.ak h3) ⟨rfl,rfl⟩
theorem KZ{h:Heap}{x:AV}{c:aK}(hb:RdC h x c):ai Tryz.prog 144 [x] h fun r h' =>r= .b (decide (256<c.log.length))∧h' =h:=by
 obtain⟨f,l,rfl,hf,hl⟩:=hb;have e:decide ((256:Int)<(c.log.length:Int))=decide (256<c.log.length):=by
  grind
 refine abg Tryz.func144 7 [.tmp 2] fun hwf=>?_
 simp only[go_sem];intro i1 h1;simp only[go_sem,hl.len,aa7,e];exact abz
theorem K1{h:Heap}{x:AV}{s:an}(hb:RdS h x s)(hc:s.cases.length≤1000000):ai Tryz.prog 79 [x] h fun r h' =>r= .b (rC s)∧h' =h:=by
 obtain⟨y1,y2,y3,y4,rfl,⟨xs,hx,hn,hcs⟩,h2,h3,h4⟩:=hb;have hod:rC s=(decide (256<s.reviews.length)||decide (256<s.notices.length)||s.cases.any fun c=>decide (256<c.log.length)):=rfl
 have e2:decide ((256:Int)<(s.reviews.length:Int))=decide (256<s.reviews.length):=by
  grind
 have e3:decide ((256:Int)<(s.notices.length:Int))=decide (256<s.notices.length):=by
  grind
 have hca:=fun(G:Heap) (hG:Ab.Sub h G)=>EN y1 xs s.cases (fun c=>decide (256<c.log.length)) 144 [] G (hx.sub hG) hn abh (zc.agg hn hcs) fun i a b=>KZ ((hcs i a b).sub hG)
 cases hpp:s.policy with
 |mk pid pset palg ptgt prules pkids pobls=>
 refine abg Tryz.func79 18 [.tmp 2] fun hwf=>?_
 simp only[go_sem,fO,aW,List.cons_append,List.nil_append];intro i1 h1;cases d2:decide (256<s.reviews.length)
 case true=>
  simp only[go_sem,h2.len,aa7,e2,d2];exact .mk _ (.refl _) (.ak h1) ⟨by rw[hod,d2];rfl,rfl⟩
 cases d3:decide (256<s.notices.length)
 case true=>
  simp only[go_sem,h2.len,h3.len,aa7,e2,e3,d2,d3];exact .mk _ (.refl _) (.ak h1) ⟨by rw[hod,d2,d3];rfl,rfl⟩
 simp only[go_sem,h2.len,h3.len,aa7,e2,e3,d2,d3];refine(hca _ (.ak h1)).pthen ?_;simp only[go_sem];exact .mk _ (.refl _) (.ak h1) ⟨by rw[hod,d2,d3];rfl,rfl⟩
theorem KG{h:Heap}{x:AV}{c:aK}(hb:RdC h x c){k:Nat}{o:OpD}(hk:h k=some (.obj (opC o) 32)):ai Tryz.prog 185 [x,.ptr k 0] h fun r h' =>r= .b (c.id==o.case)∧h' =h:=by
 obtain⟨f,l,rfl,hf,hl⟩:=hb;simp only[opC]at hk;refine abg Tryz.func185 9 [.tmp 3] fun hwf=>?_
 simp only[go_sem];exact afE
end Go.Proofs.YtcochaoekecfdaaGreatDoor
namespace Go.Ab
open Go
theorem OwE.more{tb:TypeId}{g h0 h:Heap}{sz:Nat}{y:AV}{xs:List AV}(hw:OwE tb h0 h sz y xs)(hg:∀id,h0 id=Option.none→h id≠Option.none→g id=Option.none):OwE tb g h sz y xs:=by
 rcases hw with hw|⟨id,e,hw⟩
 ·exact afc
 ·exact .inr ⟨id,hg _ e hw.none,hw⟩
end Go.Ab
namespace Go.Proofs.YtcochaoekecfdaaGreatDoor
open Go Go.Ab Go.Bf
theorem fc.more{g h0 h:Heap}{ys:List AV}{x:AV}{c:aK}(hm:fc h0 h ys x c)(hg:∀id,h0 id=none→h id≠none→g id=none):fc g h ys x c:=by
 obtain⟨f,l,e,a,b,c⟩:=hm;exact⟨f,l,e,a.more hg,b.more hg,c⟩
theorem lB.more{g h0 h:Heap}{ys:List AV}{y:AV}{cs:List aK}{i0:Nat}(ho:lB h0 h ys y cs i0)(hg:∀id,h0 id=none→h id≠none→g id=none):lB g h ys y cs i0:=by
 obtain⟨xs,a,b,c,d⟩:=ho;exact⟨xs,a.more hg,b,c,fun h1 h2=>(d h1 h2).more hg⟩
theorem OwR.more{g h0 h:Heap}{y:AV}{rs:List gM}(hr:OwR h0 h y rs)(hg:∀id,h0 id=none→h id≠none→g id=none):OwR g h y rs:=by
 rcases hr with hr|hr
 ·exact .inl hr
 ·exact .inr (hr.more hg)
theorem ic.more{g h0 h:Heap}{y1 y2 y3 y4:AV}{s:an}{j:Nat}(ho:ic h0 h y1 y2 y3 y4 s j)(hg:∀id,h0 id=none→h id≠none→g id=none):ic g h y1 y2 y3 y4 s j:=
 {ho with cs:=ho.cs.more hg,rv:=ho.rv.more hg,nt:=ho.nt.more hg,rl:=ho.rl.more hg}
def GSt(g H:Heap)(k:Nat)(s:an)(j:Nat):Prop:=∃y1 y2 y3 y4,H k=some (.obj (stC s y1 y2 y3 y4) 67)∧ic g H y1 y2 y3 y4 s j∧g k≠none∧∀i b,i≠k→g i=some b→H i=some b
theorem GSt.box{g H:Heap}{k:Nat}{s:an}{j:Nat}(hG:GSt g H k s j){i:Nat}(hi:H i=none)(b:Blk):GSt (upd g i (some b)) (upd H i (some b)) k s j:=by
 obtain⟨y1,y2,y3,y4,hk,ho,hgk,hfr⟩:=hG;refine⟨y1,y2,y3,y4,abQ,(ho.more (g:=upd g i (some b)) fun id h0 hne=>?_).keep fun id _ hne=>ag _ _ fun e=>hne abi,abQ,fun q c hq hc=>?_⟩
 ·grind [ag]
 grind [ah,ag]
theorem GSt.unbox{g H:Heap}{k:Nat}{s:an}{j:Nat}{i:Nat}{b:Blk}(hG:GSt (upd g i (some b)) H k s j)(hi:i≠k)(hgi:g i=none):GSt g H k s j∧H i=some b:=by
 obtain⟨y1,y2,y3,y4,hk,ho,hgk,hfr⟩:=hG;refine⟨⟨y1,y2,y3,y4,hk,ho.bJ fun q hq=>?_,abQ,fun q c hq hc=>hfr q c hq ?_⟩,hfr i b hi (ah ..)⟩
 ·grind [ag]
 grind [ag]
theorem GSt.base{g H:Heap}{k:Nat}{s:an}{j:Nat}(hG:GSt g H k s j):∃G,Ab.Sub G H∧(∀i,G i=none↔g i=none)∧∀i,i≠k→G i=g i:=by
 obtain⟨y1,y2,y3,y4,hk,ho,hgk,hfr⟩:=hG;refine⟨upd g k (H k),fun i b hi=>?_,fun i=>?_,fun i hi=>ag _ _ hi⟩
 ·grind [ah,ag]
 grind [ah,ag]
theorem GSt.rd{g H:Heap}{k:Nat}{s:an}{j:Nat}(hG:GSt g H k s j):∃y1 y2 y3 y4,H k=some (.obj (stC s y1 y2 y3 y4) 67)∧RdS H (.agg (stC s y1 y2 y3 y4)) s:=by
 obtain⟨y1,y2,y3,y4,hk,ho,_⟩:=hG;exact⟨y1,y2,y3,y4,hk,ho.rd⟩
theorem De{g H:Heap}{k:Nat}{s:an}{j:Nat}(hG:GSt g H k s j)(o:OpD)(w:Txt)(hk64:i64 o.kind)(hn:s.reviews.length≤1000000000):
  ai Tryz.prog 73 [.ptr k 0,opA o,.s w] H fun r H' =>GSt g H' k (cc s o w) j:=by
 obtain⟨G,sG,nG,oG⟩:=hG.base;obtain⟨y1,y2,y3,y4,hk,ho,hgk,hfr⟩:=hG;have ho2:ic G H y1 y2 y3 y4 s j:=ho.bJ fun i hi=>(nG i).2 hi
 have w1:IntKind.i64.wrap ((s.reviews.length:Int)+1)=(s.reviews.length:Int)+1:=bh _ abh;obtain⟨pid,pset,palg,ptgt,prules,pkids,pobls,hpp⟩:∃a b c d e f g,s.policy= .mk a b c d e f g:=by cases s.policy;simp
 have hst:∀z,stC (cc s o w) y1 z y3 y4= [.i s.tick,y1,z,y3,y4,.s pid,.b pset,.i palg,aU ptgt,.sl (prules.map aC) .no,.sl (pkids.map aL) .no,aA pobls,.i s.version]:=fun z=>by simp[stC,cc,hpp,fO,aW]
 have hst0:stC s y1 y2 y3 y4= [.i s.tick,y1,y2,y3,y4,.s pid,.b pset,.i palg,aU ptgt,.sl (prules.map aC) .no,.sl (pkids.map aL) .no,aA pobls,.i s.version]:=ae1;rw[hst0]at hk;refine abg Tryz.func73 34 [] fun hwf=>?_
 simp only[go_sem,opA,opC];intro i4 h4;have n4k:i4≠k:=fun e=>abi
 simp only[go_sem];obtain⟨K,eK⟩:∃K,upd H i4 (some (.obj [.i o.kind,.s o.subj,.s o.case,.s o.field,.s o.to,.i o.val.kind,.i o.val.n,.s o.val.s,.i o.review,.s o.text,.s o.reason,.b o.glass] 32))=K:=⟨_,rfl⟩;have sK:Ab.Sub H K:=by rw[←eK];exact .ak h4
 have k4:K i4=some (.obj [.i o.kind,.s o.subj,.s o.case,.s o.field,.s o.to,.i o.val.kind,.i o.val.n,.s o.val.s,.i o.review,.s o.text,.s o.reason,.b o.glass] 32):=by rw[←eK,ah]
 have kk:=sK _ _ hk;have hoK:ic G K y1 y2 y3 y4 s j:=ho2.keep fun id _ hne=>by rw[←eK];grind [ag]
 rw[eK];have p4:=(bz (H:=K) (l:=[k,i4]) (show i4∈ [k,i4] by simp)).trans k4
 have pk:=(bz (H:=K) (l:=[k,i4]) (show k∈ [k,i4] by simp)).trans kk
 refine .stage (pick K [k,i4]) [0,1,2,3,4,5,6,7,8,9,10,11,12,13,14,15,16,17,18,19,20,22,21,23,24,25,26,27] [28] bw abl ?_;simp only[go_sem,pk,p4,hoK.rv.rd.len,aa7,w1];refine(zJ o.kind hk64 _).pthen ?_;refine⟨bw,?_⟩;simp only[go_sem];have hap1:Rd K 7 (.sl [iu (AE s o w)] .full) [iu (AE s o w)]:=.sl ab0 .full;refine OwE.app (U:=U) (tb:=143) hoK.rv (sG.trans sK) hap1 abx abk abk abx abp abN fun id y' K2 hid hor how hoth=>?_
 have hor' :K id=none∨nid y2=some id:=by
  rcases hor with hor|⟨l,c,ey⟩
  ·grind
  ·exact .inr ae5
 have nik:k≠id:=fun e=>hgk ((nG k).1 abi)
 have ni4:i4≠id:=by
  rcases hor' with hor|hor
  ·grind
  ·exact fun e=>(ho2.rv.nid hor).2.1 abi
 have m4:=(hoth i4 ni4).trans k4;have mk:=(hoth k nik).trans kk;refine⟨iq fun q hq=>?_,?_⟩
 ·grind
 simp only[go_sem];refine⟨cF,fun _ _ e=>abI,?_⟩
 simp only[go_sem,mk,how.rd.fit,how.rd.cells];refine⟨fun _ _ e=>abI,?_⟩
 refine .same (.refl _) ⟨y1,y',y3,y4,afi,ic.bJ (h0:=G) ?_ fun i hi=>(nG i).1 hi,hgk,fun i b hi hb=>?_⟩
 ·refine hoK.revs (rs:=s.reviews++ [AE s o w]) (.inr ⟨id,hid,by rw[List.map_append];exact how.same (ag _ _ nik.symm)⟩) (fun q hq=>?_) fun q hq hne hz=>?_
  ·have:id=q:=by have:=how.nid;rw[hq]at this;exact(Option.some.inj this).symm
   rw[←this];exact hor'
  grind [ag]
 ·have n2:i≠id:=fun e=>by
   grind
  rw[ag _ _ hi,hoth i n2];exact sK _ _ (hfr i b hi hb)
end Go.Proofs.YtcochaoekecfdaaGreatDoor
namespace Go.Bf
open Go Go.Ab Go.Proofs.YtcochaoekecfdaaGreatDoor
theorem C2{s:an}{o:OpD}{w:Txt}(h:¬(ij s.cases o.case<s.cases.length∧o.kind≠6)):iD s o w=s:=by simp_all [iD,if_neg]
theorem KH{s:an}{o:OpD}{w:Txt}{j:Nat}(h1:ij s.cases o.case<s.cases.length)(h2:o.kind≠6)(e:ij s.cases o.case=j):iD s o w= {s with cases:=s.cases.modify j fun c=>iU s c o.subj w}:=by simp_all [iD,if_pos]
end Go.Bf
namespace Go.Proofs.YtcochaoekecfdaaGreatDoor
open Go Go.Ab Go.Bf
theorem KI{g H:Heap}{k:Nat}{s:an}{j:Nat}(hG:GSt g H k s j)(o:OpD)(w:Txt)(hc:s.cases.length≤1000000)(hl:∀c∈s.cases,c.log.length≤1000000000)(hj:ij s.cases o.case<s.cases.length→o.kind≠6→j=ij s.cases o.case):
  ai Tryz.prog 142 [.ptr k 0,opA o,.s w] H fun r H' =>GSt g H' k (iD s o w) j:=by
 obtain⟨G,sG,nG,oG⟩:=hG.base;obtain⟨y1,y2,y3,y4,hk,ho,hgk,hfr⟩:=hG;have ho2:ic G H y1 y2 y3 y4 s j:=ho.bJ fun i hi=>(nG i).2 hi
 obtain⟨pid,pset,palg,ptgt,prules,pkids,pobls,hpp⟩:∃a b c d e f g,s.policy= .mk a b c d e f g:=by cases s.policy;exact⟨_,_,_,_,_,_,_,rfl⟩
 have hst0:stC s y1 y2 y3 y4= [.i s.tick,y1,y2,y3,y4,.s pid,.b pset,.i palg,aU ptgt,.sl (prules.map aC) .no,.sl (pkids.map aL) .no,aA pobls,.i s.version]:=ae1;rw[hst0]at hk;refine abg Tryz.func142 44 [] fun hwf=>?_
 simp only[go_sem,opA,opC];intro i4 h4;have n4k:i4≠k:=fun e=>by rw[e,hk]at h4;cases h4
 obtain⟨K,eK⟩:∃K,upd H i4 (some (.obj [.i o.kind,.s o.subj,.s o.case,.s o.field,.s o.to,.i o.val.kind,.i o.val.n,.s o.val.s,.i o.review,.s o.text,.s o.reason,.b o.glass] 32))=K:=⟨_,rfl⟩;have sK:Ab.Sub H K:=by rw[←eK];exact .ak h4
 have k4:K i4=some (.obj [.i o.kind,.s o.subj,.s o.case,.s o.field,.s o.to,.i o.val.kind,.i o.val.n,.s o.val.s,.i o.review,.s o.text,.s o.reason,.b o.glass] 32):=by rw[←eK,ah]
 have kk:=sK _ _ hk;have hoK:ic G K y1 y2 y3 y4 s j:=ho2.keep fun id _ hne=>by rw[←eK];exact ag _ _ fun e=>hne (by rw[e];exact h4)
 have hfin:GSt g K k s j:=⟨y1,y2,y3,y4,by rw[hst0];exact kk,hoK.bJ fun i hi=>(nG i).1 hi,hgk,fun i b hi hb=>sK _ _ (hfr i b hi hb)⟩
 have hix:ai Tryz.prog 168 [y1,.fn 185 [.ptr i4 0]] K fun r h' =>r= .i (ixD (fun c:aK=>c.id==o.case) s.cases)∧h' =K:=by
  obtain⟨xs,hx,hn,hcs⟩:=hoK.cs.rd;exact ur y1 xs s.cases (fun c=>c.id==o.case) _ [.ptr i4 0] K hx hn abh (zc.agg hn hcs) fun i a b=>KG (hcs i a b) k4
 have hcsK:=hoK.cs;have n4G:∀id,G id=none→K id≠none→id≠i4→H id=K id:=fun id _ _ h=>by rw[←eK,ag _ _ h]
 simp only[go_sem,aj,n4k.symm,hk];rw[eK];refine hix.pthen ?_
 by_cases hx:ij s.cases o.case<s.cases.length
 case neg=>
  have e1:ixD (fun c:aK=>c.id==o.case) s.cases= -1:=if_neg hx
  have d1:decide ((-1:Int)<0)=true:=rfl;rw[e1];simp only[go_sem,d1];exact .same (.refl _) (by rw[C2 fun h=>hx h.1];exact hfin)
 have e1:ixD (fun c:aK=>c.id==o.case) s.cases=(ij s.cases o.case:Nat):=if_pos hx
 have d1:decide (((ij s.cases o.case:Nat):Int)<0)=false:=decide_eq_false abh;rw[e1];cases d6:(o.kind==6)
 case true=>
  have h6:o.kind=6:=by simpa using d6
  simp only[go_sem,d1,k4,d6];exact .same (.refl _) (by rw[C2 fun h=>h.2 h6];exact hfin)
 have h6:o.kind≠6:=by simpa using d6
 have hjj:=hj hx h6;have hlo:=KH (w:=w) hx h6 hjj.symm;have hjc:j<s.cases.length:=by rw[hjj];exact hx
 rw[←hjj]at d1⊢;rw[hlo];obtain⟨xs,w1,hnx,hlw,hmy⟩:=hcsK;have hjx:j<xs.length:=abh;obtain⟨f,l,ex,of,ol,hap,hys⟩:=hmy hjx hjc;obtain⟨id1,hg1,o1⟩:=w1.ow ad9;have o1' :=o1;obtain⟨cap,rest,ey,hid,hrl,hcap,hsz⟩:=o1';have lA:j*5=(aq (xs.take j)).length:=acm;have hidK:K id1=some (.obj (aq (xs.take j)++(bZ s.cases[j] f l++(aq (xs.drop (j+1))++rest))) 134):=by
  rw[hid,Bl hjx,ex];simp[bZ,AV.cells]
 have n1k:id1≠k:=lg o1 kk abk;have n14:id1≠i4:=lg o1 k4 abk;have hll:=hl _ (abc hjc);have p4:=(bz (H:=K) (l:=[k,i4,id1]) (show i4∈ [k,i4,id1] by simp)).trans k4
 have pk:=(bz (H:=K) (l:=[k,i4,id1]) (show k∈ [k,i4,id1] by simp)).trans kk
 have p1:=(bz (H:=K) (l:=[k,i4,id1]) (show id1∈ [k,i4,id1] by simp)).trans hidK
 have hc4:(aq (xs.take j)++(bZ s.cases[j] f l++(aq (xs.drop (j+1))++rest)))[j*5+4]? =some l:=by rw[lA,List.getElem?_append_right abh,Nat.add_sub_cancel_left];rfl
 obtain⟨CS,eCS⟩:∃CS,aq (xs.take j)++(bZ s.cases[j] f l++(aq (xs.drop (j+1))++rest))=CS:=⟨_,rfl⟩;rw[eCS]at hc4 p1 hidK;simp only[go_sem,d1,k4,d6,kk];refine o1.idx (U:=U) (e:=134) j rfl hjx mT abk ?_;simp only[go_sem];refine .stage (pick K [k,i4,id1]) [0,1,2,3,4,5,6,7,8,9,10,11,12,13,14,15,16] [17] bw abl ?_;simp only[go_sem,pk,p4,p1,hc4];have hap1:Rd K 3 (.sl [ig ⟨s.tick,o.subj,w⟩] .full) [ig ⟨s.tick,o.subj,w⟩]:=.sl ab0 .full;refine OwE.app (U:=U) (tb:=205) ol (sG.trans sK) hap1 abq abk abm abq abp abN fun id2 y' K2 g2 hor how hoth=>?_
 have hor' :K id2=none∨nid l=some id2:=by
  exact afW
 have n2:∀ {q b t},K q=some (.obj b t)→t≠205→q≠id2:=fun {q b t} hq ht e=>by
  rcases hor' with h|h
  ·rw[e,h]at hq;cases hq
  ·exact lg (ol.nid h).2.2 hq ht e.symm
 have m4:=(hoth i4 (n2 k4 abk)).trans k4;have mk:=(hoth k (n2 kk abk)).trans kk;have m1:=(hoth id1 (n2 hidK abk)).trans hidK;refine⟨iq fun q hq=>?_,?_⟩
 ·simp only[List.mem_cons,List.not_mem_nil,or_false]at hq
  rcases hq with rfl|rfl|rfl
  ·rw[mk,kk]
  ·rw[m4,k4]
  ·rw[m1,hidK]
 simp only[go_sem];refine⟨cF,fun _ _ e=>abI,?_⟩
 simp only[go_sem,m1,how.rd.fit,how.rd.cells];have e5:List.take (j*5+4) CS++ [y']++List.drop (j*5+4+1) CS=aq (xs.take j)++(bZ s.cases[j] f y' ++(aq (xs.drop (j+1))++rest)):=by
  have:=oC (A:=aq (xs.take j)++ [.s s.cases[j].id,.s s.cases[j].owner,.s s.cases[j].state,f]) (B:=[l]) (C:=aq (xs.drop (j+1))++rest) (X:=[y']) (k:=j*5+4) (m:=1) (by rw[lA];simp) rfl rfl
  exact agR
 rw[e5];refine⟨by rw[←eCS];simp only[abb,←lA,bZ,List.length_cons,List.length_nil];omega,(fun _ _ e=>abI),?_⟩
 obtain⟨F,eF⟩:∃F,upd K2 id1 (some (.obj (aq (xs.take j)++(bZ s.cases[j] f y' ++(aq (xs.drop (j+1))++rest))) 134))=F:=⟨_,rfl⟩;have kF:∀q,q≠id1→q≠id2→F q=K q:=fun q a b=>by rw[←eF,ag _ _ a,hoth q b]
 have kF' :∀q,K q≠none→q≠id1→nid l≠some q→F q=K q:=fun q a b c=>kF q b fun e=>by
  rcases hor' with h|h
  ·exact a (by rw[e];exact h)
  ·exact c (by rw[e];exact h)
 have hF1:F id1=some (.obj (aq (xs.take j)++(bZ s.cases[j] f y' ++(aq (xs.drop (j+1))++rest))) 134):=by rw[←eF,ah]
 have n12:id1≠id2:=n2 hidK abk;have hX5:Sized 5 (xs.set j (.agg (bZ s.cases[j] f y'))):=fun z hz=>by
  exact af2
 have hOw:Ow 134 F 5 id1 y1 (xs.set j (.agg (bZ s.cases[j] f y'))):=⟨cap,rest,adz,by rw[hF1,sI hjx];simp[AV.cells],aeo,ads,hX5⟩
 have hl' :OwE 205 G F 3 y' ((s.cases[j].log++ [(⟨s.tick,o.subj,w⟩:wO)]).map ig):=by
  rw[List.map_append];exact .inr ⟨id2,g2,how.same (by rw[←eF,ag _ _ n12.symm])⟩
 have hny:∀q,nid y' =some q→q=id2:=fun q hq=>by have:=how.nid;rw[hq]at this;exact Option.some.inj this
 have nf1:nid f≠some id1:=fun e=>(hys y1 abp).1 id1 e o1.nid
 have hof:OwE 215 G F 4 f (s.cases[j].fields.map bM):=of.keep fun q e=>kF' q (of.nid e).2.1 (fun e' =>nf1 (by rw[←e'];exact e)) (hap q e)
 have hnid:∀ {y:AV},y∈ [y1,y2,y3,y4]→∀q,nid y=some q→K q≠none:=fun hy q e=>(hoK.mem hy e).2
 have hap2:∀ {y:AV},y∈ [y1,y2,y3,y4]→apart y' y:=fun {y} hy q e1 e2=>by
  have:=hny q e1;subst this;rcases hor' with h|h
  ·exact hnid hy _ e2 h
  ·exact(hys y hy).2 _ h e2
 have hkp:∀ {y:AV},y∈ [y2,y3,y4]→apart y1 y→∀q,nid y=some q→F q=K q:=fun {y} hy ha q e=>by
  have hy' :y∈ [y1,y2,y3,y4]:=List.mem_cons_of_mem _ hy;refine kF' q (hnid hy' q e) (fun e' =>ha id1 o1.nid (by rw[←e'];exact e)) fun e' =>(hys y hy').2 q e' e
 rw[eF];refine .same (.refl _) ⟨y1,y2,y3,y4,?_,ic.bJ (h0:=G) ?_ fun i hi=>(nG i).1 hi,hgk,fun i b hi hb=>?_⟩
 ·rw[kF k n1k.symm (n2 kk abk),kk]
  simp[stC,hpp,fO,aW]
 ·refine⟨BD (X:=.agg (bZ s.cases[j] f y')) (.inr ⟨id1,hg1,hOw⟩) hnx (fun q h1 h2 hq=>hlw q h1 h2 hq) fun hh=>⟨f,y',rfl,hof,hl',fun q e1 e2=>?_,fun y hy=>⟨(hys y hy).1,hap2 hy⟩⟩,hoK.rv.keep (hkp abp hoK.a12),hoK.nt.keep (hkp abp hoK.a13),hoK.rl.keep (hkp abp hoK.a14),hoK.a12,hoK.a13,hoK.a14,hoK.a23,hoK.a24,hoK.a34⟩
  have:=hny q e2;subst this;rcases hor' with h|h
  ·exact(of.nid e1).2.1 h
  ·exact hap _ e1 h
 ·have hGi:G i=some b:=by rw[oG i hi];exact hb
  rw[kF i (fun e=>by rw[e,hg1]at hGi;cases hGi) (fun e=>by rw[e,g2]at hGi;cases hGi)]
  exact sK _ _ (hfr i b hi hb)
end Go.Proofs.YtcochaoekecfdaaGreatDoor
namespace Go.Bf
open Go Go.Ab Go.Proofs.YtcochaoekecfdaaGreatDoor
def ru(B:Nat)(s:an):Prop:=(∀c∈s.cases,c.log.length≤B)∧s.reviews.length≤B∧s.notices.length≤B
theorem ru.up{B C:Nat}{s:an}(h:ru B s)(hc:B≤C):ru C s:=⟨fun c hcc=>Nat.le_trans (h.1 c hcc) hc,Nat.le_trans h.2.1 hc,Nat.le_trans h.2.2 hc⟩
theorem HZ{B:Nat}{s:an}(o:OpD)(done:Bool)(x:cC)(h:ru B s):ru (B+1) (fo o done s x):=by
 unfold fo;split
 ·unfold iD
  split
  ·refine⟨fun c hc=>?_,Nat.le_succ_of_le h.2.1,Nat.le_succ_of_le h.2.2⟩
   rcases mem_modify hc with hc|⟨hi,rfl⟩
   ·exact Nat.le_succ_of_le (h.1 c hc)
   ·have:=h.1 _ (abc hi)
    simp only[iU,abb,List.length_singleton];omega
  ·exact h.up abh
 ·split
  ·refine⟨fun c hc=>Nat.le_succ_of_le (h.1 c hc),?_,Nat.le_succ_of_le h.2.2⟩
   have:=h.2.1;simp only[cc,abb,List.length_singleton];omega
  ·split
   ·refine⟨fun c hc=>Nat.le_succ_of_le (h.1 c hc),Nat.le_succ_of_le h.2.1,?_⟩
    have:=h.2.2;simp only[abb,List.length_singleton];omega
   ·exact h.up abh
theorem vw(o:OpD)(done:Bool):∀(l:List cC) {B:Nat} {s:an},ru B s→ru (B+l.length) (cZ s o l done)
 | [],B,s,h=>h
 |x::l,B,s,h=>(vw o done l (HZ o done x h)).up abi
theorem Cm(s:an)(o:OpD)(done:Bool){l:List cC}{i:Nat}(h:i<l.length):cZ s o (l.take (i+1)) done=fo o done (cZ s o (l.take i) done) l[i]:=by
 grind [cZ,List.take_succ_eq_append_getElem]
theorem vD(o:OpD)(done:Bool)(id:Txt):∀(l:List cC) (s:an),ij (cZ s o l done).cases id=ij s.cases id∧(cZ s o l done).cases.length=s.cases.length
 | [],s=>⟨rfl,rfl⟩
 |x::l,s=>by
  obtain⟨a1,a2⟩:=Io o done s x id;obtain⟨b1,b2⟩:=vD o done id l (fo o done s x);exact⟨b1.trans a1,b2.trans a2⟩
theorem HB{o:OpD}{s:an}{x:cC}(h:x.kind=1):fo o true s x=iD s o x.arg:=by unfold fo;grind
theorem Ev{o:OpD}{done:Bool}{s:an}{x:cC}(h:x.kind=3):fo o done s x=cc s o x.arg:=by simp_all [fo,if_neg,if_pos]
theorem Ew{o:OpD}{done:Bool}{s:an}{x:cC}(h:x.kind=4):fo o done s x= {s with notices:=s.notices++ [⟨s.tick,o.case,x.arg⟩]}:=by simp_all [fo,if_neg,if_pos]
theorem Cn{o:OpD}{done:Bool}{s:an}{x:cC}(h1:¬(x.kind=1∧done=true))(h3:x.kind≠3)(h4:x.kind≠4):fo o done s x=s:=by simp_all [fo,if_neg]
end Go.Bf
namespace Go.Proofs.YtcochaoekecfdaaGreatDoor
open Go Go.Ab Go.Bf
theorem Et{g H:Heap}{k:Nat}{s:an}{j:Nat}(hG:GSt g H k s j)(o:OpD)(hk64:i64 o.kind)(l:List cC)(hll:l.length≤100000000)(done:Bool)(hc:s.cases.length≤1000000)(hgr:ru 1000 s)(hj:done=true→ij s.cases o.case<s.cases.length→o.kind≠6→j=ij s.cases o.case):
  ai Tryz.prog 78 [.ptr k 0,opA o,aA l,.b done] H fun r H' =>GSt g H' k (cZ s o l done) j:=by
 have hkn:H k≠none:=by obtain⟨y1,y2,y3,y4,hk,_⟩:=hG;rw[hk];simp
 refine abg Tryz.func78 60 [] fun hwf=>?_
 simp only[go_sem,opA,opC,aA];intro i5 h5;have n5k:i5≠k:=fun e=>hkn (by rw[←e];exact h5)
 have hg5:g i5=none:=by
  obtain⟨y1,y2,y3,y4,hk,ho,hgk,hfr⟩:=hG;cases hh:g i5 with
  |none=>rfl
  |some b=>have:=hfr i5 b n5k hh;rw[h5]at this;cases this
 have hG5:=hG.box h5 (.obj [.i o.kind,.s o.subj,.s o.case,.s o.field,.s o.to,.i o.val.kind,.i o.val.n,.s o.val.s,.i o.review,.s o.text,.s o.reason,.b o.glass] 32);obtain⟨g5,eg5⟩:∃g5,upd g i5 (some (.obj [.i o.kind,.s o.subj,.s o.case,.s o.field,.s o.to,.i o.val.kind,.i o.val.n,.s o.val.s,.i o.review,.s o.text,.s o.reason,.b o.glass] 32))=g5:=⟨_,rfl⟩;have g55:g5 i5=some (.obj [.i o.kind,.s o.subj,.s o.case,.s o.field,.s o.to,.i o.val.kind,.i o.val.n,.s o.val.s,.i o.review,.s o.text,.s o.reason,.b o.glass] 32):=by rw[←eg5,ah]
 rw[eg5]at hG5;have hback:∀ {H' :Heap} {s' :an},GSt g5 H' k s' j→GSt g H' k s' j:=fun {H' s'} h=>by
  rw[←eg5]at h;exact(h.unbox n5k hg5).1
 have hgk5:g5 k≠none:=by obtain⟨_,_,_,_,_,_,h,_⟩:=hG5;exact h
 simp only[go_sem,aa7];refine .intro (fun m ρ H2=>∃i:Nat,GSt g5 H2 k (cZ s o (l.take i) done) j∧i≤l.length∧m=l.length - i∧lk ρ 0=some (.ptr k 0)∧lk ρ 3=some (.b done)∧lk ρ 5=some (.ptr i5 0)∧lk ρ 10=some (.sl (l.map bn) .no)∧lk ρ 11=some (.i l.length)∧lk ρ 12=some (.i i)) l.length ?_ ?_
 ·refine⟨0,hG5,abh,rfl,?_,?_,?_,?_,?_,?_⟩<;>simp only[go_sem]
 ·rintro m ρ H2 ⟨i,hS,hi,rfl,r0,r3,r5,r10,r11,r12⟩
  simp only[go_sem,r11,r12];refine .intro (fun e=>?_) (fun e=>?_)
  ·have hlt:i<l.length:=abe e
   have w1:=abd i abh;have hsn:=Cm s o done hlt;have hgi:=vw o done (l.take i) hgr;have hgi:ru 1000000000 (cZ s o (l.take i) done):=hgi.up adg;obtain⟨hix,hcl⟩:=vD o done o.case (l.take i) s;have ix:=fun k=>fD.eq (xs:=l.map bn) (sz:=3) i abH aby k
   rw[aa8]at ix;obtain⟨x,ex⟩:∃x,l[i]=x:=⟨_,rfl⟩;rw[ex]at ix hsn;obtain⟨t,et⟩:∃t,cZ s o (l.take i) done=t:=⟨_,rfl⟩;rw[et]at hS hsn hgi hix hcl;have hjt:done=true→ij t.cases o.case<t.cases.length→o.kind≠6→j=ij t.cases o.case:=fun a b c=>by rw[hix]at b⊢;rw[hcl]at b;exact hj a b c
   simp only[bn]at ix;simp only[go_sem,r10,r12,ix];intro i9 h9;have kkn:H2 k≠none:=by obtain⟨y1,y2,y3,y4,hk,_⟩:=hS;rw[hk];simp
   have n9k:i9≠k:=fun e=>kkn (by rw[←e];exact h9)
   have hg9:g5 i9=none:=by
    obtain⟨y1,y2,y3,y4,hk,ho,hgk,hfr⟩:=hS;cases hh:g5 i9 with
    |none=>rfl
    |some b=>have:=hfr i9 b n9k hh;rw[h9]at this;cases this
   have n95:i9≠i5:=fun e=>by rw[e,g55]at hg9;cases hg9
   have k5:H2 i5=some (.obj [.i o.kind,.s o.subj,.s o.case,.s o.field,.s o.to,.i o.val.kind,.i o.val.n,.s o.val.s,.i o.review,.s o.text,.s o.reason,.b o.glass] 32):=by obtain⟨_,_,_,_,_,_,_,hfr⟩:=hS;exact hfr i5 _ n5k g55
   have hS9:=hS.box h9 (.obj [.i x.on,.i x.kind,.s x.arg] 158);have hb9:∀ {H' :Heap} {s' :an},GSt (upd g5 i9 (some (.obj [.i x.on,.i x.kind,.s x.arg] 158))) H' k s' j→GSt g5 H' k s' j:=fun {H' s'} h=>(h.unbox n9k hg9).1
   have hlog:=fun(hd:done=true)=>KI hS9 o x.arg (by rw[hcl];exact hc) hgi.1 (hjt hd)
   have hopen:=De hS9 o x.arg hk64 hgi.2.1;simp only[opA,opC]at hlog hopen;cases a1:(x.kind==1)
   case true=>
    have e1:x.kind=1:=by simpa using a1
    have a3:(x.kind==3)=false:=by rw[e1];rfl
    have a4:(x.kind==4)=false:=by rw[e1];rfl
    cases done
    ·simp only[go_sem,r3,r12,a1,a3,a4,w1]
     refine⟨_,?_,i+1,by rw[hsn,Cn (fun h=>by cases h.2) (by rw[e1];decide) (by rw[e1];decide)];exact hb9 hS9,abh,rfl,?_,?_,?_,?_,?_,?_⟩
     ·omega
     all_goals simp only[go_sem,r0,r3,r5,r10,r11]
    ·simp only[go_sem,r0,r3,r5,a1,aj,n95.symm,k5]
     refine(hlog rfl).mono fun r H3 h3=>?_
     simp only[go_sem,r12,w1];refine⟨_,?_,i+1,by rw[hsn,HB e1];exact hb9 h3,abh,rfl,?_,?_,?_,?_,?_,?_⟩
     ·omega
     all_goals simp only[go_sem,r0,r3,r5,r10,r11]
   have e1:¬(x.kind=1∧done=true):=fun h=>by rw[h.1]at a1;cases a1
   cases a3:(x.kind==3)
   case true=>
    have e3:x.kind=3:=by simpa using a3
    simp only[go_sem,r0,r5,a1,a3,aj,n95.symm,k5];refine hopen.mono fun r H3 h3=>?_
    simp only[go_sem,r12,w1];refine⟨_,?_,i+1,by rw[hsn,Ev e3];exact hb9 h3,abh,rfl,?_,?_,?_,?_,?_,?_⟩
    ·omega
    all_goals simp only[go_sem,r0,r3,r5,r10,r11]
   have e3:x.kind≠3:=by simpa using a3
   cases a4:(x.kind==4)
   case false=>
    have e4:x.kind≠4:=by simpa using a4
    simp only[go_sem,r12,a1,a3,a4,w1];refine⟨_,?_,i+1,by rw[hsn,Cn e1 e3 e4];exact hb9 hS9,abh,rfl,?_,?_,?_,?_,?_,?_⟩
    ·omega
    all_goals simp only[go_sem,r0,r3,r5,r10,r11]
   have e4:x.kind=4:=by simpa using a4
   rw[Ew e4]at hsn;obtain⟨G,sG,nG,oG⟩:=hS9.base;obtain⟨y1,y2,y3,y4,kk,ho,hgk,hfr⟩:=hS9;obtain⟨K,eK⟩:∃K,upd H2 i9 (some (.obj [.i x.on,.i x.kind,.s x.arg] 158))=K:=⟨_,rfl⟩;have k9:K i9=some (.obj [.i x.on,.i x.kind,.s x.arg] 158):=by rw[←eK,ah]
   have k5' :K i5=some (.obj [.i o.kind,.s o.subj,.s o.case,.s o.field,.s o.to,.i o.val.kind,.i o.val.n,.s o.val.s,.i o.review,.s o.text,.s o.reason,.b o.glass] 32):=by rw[←eK,ag _ _ n95.symm];exact k5
   rw[eK]at sG kk ho hfr;have hoK:ic G K y1 y2 y3 y4 t j:=ho.bJ fun i hi=>(nG i).2 hi
   obtain⟨pid,pset,palg,ptgt,prules,pkids,pobls,hpp⟩:∃a b c d e f g,t.policy= .mk a b c d e f g:=by cases t.policy;exact⟨_,_,_,_,_,_,_,rfl⟩
   have hst:∀z (n:List Hg),stC {t with notices:=n} y1 y2 z y4= [.i t.tick,y1,y2,z,y4,.s pid,.b pset,.i palg,aU ptgt,.sl (prules.map aC) .no,.sl (pkids.map aL) .no,aA pobls,.i t.version]:=fun z n=>ae1
   have hst0:stC t y1 y2 y3 y4= [.i t.tick,y1,y2,y3,y4,.s pid,.b pset,.i palg,aU ptgt,.sl (prules.map aC) .no,.sl (pkids.map aL) .no,aA pobls,.i t.version]:=ae1;rw[hst0]at kk;have p9:=(bz (H:=K) (l:=[k,i5,i9]) (show i9∈ [k,i5,i9] by simp)).trans k9
   have p5:=(bz (H:=K) (l:=[k,i5,i9]) (show i5∈ [k,i5,i9] by simp)).trans k5'
   have pk:=(bz (H:=K) (l:=[k,i5,i9]) (show k∈ [k,i5,i9] by simp)).trans kk
   simp only[go_sem,a1,a3,a4];rw[eK];refine .stage (pick K [k,i5,i9]) [0,1,2,3,4,5,6,7,8,9,10,11,12,13,14,15,16,17] [18] bw abl ?_;simp only[go_sem,r0,r5,pk,p5,p9];have hap1:Rd K 3 (.sl [mu ⟨t.tick,o.case,x.arg⟩] .full) [mu ⟨t.tick,o.case,x.arg⟩]:=.sl ab0 .full;have hnl:=hgi.2.2;refine OwE.app (U:=U) (tb:=146) hoK.nt sG hap1 abq abk abm abq abp abN fun id y' K2 hid hor how hoth=>?_
   have hor' :K id=none∨nid y3=some id:=by
    exact afW
   have n2:∀ {q b t},K q=some (.obj b t)→t≠146→q≠id:=fun {q b t} hq ht e=>by
    rcases hor' with h|h
    ·rw[e,h]at hq;cases hq
    ·exact lg (hoK.nt.nid h).2.2 hq ht e.symm
   have m9:=(hoth i9 (n2 k9 abk)).trans k9;have m5:=(hoth i5 (n2 k5' abk)).trans k5';have nik:=n2 kk abk;have mk:=(hoth k nik).trans kk;refine⟨iq fun q hq=>?_,?_⟩
   ·simp only[List.mem_cons,List.not_mem_nil,or_false]at hq
    rcases hq with rfl|rfl|rfl
    ·rw[mk,kk]
    ·rw[m5,k5']
    ·rw[m9,k9]
   simp only[go_sem];refine⟨cF,fun _ _ e=>abI,?_⟩
   simp only[go_sem,r12,mk,how.rd.fit,how.rd.cells];refine⟨fun _ _ e=>abI,?_⟩
   simp only[go_sem,w1];obtain⟨F,eF⟩:∃F,upd K2 k (some (.obj [.i t.tick,y1,y2,y',y4,.s pid,.b pset,.i palg,aU ptgt,.sl (prules.map aC) .no,.sl (pkids.map aL) .no,aA pobls,.i t.version] 67))=F:=⟨_,rfl⟩;have Fk:F k=(some (.obj [.i t.tick,y1,y2,y',y4,.s pid,.b pset,.i palg,aU ptgt,.sl (prules.map aC) .no,.sl (pkids.map aL) .no,aA pobls,.i t.version] 67)):=by rw[←eF,ah]
   have Fo:∀q,q≠k→F q=K2 q:=fun q hq=>by rw[←eF,ag _ _ hq]
   have hoz:OwE 146 G F 3 y' ((t.notices++ [(⟨t.tick,o.case,x.arg⟩:Hg)]).map mu):=by
    rw[List.map_append];exact .inr ⟨id,hid,how.same (Fo id nik.symm)⟩
   have hop:ic G F y1 y2 y' y4 {t with notices:=t.notices++ [⟨t.tick,o.case,x.arg⟩]} j:=by
    refine ic.nots (h:=K) (h' :=F) hoK hoz (fun q hq=>?_) fun q hq hne hz=>?_
    ·have:id=q:=by have:=how.nid;rw[hq]at this;exact(Option.some.inj this).symm
     rw[←this];exact hor'
    ·have n1:q≠k:=fun e=>hgk ((nG k).1 (by rw[←e];exact hq))
     have n2:q≠id:=fun e=>by
      rcases hor' with h|h
      ·exact hne (by rw[e];exact h)
      ·exact hz (by rw[e];exact h)
     rw[Fo q n1,hoth q n2]
   have hgs:GSt (upd g5 i9 (some (.obj [.i x.on,.i x.kind,.s x.arg] 158))) F k {t with notices:=t.notices++ [⟨t.tick,o.case,x.arg⟩]} j:=by
    refine⟨y1,y2,y',y4,by rw[Fk,hst],ic.bJ hop fun i hi=>(nG i).1 hi,hgk,fun i b hi hb=>?_⟩
    have n2:i≠id:=fun e=>by
     have:=(nG id).1 hid;rw[←e,hb]at this;cases this
    rw[Fo i hi,hoth i n2];exact hfr i b hi hb
   rw[←eF]at hgs;refine⟨_,?_,i+1,by rw[hsn];exact hb9 hgs,abh,rfl,?_,?_,?_,?_,?_,?_⟩
   ·omega
   all_goals simp only[go_sem,r0,r3,r5,r10,r11]
  ·have hge:i=l.length:=by have:=aba e;omega
   subst hge;rw[List.take_length]at hS;simp only[go_sem];exact .same (.refl _) (hback hS)
theorem MP(s:an)(hf:Few s)(h:Heap):ai Tryz.prog 72 [cJ s] h fun r h' =>∃y1 y2 y3,r= .agg (stC s y1 y2 y3 (dR s.roles))∧ic h h' y1 y2 y3 (dR s.roles) s s.cases.length∧Ab.Sub h h' :=by
 have hst:=uS s;have hsc:∀y1 y2 y3,stC s y1 y2 y3 (dR s.roles)=stC s y1 y2 y3 (dR s.roles):=fun _ _ _=>rfl
 have hfc:=hf.cases;have hfg:=hf.log;have hfr:=hf.reviews;have hfn:=hf.notices;obtain⟨tick,cs,rv,nt,ro,⟨pid,pset,palg,ptgt,prules,pkids,pobls⟩,ver⟩:=s;simp only at hfc hfg hfr hfn;rw[hst];simp only[sL,fQ,jP,kM,dR,aW];refine abg Tryz.func72 35 [.cell 2 67] fun hwf=>?_
 simp only[go_sem];intro i1 h1;simp only[go_sem];intro i2 h2;have n21:=aH h2;have n2:=aB h2;simp only[go_sem];obtain⟨H,eH⟩:∃H,upd (upd h i1 (some (.obj [.i tick,.sl (cs.map cq) .no,.sl (rv.map iu) .no,.sl (nt.map mu) .no,.sl (ro.map dZ) .no,.s pid,.b pset,.i palg,aU ptgt,.sl (prules.map aC) .no,.sl (pkids.map aL) .no,aA pobls,.i ver] 67))) i2 (some (.obj [.i 0,.sl [] .full,.sl [] .full,.sl [] .full,.sl [] .full,.s [],.b false,.i 0,.sl [] .full,.sl [] .full,.sl [] .full,.sl [] .full,.i 0] 67))=H:=⟨_,rfl⟩;have hH:Ab.Sub h H:=acg;have g1:H i1=some (.obj [.i tick,.sl (cs.map cq) .no,.sl (rv.map iu) .no,.sl (nt.map mu) .no,.sl (ro.map dZ) .no,.s pid,.b pset,.i palg,aU ptgt,.sl (prules.map aC) .no,.sl (pkids.map aL) .no,aA pobls,.i ver] 67):=acQ;have g2:H i2=some (.obj [.i 0,.sl [] .full,.sl [] .full,.sl [] .full,.sl [] .full,.s [],.b false,.i 0,.sl [] .full,.sl [] .full,.sl [] .full,.sl [] .full,.i 0] 67):=acJ;rw[eH];clear eH;refine .stage (hm1 i1 (.obj [.i tick,.sl (cs.map cq) .no,.sl (rv.map iu) .no,.sl (nt.map mu) .no,.sl (ro.map dZ) .no,.s pid,.b pset,.i palg,aU ptgt,.sl (prules.map aC) .no,.sl (pkids.map aL) .no,aA pobls,.i ver] 67)) [0,1,3,4,6,7,2,9,5,8] [10,11,12,13,14] (.hm1 g1) abl ?_;simp only[go_sem,fR];refine(vl _ (rv.map iu) H (eJ iu 7 (fun _=>rfl) _ _) abi).mono fun z2 H1 ⟨o2,s1⟩=>?_
 refine⟨.hm1 (s1 _ _ g1),?_⟩;simp only[go_sem];refine(vj _ (nt.map mu) H1 (eJ mu 3 (fun _=>rfl) _ _) abi).mono fun z3 H2 ⟨o3,s2⟩=>?_
 refine⟨.hm1 (s2 _ _ (s1 _ _ g1)),?_⟩;simp only[go_sem];refine(zM _ (cs.map cq) H2 (eJ cq 5 (fun _=>rfl) _ _) abi).mono fun z1 H3 ⟨o1,s3⟩=>?_
 have s03:Ab.Sub H H3:=s1.trans (s2.trans s3);have q1' :=s03 _ _ g1;have q2' :=s03 _ _ g2;refine⟨.hm1 q1',cF,(fun _ _ e=>abI),?_⟩
 simp only[go_sem,q1',o1.rd.fit,o1.rd.cells,o2.rd.fit,o2.rd.cells,o3.rd.fit,o3.rd.cells];refine⟨fun _ _ e=>abI,fun _ _ e=>abI,fun _ _ e=>abI,?_⟩
 obtain⟨M,eM⟩:∃M,upd H3 i1 (some (.obj [.i tick,z1,z2,z3,.sl (ro.map dZ) .no,.s pid,.b pset,.i palg,aU ptgt,.sl (prules.map aC) .no,.sl (pkids.map aL) .no,aA pobls,.i ver] 67))=M:=⟨_,rfl⟩;have oM:∀q,q≠i1→M q=H3 q:=fun q hq=>by rw[←eM,ag _ _ hq]
 have m1:M i1=some (.obj [.i tick,z1,z2,z3,.sl (ro.map dZ) .no,.s pid,.b pset,.i palg,aU ptgt,.sl (prules.map aC) .no,.sl (pkids.map aL) .no,aA pobls,.i ver] 67):=by rw[←eM,ah]
 have m2:=(oM i2 n21).trans q2';have hM:Ab.Sub h M:=by rw[←eM];exact(hH.trans s03).put h1 _
 have new:∀ {tb:TypeId} {z:AV} {xs:List AV} {n:Nat} {g:Heap},OwE tb g H3 n z xs→Ab.Sub H g→OwE tb h M n z xs:=fun w hg=>(w.less (hH.trans hg)).keep fun id e=>oM id (cE (w.nid e).1 (hg _ _ g1))
 have w1:=new o1 (s1.trans s2);have w2:=new (o2.sub (s2.trans s3)) (.refl _);have w3:=new (o3.sub s3) s1;have a12:apart z1 z2:=(dQ o1 (o2.there s2.some)).symm;have a13:apart z1 z3:=(dQ o1 (o3.there fun k hk=>hk)).symm
 have a23:apart z2 z3:=dQ o3 (o2.there fun k hk=>hk)
 simp only[go_sem,o1.rd.len,aa7];rw[eM];have h12:i1≠i2:=n21.symm;refine .intro (fun m ρ G=>∃i:Nat,Ab.Sub M G∧i≤cs.length∧m=cs.length - i∧lk ρ 1=some (.ptr i1 0)∧lk ρ 2=some (.ptr i2 0)∧lk ρ 18=some z1∧lk ρ 19=some (.i cs.length)∧lk ρ 20=some (.i i)) cs.length ?_ ?_
 ·refine⟨0,.refl _,abh,rfl,?_,?_,?_,?_,?_⟩<;>simp only[go_sem]
 ·rintro m ρ G ⟨i,hs,hi,rfl,r1,r2,r18,r19,r20⟩
  have v1:=w1.sub hs;simp only[go_sem,r19,r20];refine .intro (fun e=>?_) (fun e=>?_)
  ·have hlt:i<cs.length:=abe e
   have w1' :IntKind.i64.wrap ((i:Int)+1)=((i+1:Nat):Int):=abv;have hfl:=hfg _ (abc hlt);have hxi:(cs.map cq)[i]'abi=cq cs[i]:=aa8 ..;simp only[go_sem,r18,r20];refine v1.rd.idx (U:=U) (e:=134) i rfl abi mT abk fun p hp1=>?_
   have hld:=hp1.all (U:=U) (ty:=134) abk (by rw[mT,hxi];rfl) (by simp only[go_sem];rw[hxi];rfl)
   obtain⟨c,ec⟩:∃c,cs[i]=c:=⟨_,rfl⟩;rw[hxi,ec]at hld;rw[ec]at hfl hxi;simp only[cq,mG,fZ,rS]at hld;simp only[go_sem,hld];intro i4 h4;have k1:=hs _ _ m1;have n41:i4≠i1:=cE h4 k1;obtain⟨G4,eG4⟩:∃G4,upd G i4 (some (.obj [.s c.id,.s c.owner,.s c.state,.sl (c.fields.map bM) .no,.sl (c.log.map ig) .no] 134))=G4:=⟨_,rfl⟩;have sG:Ab.Sub G G4:=aey;have p1:=sG _ _ k1;have p4:G4 i4=some (.obj [.s c.id,.s c.owner,.s c.state,.sl (c.fields.map bM) .no,.sl (c.log.map ig) .no] 134):=by rw[←eG4,ah]
   simp only[go_sem];rw[eG4];refine .stage (hm2 i1 (.obj [.i tick,z1,z2,z3,.sl (ro.map dZ) .no,.s pid,.b pset,.i palg,aU ptgt,.sl (prules.map aC) .no,.sl (pkids.map aL) .no,aA pobls,.i ver] 67) i4 (.obj [.s c.id,.s c.owner,.s c.state,.sl (c.fields.map bM) .no,.sl (c.log.map ig) .no] 134)) [0,1,2,3,4,5,6,7] [8] (.hm2 p1 p4) abl ?_;simp only[go_sem,r1,oo _ _ n41.symm,ot];refine(vW _ (c.log.map ig) G4 (eJ ig 3 (fun _=>rfl) _ _) abi (bp (fun _=>rfl) _)).pthen ?_
   refine⟨.hm2 p1 p4,?_⟩;simp only[go_sem];obtain⟨id1,hg1,u1⟩:=(v1.sub sG).ow abi;refine u1.idx (U:=U) (e:=134) i rfl abi mT abk ?_;simp only[go_sem];refine⟨cF,(fun _ _ e=>abI),?_⟩
   have u1' :=u1;obtain⟨cap,rest,ey,hid,hr,hcap,hsz⟩:=u1';have hbd:i*5+5≤(aq (cs.map cq)++rest).length:=by
    grind [abb,aX,aa7]
   have e5:List.take (i*5+4) (aq (cs.map cq)++rest)++ [.sl (c.log.map ig) .no]++List.drop (i*5+4+1) (aq (cs.map cq)++rest)=aq (cs.map cq)++rest:=by
    refine(kO hsz i abi 4 [.sl (c.log.map ig) .no] (aa6 rfl)).trans ?_;rw[qD];rw[List.getElem?_eq_getElem abi,hxi];rfl
   simp only[go_sem,r20,hid];rw[e5,uX hid];refine⟨abh,(fun _ _ e=>abI),?_⟩
   simp only[go_sem,w1'];refine⟨_,?_,i+1,hs.trans sG,abh,rfl,?_,?_,?_,?_,?_⟩
   ·omega
   all_goals simp only[go_sem,r1,r2,r18,r19]
  ·have hge:i=cs.length:=by grind
   have k1:=hs _ _ m1;have k2:=hs _ _ m2;have n21' :i2≠i1:=n21;simp only[go_sem,r1,r2,k1,k2];have kp:∀b q,h q=none→M q≠none→q≠i2→upd G i2 b q=M q:=fun b q a c d=>by
    rw[ag _ _ d];cases hh:M q with
    |none=>grind
    |some b=>exact hs _ _ hh
   have ne2:∀ {tb:TypeId} {z:AV} {xs:List AV} {n:Nat},OwE tb h M n z xs→tb≠67→∀q,nid z=some q→q≠i2:=fun w ht q e=>lg (w.nid e).2.2 m2 ht.symm
   refine .mk _ (.refl _) (.refl _) ⟨z1,z2,z3,by simp[stC,fO,aW]<;>rfl,⟨⟨cs.map cq,w1.keep fun q e=>kp _ q (w1.nid e).1 (w1.nid e).2.1 (ne2 w1 abk q e),abp,fun j a b _=>aa8 ..,fun a b=>absurd b (Nat.lt_irrefl _)⟩,w2.keep fun q e=>kp _ q (w2.nid e).1 (w2.nid e).2.1 (ne2 w2 abk q e),w3.keep fun q e=>kp _ q (w3.nid e).1 (w3.nid e).2.1 (ne2 w3 abk q e),.inl rfl,a12,a13,fun q _ e=>abI,a23,fun q _ e=>abI,fun q _ e=>abI⟩,(hM.trans hs).put n2 _⟩
end Go.Proofs.YtcochaoekecfdaaGreatDoor
namespace Go.Bf
open Go Go.Ab Go.Proofs.YtcochaoekecfdaaGreatDoor
def nj(r:kV):List AV:=[.i r.err,aQ r.mark,.b r.glass,.i r.val.kind,.i r.val.n,.s r.val.s,.b r.hidden,.i r.at_]
def xo(d:pG):List AV:=opC d.op++ [.i d.version,aQ d.mark,.b d.glass,aA d.obls]
def mW:List AV:=[.i 0,.v (.complex .f64 0 0),.b false,.i 0,.i 0,.s [],.b false,.i 0]
def jv(x:an×kV×pG×Int):AV:=.tup [cJ x.1,.agg (nj x.2.1),.agg (xo x.2.2.1),.i x.2.2.2]
theorem zZ{cs ds:List aK}(h:ds.map (·.id)=cs.map (·.id))(id:Txt):findD ds id=findD cs id:=by
 have e:∀l:List aK,findD l id=(l.map (·.id)).findIdx fun x=>geB x id:=fun l=>by
  rw[List.findIdx_map];rfl
 rw[e,e,h]
theorem Ki(id:Txt):geB id id=true:=by
 have:Op.bytesLess id id=false:=by simpa[lt]using lt_irrefl id
 simp[geB,this]
theorem HA{s:an}{o:OpD}(hr:bL s o=0):findD (dN aP s o).cases o.case=findD s.cases o.case:=by
 unfold dN;rw[if_pos hr];unfold doD
 by_cases k1:o.kind=1
 ·simp only[k1,if_true]
  obtain⟨f,ef⟩:∃f,findD s.cases o.case=f:=⟨_,rfl⟩;have hf:f≤s.cases.length:=by rw[←ef];exact List.findIdx_le_length
  rw[ef];refine(List.findIdx_eq abi).2 ⟨?_,fun j hj=>?_⟩
  ·have:((List.take f s.cases++ [iU s ⟨o.case,o.subj,jj,[],[]⟩ o.subj [110,101,119]]++List.drop f s.cases)[f]?)=some (iU s ⟨o.case,o.subj,jj,[],[]⟩ o.subj [110,101,119]):=by
    grind
   rw[(List.getElem_eq_iff _).2 this];exact Ki _
  ·have hj2:j<s.cases.length:=by omega
   have:((List.take f s.cases++ [iU s ⟨o.case,o.subj,jj,[],[]⟩ o.subj [110,101,119]]++List.drop f s.cases)[j]?)=some s.cases[j]:=by
    grind
   rw[(List.getElem_eq_iff _).2 this];have h3:j<s.cases.findIdx fun c=>geB c.id o.case:=by grind [findD]
   simpa using List.not_of_lt_findIdx h3
 ·by_cases k3:o.kind=3
  ·simp only[k3,show¬(3:Int)=1 by decide,if_false,if_true]
   exact zZ (jW (f:=fun c=>iU s {c with fields:=eT c.fields o.field o.val} o.subj [119,114,105,116,101]) (g:=fun c:aK=>c.id) fun c=>rfl) _
  ·by_cases k4:o.kind=4
   ·simp only[k4,show¬(4:Int)=1 by decide,show¬(4:Int)=3 by decide,if_false,if_true]
    exact zZ (jW (f:=fun c=>iU s {c with state:=o.to} o.subj o.to) (g:=fun c:aK=>c.id) fun c=>rfl) _
   grind
theorem MH{k:Nat}{s:an}{o:OpD}(h:cX k s)(hr:bL s o=0)(hx:ij (dN aP s o).cases o.case<(dN aP s o).cases.length):findD s.cases o.case=ij (dN aP s o).cases o.case:=by
 rw[←HA hr];exact EU (oS o h).asc hx
theorem IG{t:Txt}(h:(aP t).2.1=0):(aP t).2.2=0:=by
 unfold aP at h⊢;cases hl:rR t with
 |bad e a=>
  rw[hl]at h;simp only at h;have:=(xV hl).1;omega
 |ok ts=>
  simp only[yj]at h⊢
  grind
end Go.Bf
namespace Go.Proofs.YtcochaoekecfdaaGreatDoor
open Go Go.Ab Go.Bf
theorem IK(c:aK):cI (cq c)=true:=by
 simp[cq,mG,cI,gJ,fZ,rS,bp (f:=bM) (fun _=>rfl),bp (f:=ig) (fun _=>rfl)]
theorem PV{g h:Heap}(s:an):Frz g h (cJ s) (cJ s):=by
 have:=uh (g:=g) (h:=h) (s:=s) (y1:=fQ s.cases) (y2:=jP s.reviews) (y3:=kM s.notices) (y4:=dR s.roles) (.pure (by grind [fQ,cI,bp,IK])) (.pure (by simp only[jP,cI];exact bp (fun _=>rfl) _)) (.pure (by simp only[kM,cI];exact bp (fun _=>rfl) _)) (.pure (by simp only[dR,cI];exact bp (fun _=>rfl) _))
 exact abZ
theorem Kg{g h:Heap}(l:List cC)(q:Perm):Frz g h (.sl (l.map bn) q) (aA l):=.sl _ _ _ rfl abh fun i h1 h2 j h3 h4=>by
 refine .pure ?_;have:cI (l.map bn)[i]=true:=aby;exact mN this _ abp
theorem z7{g h:Heap}{x:AV}{S:an}(r:kV)(d:pG)(e:Int)(a:Frz g h x (cJ S))(q:Perm):Frz g h (.tup [x,.agg (nj r),.agg (opC d.op++ [.i d.version,aQ d.mark,.b d.glass,.sl (d.obls.map bn) q]),.i e]) (jv (S,r,d,e)):=by
 refine .tup _ _ rfl fun i h1 h2=>?_
 rcases i with _|_|_|_|i
 ·exact a
 ·exact abC
 ·refine .agg _ _ abx fun j h3 h4=>?_
  rcases j with _|_|_|_|_|_|_|_|_|_|_|_|_|_|_|_|j
  ·exact abC
  ·exact abC
  ·exact abC
  ·exact abC
  ·exact abC
  ·exact abC
  ·exact abC
  ·exact abC
  ·exact abC
  ·exact abC
  ·exact abC
  ·exact abC
  ·exact abC
  ·exact abC
  ·exact abC
  ·exact Kg d.obls q
  ·simp[opC]at h3;omega
 ·exact abC
 grind
theorem GSt.put{g H:Heap}{k:Nat}{s:an}{j:Nat}(hG:GSt g H k s j){i:Nat}(hi:i≠k)(hgi:g i≠none)(b:Blk):GSt (upd g i (some b)) (upd H i (some b)) k s j:=by
 obtain⟨y1,y2,y3,y4,hk,ho,hgk,hfr⟩:=hG;refine⟨y1,y2,y3,y4,abQ,(ho.more (g:=upd g i (some b)) fun q hq _=>abQ).keep fun q hq _=>ag _ _ fun e=>?_,abQ,fun q c hq hc=>?_⟩
 ·grind [ah]
 grind [ah,ag]
theorem GSt.at{g H:Heap}{k:Nat}{s:an}{j:Nat}(hG:GSt g H k s j){i:Nat}{b:Blk}(hi:i≠k)(hb:g i=some b):H i=some b:=by
 obtain⟨_,_,_,_,_,_,_,hfr⟩:=hG
 grind
theorem GSt.sub{f g H:Heap}{k:Nat}{s:an}{j:Nat}(hG:GSt g H k s j)(hs:Ab.Sub f g)(hk:f k=none):Ab.Sub f H:=fun i b hi=>by
 obtain⟨_,_,_,_,_,_,_,hfr⟩:=hG;exact hfr i b abi (hs i b hi)
theorem GSt.same{g H H' :Heap}{k:Nat}{s:an}{j:Nat}(hG:GSt g H k s j)(hs:Ab.Sub H H'):GSt g H' k s j:=by
 obtain⟨y1,y2,y3,y4,hk,ho,hgk,hfr⟩:=hG;exact⟨y1,y2,y3,y4,hs _ _ hk,ho.keep fun q _ hne=>by
  cases hh:H q with
  |none=>grind
  |some b=>exact hs _ _ hh,hgk,fun i b hi hb=>hs _ _ (hfr i b hi hb)⟩
theorem qG{s:an}{pid:Txt}{pset:Bool}{palg:Int}{ptgt:fU}{prules:List cM}{pkids:List bI}{pobls:List cC}(hpp:s.policy= .mk pid pset palg ptgt prules pkids pobls)(y1 y2 y3 y4:AV):stC s y1 y2 y3 y4= [.i s.tick,y1,y2,y3,y4,.s pid,.b pset,.i palg,.sl (ptgt.map cO) .no,.sl (prules.map aC) .no,.sl (pkids.map aL) .no,.sl (pobls.map bn) .no,.i s.version]:=by
 simp[stC,hpp,fO,aW,aU,aA]
theorem Le(p:bI):∃a b c d e f g,p= .mk a b c d e f g:=by cases p;simp
theorem oe{k:Nat}(s:an)(hG:nS k s)(hk:k≤1000)(o:OpD)(ho:nw o)(h:Heap)(he:lu h):ai Tryz.prog 28 [cJ s,opA o] h fun r h' =>r=jv (bu s o)∧h' =h:=
 ai.freeze fun g hg _=>by
 replace he:=he.sub hg;obtain⟨pid,pset,palg,ptgt,prules,pkids,pobls,hpp⟩:∃a b c d e f g,s.policy= .mk a b c d e f g:=by cases s.policy;exact⟨_,_,_,_,_,_,_,rfl⟩
 have hst:cJ s= .agg [.i s.tick,.sl (s.cases.map cq) .no,.sl (s.reviews.map iu) .no,.sl (s.notices.map mu) .no,.sl (s.roles.map dZ) .no,.s pid,.b pset,.i palg,.sl (ptgt.map cO) .no,.sl (prules.map aC) .no,.sl (pkids.map aL) .no,.sl (pobls.map bn) .no,.i s.version]:=by
  simp[cJ,fO,hpp,fQ,jP,kM,dR,aW,aU,aA]
 rw[hst];refine ai.of_wp hU Tryz.func28 rfl abl 131 rfl [.cell 4 67,.cell 5 36,.cell 6 71,.tmp 7] rfl (aa6 rfl) ?_;refine .one hU hm ?_;simp -implicitDefEqProofs only[go_sem,opA,opC];intro i2 h2;simp -implicitDefEqProofs only[go_sem];obtain⟨H2,e2⟩:∃H2,upd g i2 (some (.obj [.i s.tick,.sl (s.cases.map cq) .no,.sl (s.reviews.map iu) .no,.sl (s.notices.map mu) .no,.sl (s.roles.map dZ) .no,.s pid,.b pset,.i palg,.sl (ptgt.map cO) .no,.sl (prules.map aC) .no,.sl (pkids.map aL) .no,.sl (pobls.map bn) .no,.i s.version] 67))=H2:=⟨_,rfl⟩;have s2:Ab.Sub g H2:=by rw[←e2];exact .ak h2
 have b2:H2 i2=some (.obj [.i s.tick,.sl (s.cases.map cq) .no,.sl (s.reviews.map iu) .no,.sl (s.notices.map mu) .no,.sl (s.roles.map dZ) .no,.s pid,.b pset,.i palg,.sl (ptgt.map cO) .no,.sl (prules.map aC) .no,.sl (pkids.map aL) .no,.sl (pobls.map bn) .no,.i s.version] 67):=by rw[←e2,ah]
 have q2:g i2=none:=h2;have sg:Ab.Sub g H2:=s2;rw[e2];clear e2;intro i3 h3;simp -implicitDefEqProofs only[go_sem];obtain⟨H3,e3⟩:∃H3,upd H2 i3 (some (.obj [.i o.kind,.s o.subj,.s o.case,.s o.field,.s o.to,.i o.val.kind,.i o.val.n,.s o.val.s,.i o.review,.s o.text,.s o.reason,.b o.glass] 32))=H3:=⟨_,rfl⟩;have s3:Ab.Sub H2 H3:=by rw[←e3];exact .ak h3
 have n3_2:i3≠i2:=fun e=>by rw[e,b2]at h3;cases h3
 replace b2:=s3 _ _ b2;have b3:H3 i3=some (.obj [.i o.kind,.s o.subj,.s o.case,.s o.field,.s o.to,.i o.val.kind,.i o.val.n,.s o.val.s,.i o.review,.s o.text,.s o.reason,.b o.glass] 32):=by rw[←e3,ah]
 have q3:g i3=none:=sg.none h3;have sg:Ab.Sub g H3:=sg.trans s3;rw[e3];clear e3;intro i4 h4;simp -implicitDefEqProofs only[go_sem];obtain⟨H4,e4⟩:∃H4,upd H3 i4 (some (.obj [.i 0,.sl [] .full,.sl [] .full,.sl [] .full,.sl [] .full,.s [],.b false,.i 0,.sl [] .full,.sl [] .full,.sl [] .full,.sl [] .full,.i 0] 67))=H4:=⟨_,rfl⟩;have s4:Ab.Sub H3 H4:=by rw[←e4];exact .ak h4
 have n4_2:i4≠i2:=fun e=>by rw[e,b2]at h4;cases h4
 have n4_3:i4≠i3:=fun e=>by rw[e,b3]at h4;cases h4
 replace b2:=s4 _ _ b2;replace b3:=s4 _ _ b3;have b4:H4 i4=some (.obj [.i 0,.sl [] .full,.sl [] .full,.sl [] .full,.sl [] .full,.s [],.b false,.i 0,.sl [] .full,.sl [] .full,.sl [] .full,.sl [] .full,.i 0] 67):=by rw[←e4,ah]
 have q4:g i4=none:=sg.none h4;have sg:Ab.Sub g H4:=sg.trans s4;rw[e4];clear e4;intro i5 h5;simp -implicitDefEqProofs only[go_sem];obtain⟨H5,e5⟩:∃H5,upd H4 i5 (some (.obj [.i 0,.v (.complex .f64 0 0),.b false,.i 0,.i 0,.s [],.b false,.i 0] 36))=H5:=⟨_,rfl⟩;have s5:Ab.Sub H4 H5:=by rw[←e5];exact .ak h5
 have n5_2:i5≠i2:=fun e=>by rw[e,b2]at h5;cases h5
 have n5_3:i5≠i3:=fun e=>by rw[e,b3]at h5;cases h5
 have n5_4:i5≠i4:=fun e=>by rw[e,b4]at h5;cases h5
 replace b2:=s5 _ _ b2;replace b3:=s5 _ _ b3;replace b4:=s5 _ _ b4;have b5:H5 i5=some (.obj [.i 0,.v (.complex .f64 0 0),.b false,.i 0,.i 0,.s [],.b false,.i 0] 36):=by rw[←e5,ah]
 have q5:g i5=none:=sg.none h5;have sg:Ab.Sub g H5:=sg.trans s5;rw[e5];clear e5;intro i6 h6;simp -implicitDefEqProofs only[go_sem];obtain⟨H6,e6⟩:∃H6,upd H5 i6 (some (.obj [.i 0,.s [],.s [],.s [],.s [],.i 0,.i 0,.s [],.i 0,.s [],.s [],.b false,.i 0,.v (.complex .f64 0 0),.b false,.sl [] .full] 71))=H6:=⟨_,rfl⟩;have s6:Ab.Sub H5 H6:=by rw[←e6];exact .ak h6
 have n6_2:i6≠i2:=fun e=>by rw[e,b2]at h6;cases h6
 have n6_3:i6≠i3:=fun e=>by rw[e,b3]at h6;cases h6
 have n6_4:i6≠i4:=fun e=>by rw[e,b4]at h6;cases h6
 have n6_5:i6≠i5:=fun e=>by rw[e,b5]at h6;cases h6
 replace b2:=s6 _ _ b2;replace b3:=s6 _ _ b3;replace b4:=s6 _ _ b4;replace b5:=s6 _ _ b5;have b6:H6 i6=some (.obj [.i 0,.s [],.s [],.s [],.s [],.i 0,.i 0,.s [],.i 0,.s [],.s [],.b false,.i 0,.v (.complex .f64 0 0),.b false,.sl [] .full] 71):=by rw[←e6,ah]
 have q6:g i6=none:=sg.none h6;have sg:Ab.Sub g H6:=sg.trans s6;rw[e6];clear e6;refine WP.Ly hU hm 0 (fun(_:Nat) (ρ:Env) (H' :Heap)=>∃(e a:Int),Ab.Sub g H'∧H' i2=some (.obj [.i s.tick,.sl (s.cases.map cq) .no,.sl (s.reviews.map iu) .no,.sl (s.notices.map mu) .no,.sl (s.roles.map dZ) .no,.s pid,.b pset,.i palg,.sl (ptgt.map cO) .no,.sl (prules.map aC) .no,.sl (pkids.map aL) .no,.sl (pobls.map bn) .no,.i s.version] 67)∧H' i4=some (.obj [.i 0,.sl [] .full,.sl [] .full,.sl [] .full,.sl [] .full,.s [],.b false,.i 0,.sl [] .full,.sl [] .full,.sl [] .full,.sl [] .full,.i 0] 67)∧H' i5=some (.obj [.i 0,.v (.complex .f64 0 0),.b false,.i 0,.i 0,.s [],.b false,.i 0] 36)∧H' i6=some (.obj [.i 0,.s [],.s [],.s [],.s [],.i 0,.i 0,.s [],.i 0,.s [],.s [],.b false,.i 0,.v (.complex .f64 0 0),.b false,.sl [] .full] 71)∧lk ρ 2=some (.ptr i2 0)∧lk ρ 4=some (.ptr i4 0)∧lk ρ 5=some (.ptr i5 0)∧lk ρ 6=some (.ptr i6 0)∧lk ρ 12=some (.i e)∧lk ρ 13=some (.i a)∧bu s o=(s,⟨e,naM,false,ax,false,a⟩,wN,e)) rfl ?_ ?_
 ·rintro m ρ H' ⟨e,a,sg',b2,b4,b5,b6,r2,r4,r5,r6,r12,r13,hgd⟩
  refine .vc hU hm ?_;simp -implicitDefEqProofs only[go_sem,r2,r4,r5,r6,r12,r13,b2,b4,b5,b6,aj,n5_4,n5_4.symm,n6_4,n6_4.symm,n6_5,n6_5.symm];refine .mk _ (.refl _) (.refl _) ⟨((sg'.put q4 _).put q5 _).put q6 _,_,?_,rfl⟩;rw[hgd];exact z7 (S:=s) ⟨e,naM,false,ax,false,a⟩ wN e (by rw[←hst];exact PV s) .full
 intro _;refine .one hU hm ?_;simp -implicitDefEqProofs only[go_sem];intro i8 h8;simp -implicitDefEqProofs only[go_sem];obtain⟨H8,e8⟩:∃H8,upd H6 i8 (some (.obj [.v (.complex .f64 0 0),.sl [] .full] 119))=H8:=⟨_,rfl⟩;have s8:Ab.Sub H6 H8:=by rw[←e8];exact .ak h8
 have n8_2:i8≠i2:=fun e=>by rw[e,b2]at h8;cases h8
 have n8_3:i8≠i3:=fun e=>by rw[e,b3]at h8;cases h8
 have n8_4:i8≠i4:=fun e=>by rw[e,b4]at h8;cases h8
 have n8_5:i8≠i5:=fun e=>by rw[e,b5]at h8;cases h8
 have n8_6:i8≠i6:=fun e=>by rw[e,b6]at h8;cases h8
 replace b2:=s8 _ _ b2;replace b3:=s8 _ _ b3;replace b4:=s8 _ _ b4;replace b5:=s8 _ _ b5;replace b6:=s8 _ _ b6;have b8:H8 i8=some (.obj [.v (.complex .f64 0 0),.sl [] .full] 119):=by rw[←e8,ah]
 have q8:g i8=none:=sg.none h8;have sg:Ab.Sub g H8:=sg.trans s8;rw[e8];clear e8;refine .one hU hm ?_;simp -implicitDefEqProofs only[go_sem];intro i9 h9;simp -implicitDefEqProofs only[go_sem];obtain⟨H9,e9⟩:∃H9,upd H8 i9 (some (.obj [.i 0,.v (.complex .f64 0 0),.b false,.i 0,.i 0,.s [],.b false,.i 0] 36))=H9:=⟨_,rfl⟩;have s9:Ab.Sub H8 H9:=by rw[←e9];exact .ak h9
 have n9_2:i9≠i2:=fun e=>by rw[e,b2]at h9;cases h9
 have n9_3:i9≠i3:=fun e=>by rw[e,b3]at h9;cases h9
 have n9_4:i9≠i4:=fun e=>by rw[e,b4]at h9;cases h9
 have n9_5:i9≠i5:=fun e=>by rw[e,b5]at h9;cases h9
 have n9_6:i9≠i6:=fun e=>by rw[e,b6]at h9;cases h9
 have n9_8:i9≠i8:=fun e=>by rw[e,b8]at h9;cases h9
 replace b2:=s9 _ _ b2;replace b3:=s9 _ _ b3;replace b4:=s9 _ _ b4;replace b5:=s9 _ _ b5;replace b6:=s9 _ _ b6;replace b8:=s9 _ _ b8;have b9:H9 i9=some (.obj [.i 0,.v (.complex .f64 0 0),.b false,.i 0,.i 0,.s [],.b false,.i 0] 36):=by rw[←e9,ah]
 have q9:g i9=none:=sg.none h9;have sg:Ab.Sub g H9:=sg.trans s9;rw[e9];clear e9;refine .one hU hm ?_;simp -implicitDefEqProofs only[go_sem];intro i10 h10;simp -implicitDefEqProofs only[go_sem];obtain⟨H10,e10⟩:∃H10,upd H9 i10 (some (.obj [.i 0,.sl [] .full,.sl [] .full,.sl [] .full,.sl [] .full,.s [],.b false,.i 0,.sl [] .full,.sl [] .full,.sl [] .full,.sl [] .full,.i 0] 67))=H10:=⟨_,rfl⟩;have s10:Ab.Sub H9 H10:=by rw[←e10];exact .ak h10
 have n10_2:i10≠i2:=fun e=>by rw[e,b2]at h10;cases h10
 have n10_3:i10≠i3:=fun e=>by rw[e,b3]at h10;cases h10
 have n10_4:i10≠i4:=fun e=>by rw[e,b4]at h10;cases h10
 have n10_5:i10≠i5:=fun e=>by rw[e,b5]at h10;cases h10
 have n10_6:i10≠i6:=fun e=>by rw[e,b6]at h10;cases h10
 have n10_8:i10≠i8:=fun e=>by rw[e,b8]at h10;cases h10
 have n10_9:i10≠i9:=fun e=>by rw[e,b9]at h10;cases h10
 replace b2:=s10 _ _ b2;replace b3:=s10 _ _ b3;replace b4:=s10 _ _ b4;replace b5:=s10 _ _ b5;replace b6:=s10 _ _ b6;replace b8:=s10 _ _ b8;replace b9:=s10 _ _ b9;have b10:H10 i10=some (.obj [.i 0,.sl [] .full,.sl [] .full,.sl [] .full,.sl [] .full,.s [],.b false,.i 0,.sl [] .full,.sl [] .full,.sl [] .full,.sl [] .full,.i 0] 67):=by rw[←e10,ah]
 have q10:g i10=none:=sg.none h10;have sg:Ab.Sub g H10:=sg.trans s10;rw[e10];clear e10;refine .one hU hm ?_;simp -implicitDefEqProofs only[go_sem];have hrd:=fun G=>DB (rdS G s) o hG.few ho.2.2.2 hG.FC
 have hpa:=fun(G:Heap) (hs:Ab.Sub g G)=>ym o.text G (he.sub hs)
 rw[hst]at hrd;simp only[opA,opC]at hrd;refine .one hU hm ?_;simp -implicitDefEqProofs only[go_sem,b2,b3];refine(hrd _).pthen ?_;simp -implicitDefEqProofs only[go_sem];refine .cut (fun ρ H' =>H' =H10∧lk ρ 2=some (.ptr i2 0)∧lk ρ 3=some (.ptr i3 0)∧lk ρ 4=some (.ptr i4 0)∧lk ρ 5=some (.ptr i5 0)∧lk ρ 6=some (.ptr i6 0)∧lk ρ 8=some (.ptr i8 0)∧lk ρ 9=some (.ptr i9 0)∧lk ρ 10=some (.ptr i10 0)∧lk ρ 11=some (.b false)∧lk ρ 12=some (.v (.int .i64 (jK s o).1))∧lk ρ 13=some (.v (.int .i64 (jK s o).2))) ?_ ?_
 ·refine .vc hU hm ?_
  cases dr:(bL s o==0)
  ·have er:bL s o≠0:=by simpa using dr
   have ep:jK s o=(bL s o,0):=by unfold jK;rw[if_neg fun hh=>er hh.1]
   simp -implicitDefEqProofs only[go_sem,dr];refine⟨rfl,?_,?_,?_,?_,?_,?_,?_,?_,?_,?_,?_⟩<;>simp -implicitDefEqProofs only[go_sem,ep]
  have er:bL s o=0:=by simpa using dr
  cases d7:(o.kind==7)
  ·have e7:o.kind≠7:=by simpa using d7
   have ep:jK s o=(bL s o,0):=by unfold jK;rw[if_neg fun hh=>e7 hh.2]
   simp -implicitDefEqProofs only[go_sem,b3,dr,d7];refine⟨rfl,?_,?_,?_,?_,?_,?_,?_,?_,?_,?_,?_⟩<;>simp -implicitDefEqProofs only[go_sem,ep]
  ·have e7:o.kind=7:=by simpa using d7
   have ep:jK s o=((aP o.text).2.1,(aP o.text).2.2):=by unfold jK;rw[if_pos ⟨er,e7⟩]
   simp -implicitDefEqProofs only[go_sem,b3,dr,d7];refine(hpa _ sg).pthen ?_;obtain⟨⟨pp,e,a⟩,epp⟩:∃x,aP o.text=x:=⟨_,rfl⟩;rw[epp]at ep;simp -implicitDefEqProofs only[go_sem,jC,epp];refine⟨rfl,?_,?_,?_,?_,?_,?_,?_,?_,?_,?_,?_⟩<;>simp -implicitDefEqProofs only[go_sem,ep]
 rintro ρ H' ⟨rfl,r2,r3,r4,r5,r6,r8,r9,r10,r11,r12,r13⟩
 refine .one hU hm ?_;cases de:((jK s o).1 !=0)
 case true=>
  have ee:(jK s o).1≠0:=by simpa using de
  simp -implicitDefEqProofs only[go_sem,r2,r4,r5,r6,r12,r13,de];exact⟨0,(jK s o).1,(jK s o).2,sg,b2,b4,b5,b6,rfl,rfl,by unfold bu;rw[if_pos ee]⟩
 have ee:(jK s o).1=0:=by simpa using de
 simp -implicitDefEqProofs only[go_sem,r12,de];obtain⟨hr0,hform,hpar⟩:=tE ee;have hfg:=JD (Hl hG.tocX hform);have hask:=fun G=>Pk (rdS G s) o hG.few ho.1
 have hdec:=fun G=>CT s.policy hG.pol (fy s o) hfg G
 have hm6:=Bj (fy s o) s.policy;have hol:=J8 (fy s o) hG.mc;have hmk:gC s o=fq (fy s o) s.policy:=rfl;obtain⟨⟨m,ob⟩,em⟩:∃x,fq (fy s o) s.policy=x:=⟨_,rfl⟩;rw[em]at hdec hm6 hol hmk;simp only at hm6 hol;rw[hpp]at hdec;simp only[aL,aU,aA,aW,bH,rsA,aQ]at hdec;rw[hst]at hask;simp only[opA,opC,bH]at hask;have p2:=(bz (H:=H') (l:=[i2,i3]) (show i2∈ [i2,i3] by simp)).trans b2
 have p3:=(bz (H:=H') (l:=[i2,i3]) (show i3∈ [i2,i3] by simp)).trans b3
 refine .one hU hm ?_;simp -implicitDefEqProofs only[go_sem];refine .calls (pick H' [i2,i3]) [0,1,2,3,4,5,6,7,8,9,10] bw abl rfl ?_;simp -implicitDefEqProofs only[go_sem,r2,r3,p2,p3];refine(hask _).pthen ?_;refine⟨bw,?_⟩;simp -implicitDefEqProofs only[go_sem];refine(hdec _).pthen ?_;refine⟨bw,?_⟩;simp -implicitDefEqProofs only[go_sem,r8,b8];refine⟨bw.put (by simp[pick,n8_2,n8_3]) _,?_⟩
 obtain⟨H11,eH11⟩:∃H11,upd H' i8 (some (.obj [.v (.complex .f64 (hbit m.1) (hbit m.2)),.sl (ob.map bn) .no] 119))=H11:=⟨_,rfl⟩;replace b2:H11 i2=some (.obj [.i s.tick,.sl (s.cases.map cq) .no,.sl (s.reviews.map iu) .no,.sl (s.notices.map mu) .no,.sl (s.roles.map dZ) .no,.s pid,.b pset,.i palg,.sl (ptgt.map cO) .no,.sl (prules.map aC) .no,.sl (pkids.map aL) .no,.sl (pobls.map bn) .no,.i s.version] 67):=by rw[←eH11,ag _ _ n8_2.symm];exact b2
 replace b3:H11 i3=some (.obj [.i o.kind,.s o.subj,.s o.case,.s o.field,.s o.to,.i o.val.kind,.i o.val.n,.s o.val.s,.i o.review,.s o.text,.s o.reason,.b o.glass] 32):=by rw[←eH11,ag _ _ n8_3.symm];exact b3
 replace b4:H11 i4=some (.obj [.i 0,.sl [] .full,.sl [] .full,.sl [] .full,.sl [] .full,.s [],.b false,.i 0,.sl [] .full,.sl [] .full,.sl [] .full,.sl [] .full,.i 0] 67):=by rw[←eH11,ag _ _ n8_4.symm];exact b4
 replace b5:H11 i5=some (.obj [.i 0,.v (.complex .f64 0 0),.b false,.i 0,.i 0,.s [],.b false,.i 0] 36):=by rw[←eH11,ag _ _ n8_5.symm];exact b5
 replace b6:H11 i6=some (.obj [.i 0,.s [],.s [],.s [],.s [],.i 0,.i 0,.s [],.i 0,.s [],.s [],.b false,.i 0,.v (.complex .f64 0 0),.b false,.sl [] .full] 71):=by rw[←eH11,ag _ _ n8_6.symm];exact b6
 replace b9:H11 i9=some (.obj [.i 0,.v (.complex .f64 0 0),.b false,.i 0,.i 0,.s [],.b false,.i 0] 36):=by rw[←eH11,ag _ _ n9_8];exact b9
 replace b10:H11 i10=some (.obj [.i 0,.sl [] .full,.sl [] .full,.sl [] .full,.sl [] .full,.s [],.b false,.i 0,.sl [] .full,.sl [] .full,.sl [] .full,.sl [] .full,.i 0] 67):=by rw[←eH11,ag _ _ n10_8];exact b10
 replace b8:H11 i8=some (.obj [.v (.complex .f64 (hbit m.1) (hbit m.2)),.sl (ob.map bn) .no] 119):=by rw[←eH11,ah]
 replace sg:Ab.Sub g H11:=by rw[←eH11];exact sg.put q8 _
 rw[eH11];clear eH11;have hbr:=fun G=>Hq s o m hm6.m9 (by have:=hG.nr;omega) (by have:=hG.roles;omega) hG.tick hG.ticks G
 rw[hst]at hbr;simp only[opA,opC,aQ]at hbr;obtain⟨gl,egl⟩:∃gl,su s o m=gl:=⟨_,rfl⟩;have hgl:fz s o=gl:=by unfold fz;rw[hmk];exact egl
 rw[egl]at hbr;have p2:=(bz (H:=H11) (l:=[i2,i3,i8]) (show i2∈ [i2,i3,i8] by simp)).trans b2
 have p3:=(bz (H:=H11) (l:=[i2,i3,i8]) (show i3∈ [i2,i3,i8] by simp)).trans b3
 have p8:=(bz (H:=H11) (l:=[i2,i3,i8]) (show i8∈ [i2,i3,i8] by simp)).trans b8
 refine .one hU hm ?_;simp -implicitDefEqProofs only[go_sem];refine .stage (pick H11 [i2,i3,i8]) [0,1,2,3,4,5,7,6] [8,9,10] bw abl ?_;simp -implicitDefEqProofs only[go_sem,r2,r3,r8,r9,p2,p3,p8];refine(hbr _).pthen ?_;refine⟨bw,cF,fun _ _ e=>abI,?_⟩
 simp -implicitDefEqProofs only[go_sem,r9,b9];refine⟨fun _ _ e=>abI,fun _ _ e=>abI,?_⟩
 obtain⟨H12,eH12⟩:∃H12,upd H11 i9 (some (.obj [.i 0,.v (.complex .f64 (hbit m.1) (hbit m.2)),.b gl,.i 0,.i 0,.s [],.b false,.i 0] 36))=H12:=⟨_,rfl⟩;replace b2:H12 i2=some (.obj [.i s.tick,.sl (s.cases.map cq) .no,.sl (s.reviews.map iu) .no,.sl (s.notices.map mu) .no,.sl (s.roles.map dZ) .no,.s pid,.b pset,.i palg,.sl (ptgt.map cO) .no,.sl (prules.map aC) .no,.sl (pkids.map aL) .no,.sl (pobls.map bn) .no,.i s.version] 67):=by rw[←eH12,ag _ _ n9_2.symm];exact b2
 replace b3:H12 i3=some (.obj [.i o.kind,.s o.subj,.s o.case,.s o.field,.s o.to,.i o.val.kind,.i o.val.n,.s o.val.s,.i o.review,.s o.text,.s o.reason,.b o.glass] 32):=by rw[←eH12,ag _ _ n9_3.symm];exact b3
 replace b4:H12 i4=some (.obj [.i 0,.sl [] .full,.sl [] .full,.sl [] .full,.sl [] .full,.s [],.b false,.i 0,.sl [] .full,.sl [] .full,.sl [] .full,.sl [] .full,.i 0] 67):=by rw[←eH12,ag _ _ n9_4.symm];exact b4
 replace b5:H12 i5=some (.obj [.i 0,.v (.complex .f64 0 0),.b false,.i 0,.i 0,.s [],.b false,.i 0] 36):=by rw[←eH12,ag _ _ n9_5.symm];exact b5
 replace b6:H12 i6=some (.obj [.i 0,.s [],.s [],.s [],.s [],.i 0,.i 0,.s [],.i 0,.s [],.s [],.b false,.i 0,.v (.complex .f64 0 0),.b false,.sl [] .full] 71):=by rw[←eH12,ag _ _ n9_6.symm];exact b6
 replace b8:H12 i8=some (.obj [.v (.complex .f64 (hbit m.1) (hbit m.2)),.sl (ob.map bn) .no] 119):=by rw[←eH12,ag _ _ n9_8.symm];exact b8
 replace b10:H12 i10=some (.obj [.i 0,.sl [] .full,.sl [] .full,.sl [] .full,.sl [] .full,.s [],.b false,.i 0,.sl [] .full,.sl [] .full,.sl [] .full,.sl [] .full,.i 0] 67):=by rw[←eH12,ag _ _ n10_9];exact b10
 replace b9:H12 i9=some (.obj [.i 0,.v (.complex .f64 (hbit m.1) (hbit m.2)),.b gl,.i 0,.i 0,.s [],.b false,.i 0] 36):=by rw[←eH12,ah]
 replace sg:Ab.Sub g H12:=by rw[←eH12];exact sg.put q9 _
 rw[eH12];clear eH12;obtain⟨dn,edn⟩:∃dn,(decide (m=bf)||gl)=dn:=⟨_,rfl⟩
 have hdn:sA s o=dn:=by unfold sA;rw[hmk,hgl];exact edn
 have pe:=(nb hm6.m9).pe;refine .cut (fun ρ H' =>H' =H12∧lk ρ 2=some (.ptr i2 0)∧lk ρ 3=some (.ptr i3 0)∧lk ρ 4=some (.ptr i4 0)∧lk ρ 5=some (.ptr i5 0)∧lk ρ 6=some (.ptr i6 0)∧lk ρ 8=some (.ptr i8 0)∧lk ρ 9=some (.ptr i9 0)∧lk ρ 10=some (.ptr i10 0)∧lk ρ 11=some (.b dn)∧lk ρ 13=some (.v (.int .i64 (jK s o).2))) ?_ ?_
 ·refine .vc hU hm ?_
  cases dp:(m==bf)
  ·have e1:decide (m=bf)=false:=decide_eq_false (by simpa using dp)
   rw[e1,Bool.false_or]at edn;simp -implicitDefEqProofs only[go_sem,r8,r9,b8,b9,pe,dp];refine⟨rfl,?_,?_,?_,?_,?_,?_,?_,?_,?_,?_⟩<;>simp -implicitDefEqProofs only[go_sem,r2,r3,r4,r5,r6,r8,r9,r10,r13,edn]
  ·have e1:decide (m=bf)=true:=decide_eq_true (by simpa using dp)
   rw[e1,Bool.true_or]at edn;simp -implicitDefEqProofs only[go_sem,r8,b8,pe,dp];refine⟨rfl,?_,?_,?_,?_,?_,?_,?_,?_,?_,?_⟩<;>simp -implicitDefEqProofs only[go_sem,r2,r3,r4,r5,r6,r8,r9,r10,r13,edn]
 clear r2 r3 r4 r5 r6 r8 r9 r10 r11 r12 r13
 rintro ρ H' ⟨rfl,r2,r3,r4,r5,r6,r8,r9,r10,r11,r13⟩
 have how:=fun G=>MP s hG.few G
 rw[hst]at how;refine .one hU hm ?_;simp -implicitDefEqProofs only[go_sem,r2,b2];refine(how _).mono fun r H13 ⟨y1,y2,y3,er,hown,hs13⟩=>?_
 subst er;rw[qG hpp];simp only[dR];simp -implicitDefEqProofs only[go_sem,r10,hs13 _ _ b10];obtain⟨H14,e14⟩:∃H14,upd H13 i10 (some (.obj [.i s.tick,y1,y2,y3,.sl (s.roles.map dZ) .no,.s pid,.b pset,.i palg,.sl (ptgt.map cO) .no,.sl (prules.map aC) .no,.sl (pkids.map aL) .no,.sl (pobls.map bn) .no,.i s.version] 67))=H14:=⟨_,rfl⟩;have hS:GSt H' H14 i10 s s.cases.length:=⟨y1,y2,y3,dR s.roles,by rw[←e14,ah,qG hpp];rfl,hown.keep (fun q hq _=>by rw[←e14];exact ag _ _ fun e=>by rw[e,b10]at hq;cases hq),by rw[b10];simp,fun i b hi hb=>by rw[←e14,ag _ _ hi];exact hs13 _ _ hb⟩
 rw[e14];clear e14;have sGB:=sg;have hroom:s.reviews.length≤1000:=hG.nrev;refine .cut (fun ρ H2=>GSt H' H2 i10 (if gl=true then cc s o o.reason else s) s.cases.length∧lk ρ 2=some (.ptr i2 0)∧lk ρ 3=some (.ptr i3 0)∧lk ρ 4=some (.ptr i4 0)∧lk ρ 5=some (.ptr i5 0)∧lk ρ 6=some (.ptr i6 0)∧lk ρ 8=some (.ptr i8 0)∧lk ρ 9=some (.ptr i9 0)∧lk ρ 10=some (.ptr i10 0)∧lk ρ 11=some (.b dn)∧lk ρ 13=some (.v (.int .i64 (jK s o).2))) ?_ ?_
 ·refine .vc hU hm ?_
  have c9:=hS.at n10_9.symm b9;have c3:=hS.at n10_3.symm b3;have hop:=De hS o o.reason ho.1 abh;simp only[opA,opC]at hop;cases gl
  ·simp -implicitDefEqProofs only[go_sem,r9,c9]
   refine⟨hS,?_,?_,?_,?_,?_,?_,?_,?_,?_,?_⟩<;>simp -implicitDefEqProofs only[go_sem,r2,r3,r4,r5,r6,r8,r9,r10,r11,r13]
  ·simp -implicitDefEqProofs only[go_sem,r3,r9,r10,c9,c3]
   refine hop.mono fun r H3 h3=>?_
   simp -implicitDefEqProofs only[go_sem];refine⟨h3,?_,?_,?_,?_,?_,?_,?_,?_,?_,?_⟩<;>simp -implicitDefEqProofs only[go_sem,r2,r3,r4,r5,r6,r8,r9,r10,r11,r13]
 clear hS r2 r3 r4 r5 r6 r8 r9 r10 r11 r13
 rintro ρ H2 ⟨hS,r2,r3,r4,r5,r6,r8,r9,r10,r11,r13⟩
 have hbd:cS s o=cZ (if dn=true then dN aP (if gl=true then cc s o o.reason else s) o else(if gl=true then cc s o o.reason else s)) o ob dn:=by
  unfold cS;rw[hgl,hdn,hmk]
 have hO1:cX k (if gl=true then cc s o o.reason else s):=by
  split
  ·exact BC o _ hG.tocX (by have:=hG.nr;omega)
  ·exact hG.tocX
 have hc1:(if gl=true then cc s o o.reason else s).cases=s.cases:=by split<;>rfl
 have hp1:(if gl=true then cc s o o.reason else s).policy= .mk pid pset palg ptgt prules pkids pobls:=by split<;>exact hpp
 have hg1:ru 999 (if gl=true then cc s o o.reason else s):=by
  have h1:=hG.nr;have h2:=hG.nn;have h3:=fun c hc=>(hG.case c hc).log2
  split
  ·exact⟨fun c hc=>by have:=h3 c hc;omega,by simp only[cc,abb,List.length_singleton];omega,by simp only[cc];omega⟩
  ·exact⟨fun c hc=>by have:=h3 c hc;omega,abh,abh⟩
 have hr1:bL (if gl=true then cc s o o.reason else s) o=0:=by
  split
  ·rename_i hgt
   have hgo:=xF hform (CF (hgl.trans hgt));rw[←hr0];unfold bL;have k5:o.kind≠5:=abh;have k6:o.kind≠6:=abh;have k8:o.kind≠8:=abh;simp only[k5,k6,k8,if_false];rfl
  ·exact hr0
 obtain⟨s1,es1⟩:∃s1,(if gl=true then cc s o o.reason else s)=s1:=⟨_,rfl⟩
 rw[es1]at hS hbd hO1 hc1 hp1 hg1 hr1;have hre:oO s o=⟨if dn=true then 0 else 12,m,gl,if(dn && o.kind==2 && !jw ob o.field)=true then eC (bt s.cases o.case).fields o.field else ax,dn && o.kind==2 && jw ob o.field,0⟩:=by
  unfold oO;rw[hgl,hdn,hmk]
 have hve:=hO1.ver;have b9n:H' i9≠none:=by rw[b9];simp
 refine .cut (fun ρ H3=>lk ρ 2=some (.ptr i2 0)∧lk ρ 3=some (.ptr i3 0)∧lk ρ 4=some (.ptr i4 0)∧lk ρ 5=some (.ptr i5 0)∧lk ρ 6=some (.ptr i6 0)∧lk ρ 8=some (.ptr i8 0)∧lk ρ 9=some (.ptr i9 0)∧lk ρ 10=some (.ptr i10 0)∧lk ρ 11=some (.b dn)∧lk ρ 13=some (.v (.int .i64 (jK s o).2))∧∃(GB:Heap) (j:Nat),GSt GB H3 i10 (if dn=true then dN aP s1 o else s1) j∧Ab.Sub g GB∧(dn=true→ij (if dn=true then dN aP s1 o else s1).cases o.case<(if dn=true then dN aP s1 o else s1).cases.length→o.kind≠6→j=ij (if dn=true then dN aP s1 o else s1).cases o.case)∧GB i2=some (.obj [.i s.tick,.sl (s.cases.map cq) .no,.sl (s.reviews.map iu) .no,.sl (s.notices.map mu) .no,.sl (s.roles.map dZ) .no,.s pid,.b pset,.i palg,.sl (ptgt.map cO) .no,.sl (prules.map aC) .no,.sl (pkids.map aL) .no,.sl (pobls.map bn) .no,.i s.version] 67)∧GB i3=some (.obj [.i o.kind,.s o.subj,.s o.case,.s o.field,.s o.to,.i o.val.kind,.i o.val.n,.s o.val.s,.i o.review,.s o.text,.s o.reason,.b o.glass] 32)∧GB i4=some (.obj [.i 0,.sl [] .full,.sl [] .full,.sl [] .full,.sl [] .full,.s [],.b false,.i 0,.sl [] .full,.sl [] .full,.sl [] .full,.sl [] .full,.i 0] 67)∧GB i5=some (.obj [.i 0,.v (.complex .f64 0 0),.b false,.i 0,.i 0,.s [],.b false,.i 0] 36)∧GB i6=some (.obj [.i 0,.s [],.s [],.s [],.s [],.i 0,.i 0,.s [],.i 0,.s [],.s [],.b false,.i 0,.v (.complex .f64 0 0),.b false,.sl [] .full] 71)∧GB i8=some (.obj [.v (.complex .f64 (hbit m.1) (hbit m.2)),.sl (ob.map bn) .no] 119)∧GB i9=some (.obj [.i (if dn=true then 0 else 12),.v (.complex .f64 (hbit m.1) (hbit m.2)),.b gl,.v (.int .i64 (if(dn && o.kind==2 && !jw ob o.field)=true then eC (bt s.cases o.case).fields o.field else ax).kind),.v (.int .i64 (if(dn && o.kind==2 && !jw ob o.field)=true then eC (bt s.cases o.case).fields o.field else ax).n),.s (if(dn && o.kind==2 && !jw ob o.field)=true then eC (bt s.cases o.case).fields o.field else ax).s,.b (dn && o.kind==2 && jw ob o.field),.i 0] 36)) ?_ ?_
 ·refine .vc hU hm ?_
  have c9:=hS.at n10_9.symm b9;have c3:=hS.at n10_3.symm b3;have c8:=hS.at n10_8.symm b8;have c2:=hS.at n10_2.symm b2;cases dn
  ·simp -implicitDefEqProofs only[go_sem,r9,r11,c9]
   refine⟨?_,?_,?_,?_,?_,?_,?_,?_,?_,?_,upd H' i9 _,s.cases.length,hS.put n10_9.symm b9n _,sGB.put q9 _,fun e=>abI,aeq,aer,aes,aet,aeu,aev,ah ..⟩<;>simp -implicitDefEqProofs only[go_sem,r2,r3,r4,r5,r6,r8,r9,r10,r11,r13]
  ·obtain⟨z1,z2,z3,z4,hk10,hrd⟩:=hS.rd
   have sH2:Ab.Sub g H2:=hS.sub sGB q10;have hdo:=J3 hrd o hO1.few hO1.mc ho.2.2.2 hO1.FC ⟨hve.1,abh⟩ (he.sub sH2);have hjj:=fun hx (_:o.kind≠6)=>MH (o:=o) hO1 hr1 hx
   rw[qG hp1]at hk10 hdo;simp only[opA,opC]at hdo;simp -implicitDefEqProofs only[go_sem,r3,r10,r11,hk10,c3];refine hdo.mono fun r H3 ⟨hs3,j,hOS,hj⟩=>?_
   have hj:=hj hr1;obtain⟨x1,x2,x3,x4,er,hOP⟩:=hOS.parts;subst er;obtain⟨did,dset,dalg,dtgt,drules,dkids,dobls,hpd⟩:=Le (dN aP s1 o).policy;rw[qG hpd];have k10:=hs3 _ _ hk10;obtain⟨H4,e4⟩:∃H4,upd H3 i10 (some (.obj [.v (.int .i64 (dN aP s1 o).tick),x1,x2,x3,x4,.s did,.b dset,.i dalg,.sl (dtgt.map cO) .no,.sl (drules.map aC) .no,.sl (dkids.map aL) .no,.sl (dobls.map bn) .no,.v (.int .i64 (dN aP s1 o).version)] 67))=H4:=⟨_,rfl⟩;have hS4:GSt H' H4 i10 (dN aP s1 o) j:=by
    obtain⟨_,_,_,_,_,_,hgk,hfr⟩:=hS;refine⟨x1,x2,x3,x4,by rw[←e4,ah,qG hpd],(hOP.keep fun q hq _=>by rw[←e4];exact ag _ _ fun e=>by rw[e,hk10]at hq;cases hq).bJ fun q hq=>?_,hgk,fun i b hi hb=>by rw[←e4,ag _ _ hi];exact hs3 _ _ (hfr i b hi hb)⟩
    cases hh:H' q with
    |none=>rfl
    |some b=>
     by_cases e:q=i10
     ·rw[e,hk10]at hq;cases hq
     ·rw[hfr q b e hh]at hq;cases hq
   have d9:=hS4.at n10_9.symm b9;have d3:=hS4.at n10_3.symm b3;have d8:=hS4.at n10_8.symm b8;have d2:=hS4.at n10_2.symm b2;have hjx:true=true→ij (dN aP s1 o).cases o.case<(dN aP s1 o).cases.length→o.kind≠6→j=ij (dN aP s1 o).cases o.case:=fun _ hx h6=>hj.trans (hjj hx h6)
   have hhi:=fun G=>Kl ob abh o.field G
   simp only[aA]at hhi;have hca:=fun G=>Bc (rdS G s) o.case hG.few
   rw[hst]at hca;have hcf:(bt s.cases o.case).fields.length≤1000000000:=by
    unfold bt;split
    ·by_cases hlt:findD s.cases o.case<s.cases.length
     ·rw[show s.cases.getD (findD s.cases o.case) nP=s.cases[findD s.cases o.case] by simp[List.getD,List.getElem?_eq_getElem hlt]]
      have:=(hG.case _ (abc hlt)).nfields;omega
     ·rw[show s.cases.getD (findD s.cases o.case) nP=nP by simp[List.getD,List.getElem?_eq_none (Nat.le_of_not_lt hlt)]]
      exact aem
    ·exact aem
   have hfd:=fun G=>Cv (rdC G (bt s.cases o.case)) o.field hcf
   simp only[cq,mG,fZ,rS]at hca hfd;simp -implicitDefEqProofs only[go_sem,r3,r10,k10];rw[e4];clear e4;cases d7:(o.kind==2)
   ·simp -implicitDefEqProofs only[go_sem,r3,r9,d9,d3,d7,n9_3.symm]
    refine⟨?_,?_,?_,?_,?_,?_,?_,?_,?_,?_,upd H' i9 _,j,hS4.put n10_9.symm b9n _,sGB.put q9 _,(fun _=>hjx rfl),aeq,aer,aes,aet,aeu,aev,ah ..⟩<;>simp -implicitDefEqProofs only[go_sem,r2,r3,r4,r5,r6,r8,r9,r10,r11,r13]
   ·simp -implicitDefEqProofs only[go_sem,r3,r8,d3,d8,d7]
    refine(hhi _).pthen ?_;cases hh:jw ob o.field
    ·simp -implicitDefEqProofs only[go_sem,r2,r3,r9,d9,d3,d2,d7,n9_2.symm,n9_3.symm]
     refine(hca _).pthen ?_;simp -implicitDefEqProofs only[go_sem];intro i14 h14;have t9:i14≠i9:=fun e=>by rw[e,ah]at h14;cases h14
     have t3:i14≠i3:=fun e=>by rw[e,ag _ _ n9_3.symm,d3]at h14;cases h14
     simp -implicitDefEqProofs only[go_sem,r3,d3,n9_3.symm,t3.symm];refine(hfd _).pthen ?_;simp -implicitDefEqProofs only[go_sem,r9,t9.symm,aR];refine⟨?_,?_,?_,?_,?_,?_,?_,?_,?_,?_,upd (upd H' i9 _) i9 _,j,((hS4.put n10_9.symm b9n _).same (.ak h14)).put n10_9.symm (by rw[ah];simp) _,(sGB.put q9 _).put q9 _,(fun _=>hjx rfl),by rw[ag _ _ n9_2.symm,ag _ _ n9_2.symm];exact b2,by rw[ag _ _ n9_3.symm,ag _ _ n9_3.symm];exact b3,by rw[ag _ _ n9_4.symm,ag _ _ n9_4.symm];exact b4,by rw[ag _ _ n9_5.symm,ag _ _ n9_5.symm];exact b5,by rw[ag _ _ n9_6.symm,ag _ _ n9_6.symm];exact b6,by rw[ag _ _ n9_8.symm,ag _ _ n9_8.symm];exact b8,ah ..⟩<;>simp -implicitDefEqProofs only[go_sem,r2,r3,r4,r5,r6,r8,r9,r10,r11,r13]
    ·simp -implicitDefEqProofs only[go_sem,r3,r9,d9,d3,d7,n9_3.symm]
     refine⟨?_,?_,?_,?_,?_,?_,?_,?_,?_,?_,upd H' i9 _,j,hS4.put n10_9.symm b9n _,sGB.put q9 _,(fun _=>hjx rfl),aeq,aer,aes,aet,aeu,aev,ah ..⟩<;>simp -implicitDefEqProofs only[go_sem,r2,r3,r4,r5,r6,r8,r9,r10,r11,r13]
 clear hS b2 b3 b4 b5 b6 b8 b9 b10 r2 r3 r4 r5 r6 r8 r9 r10 r11 r13
 rintro ρ H3 ⟨r2,r3,r4,r5,r6,r8,r9,r10,r11,r13,GB,j,hS,sG2,hjx,b2,b3,b4,b5,b6,b8,b9⟩
 have hO2:cX (k+1) (if dn=true then dN aP s1 o else s1):=by
  split
  ·exact oS o hO1
  ·exact {hO1 with ver:=⟨hO1.ver.1,by have:=hO1.ver.2;omega⟩}
 obtain⟨s2,es2⟩:∃s2,(if dn=true then dN aP s1 o else s1)=s2:=⟨_,rfl⟩
 rw[es2]at hS hjx hbd hO2;have hdu:=Et hS o ho.1 ob abh dn (by have:=hO2.ncases;omega) ⟨fun c hc=>by have:=(hO2.case c hc).log2;omega,hO2.nrev,hO2.nnot⟩ hjx
 rw[←hbd]at hdu;simp only[opA,opC,aA]at hdu;have c3:=hS.at n10_3.symm b3;have c8:=hS.at n10_8.symm b8;refine .one hU hm ?_;simp -implicitDefEqProofs only[go_sem,r3,r8,r10,r11,c3,c8];refine hdu.mono fun r H4 h4=>?_
 simp -implicitDefEqProofs only[go_sem];clear c3 c8 hdu hS;have hat:(jK s o).2=0:=by
  unfold jK at ee⊢;split
  ·rename_i hc;rw[if_pos hc]at ee;exact IG ee
  ·rfl
 have hbl:(cS s o).cases.length≤1000000:=by
  rw[hbd,xp];have:=hO2.ncases;omega
 obtain⟨x1,x2,x3,x4,k10,hOP,_,_⟩:=id h4;have hov:=K1 hOP.rd hbl;obtain⟨did,dset,dalg,dtgt,drules,dkids,dobls,hpd⟩:=Le (cS s o).policy;have hfz:∀H5,(∀q,GB q=none→H5 q=H4 q)→Frz g H5 (.agg (stC (cS s o) x1 x2 x3 x4)) (cJ (cS s o)):=fun H5 hq=>((hOP.keep fun q hg _=>hq q hg).bJ fun q hg=>by
  cases hh:g q with
  |none=>rfl
  |some b=>rw[sG2 _ _ hh]at hg;cases hg).frz
 rw[qG hpd]at k10 hov hfz;have c2:=h4.at n10_2.symm b2;have c3:=h4.at n10_3.symm b3;have c4:=h4.at n10_4.symm b4;have c5:=h4.at n10_5.symm b5;have c6:=h4.at n10_6.symm b6;have c8:=h4.at n10_8.symm b8;have c9:=h4.at n10_9.symm b9;have sg4:Ab.Sub g H4:=h4.sub sG2 q10;refine .one hU hm ?_;simp -implicitDefEqProofs only[go_sem,r10,k10];refine hov.pthen ?_;cases dov:rC (cS s o)
 case true=>
  simp -implicitDefEqProofs only[go_sem,r2,r4,r5,r6,r13];exact⟨0,6,0,sg4,c2,c4,c5,c6,rfl,by rw[hat],by unfold bu;rw[if_neg (by rw[ee];simp),if_pos dov]⟩
 have hgd:bu s o=(cS s o,⟨if dn=true then 0 else 12,m,gl,if(dn && o.kind==2 && !jw ob o.field)=true then eC (bt s.cases o.case).fields o.field else ax,dn && o.kind==2 && jw ob o.field,0⟩,⟨o,s.version,m,gl,ob⟩,0):=by
  unfold bu;rw[if_neg (by rw[ee];simp),if_neg (by rw[dov];decide),hre,hmk,hgl]
 simp -implicitDefEqProofs only[go_sem];have p2:=(bz (H:=H4) (l:=[i2,i3,i8,i9,i10]) (show i2∈ [i2,i3,i8,i9,i10] by simp)).trans c2
 have p3:=(bz (H:=H4) (l:=[i2,i3,i8,i9,i10]) (show i3∈ [i2,i3,i8,i9,i10] by simp)).trans c3
 have p8:=(bz (H:=H4) (l:=[i2,i3,i8,i9,i10]) (show i8∈ [i2,i3,i8,i9,i10] by simp)).trans c8
 have p9:=(bz (H:=H4) (l:=[i2,i3,i8,i9,i10]) (show i9∈ [i2,i3,i8,i9,i10] by simp)).trans c9
 have p10:=(bz (H:=H4) (l:=[i2,i3,i8,i9,i10]) (show i10∈ [i2,i3,i8,i9,i10] by simp)).trans k10
 have t4:pick H4 [i2,i3,i8,i9,i10] i4=none:=by simp[pick,n4_2,n4_3,n8_4.symm,n9_4.symm,n10_4.symm]
 have t5:pick H4 [i2,i3,i8,i9,i10] i5=none:=by simp[pick,n5_2,n5_3,n8_5.symm,n9_5.symm,n10_5.symm]
 have t6:pick H4 [i2,i3,i8,i9,i10] i6=none:=by simp[pick,n6_2,n6_3,n8_6.symm,n9_6.symm,n10_6.symm]
 refine .one hU hm ?_;simp -implicitDefEqProofs only[go_sem];refine .calls (pick H4 [i2,i3,i8,i9,i10]) [0,1,2,3,4,5,6,7,8,9,10,11,12,13,14,15] bw abl rfl ?_;simp -implicitDefEqProofs only[go_sem,r2,r3,r4,r5,r6,r8,r9,r10,p2,p3,p8,p9,p10,c4,c5,c6,n5_4,n5_4.symm,n6_4,n6_4.symm,n6_5,n6_5.symm];refine⟨bw.put t4 _,(bw.put t4 _).put t5 _,((bw.put t4 _).put t5 _).put t6 _,?_⟩;refine .mk _ (.refl _) (.refl _) ⟨((sg4.put q4 _).put q5 _).put q6 _,_,?_,rfl⟩;rw[hgd,←qG hpd];exact z7 (S:=cS s o) ⟨if dn=true then 0 else 12,m,gl,if(dn && o.kind==2 && !jw ob o.field)=true then eC (bt s.cases o.case).fields o.field else ax,dn && o.kind==2 && jw ob o.field,0⟩ ⟨o,s.version,m,gl,ob⟩ 0 (by
  rw[qG hpd];exact hfz _ fun q hq=>by
   have x6:q≠i6:=fun e=>by rw[e,b6]at hq;cases hq
   have x5:q≠i5:=fun e=>by rw[e,b5]at hq;cases hq
   have x4:q≠i4:=fun e=>by rw[e,b4]at hq;cases hq
   rw[ag _ _ x6,ag _ _ x5,ag _ _ x4]) .no
end Go.Proofs.YtcochaoekecfdaaGreatDoor
namespace Go.Ab
open Go
theorem NV(n:Nat)(hn:n<18446744073709551616):IntKind.u64.wrap (n:Int)=n:=OS .u64 n rfl aeX
theorem T3(n:Int):IntKind.u64.wrap n=((n % 18446744073709551616).toNat:Int):=by
 grind [Int.emod_nonneg,Int,IntKind.wrap,IntKind.signed,IntKind.bits]
theorem OT(n:Nat):IntKind.u64.wrap (n:Int)=((n % 18446744073709551616:Nat):Int):=by
 rfl
theorem Ef(a b:Nat)(f:BitVec 64→BitVec 64→BitVec 64):IntKind.u64.wrap (((f (BitVec.ofInt IntKind.u64.bits (a:Int)) (BitVec.ofInt IntKind.u64.bits (b:Int))).toNat:Nat):Int)=((f (BitVec.ofNat 64 a) (BitVec.ofNat 64 b)).toNat:Int):=by
 exact NV _ (f _ _).isLt
theorem No(a b k:Nat)(ha:a<2 ^ k)(hlt:a+b*2 ^ k<18446744073709551616):(BitVec.ofNat 64 a|||BitVec.ofNat 64 (b*2 ^ k)).toNat=a+b*2 ^ k:=by
 exact af6
theorem Ni(n:Nat)(hn:n<18446744073709551616):(BitVec.ofNat 64 18446744073709551615 ^^^ BitVec.ofNat 64 n).toNat=18446744073709551615 - n:=by
 have e:BitVec.ofNat 64 18446744073709551615 ^^^ BitVec.ofNat 64 n= ~~~ BitVec.ofNat 64 n:=by
  rfl
 rw[e,BitVec.toNat_not,BitVec.toNat_ofNat,Nat.mod_eq_of_lt abh]
section
variable {U : TypeId → TI} {ty : TypeId} {K : AV → Prop}
@[go_sem high] theorem Vf(n:Nat)(hn:n<18446744073709551616):unA .xor (.v (.int .u64 (n:Int))) K=K (.v (.int .u64 ((18446744073709551615 - n:Nat):Int))):=by
 have h:=(Ef 18446744073709551615 n (· ^^^ ·)).trans (congrArg (fun z:Nat=>(z:Int)) (Ni n hn))
 exact(BS ..).trans (congrArg (fun z=>K (.v (.int .u64 z))) h)
@[go_sem high] theorem UO(n:Int)(h1: -9223372036854775808≤n)(h2:n≤9223372036854775807):unA .xor (.i n) K=K (.i (-n - 1)):=by
 have e:(BitVec.ofInt 64 (-1) ^^^ BitVec.ofInt 64 n)= ~~~ BitVec.ofInt 64 n:=by
  rfl
 have e2:(((BitVec.ofInt 64 (-1) ^^^ BitVec.ofInt 64 n).toNat:Nat):Int)=(-n - 1) % 18446744073709551616:=by
  grind [BitVec.toNat_not,BitVec.ofInt,BitVec.toNat_ofInt]
 have h:IntKind.i64.wrap (((BitVec.ofInt 64 (-1) ^^^ BitVec.ofInt 64 n).toNat:Nat):Int)= -n - 1:=by
  grind [IntKind.wrap,IntKind.signed,IntKind.bits]
 exact(BS ..).trans (congrArg (fun z=>K (.i z)) h)
theorem u64_and(n k:Nat)(hn:n<18446744073709551616)(hk:k≤63):cp U .and ty (.v (.int .u64 (n:Int))) (.v (.int .u64 ((2 ^ k - 1:Nat):Int))) K=K (.v (.int .u64 ((n % 2 ^ k:Nat):Int))):=by
 have h63:2 ^ k≤2 ^ 63:=Nat.pow_le_pow_right abk hk;have e:(BitVec.ofNat 64 n &&& BitVec.ofNat 64 (2 ^ k - 1)).toNat=n % 2 ^ k:=by
  grind [BitVec.toNat_and,BitVec.toNat_ofNat,Nat.mod_eq_of_lt,Nat.and_two_pow_sub_one_eq_mod]
 have h:=(Ef n (2 ^ k - 1) (· &&& ·)).trans (congrArg (fun z:Nat=>(z:Int)) e)
 exact(JH ..).trans (congrArg (fun z=>K (.v (.int .u64 z))) h)
@[go_sem high] theorem u64_or(a b k:Nat)(ha:a<2 ^ k)(hlt:a+b*2 ^ k<18446744073709551616):cp U .or ty (.v (.int .u64 (a:Int))) (.v (.int .u64 ((b*2 ^ k:Nat):Int))) K=K (.v (.int .u64 ((a+b*2 ^ k:Nat):Int))):=by
 have h:=(Ef a (b*2 ^ k) (· ||| ·)).trans (congrArg (fun z:Nat=>(z:Int)) (No a b k ha hlt))
 exact(Sv ..).trans (congrArg (fun z=>K (.v (.int .u64 z))) h)
theorem BP(n k:Nat)(kk:IntKind)(hk:k≤63):cp U .shr ty (.v (.int .u64 (n:Int))) (.v (.int kk (k:Int))) K=K (.v (.int .u64 ((n / 2 ^ k:Nat):Int))):=by
 grind [JI,min,Int,IntKind.bits,Int.fdiv_eq_ediv_of_nonneg,Int.le_of_lt,Int.pow_pos]
@[go_sem high] theorem NP(n k:Nat)(kk:IntKind)(hk:k≤63):cp U .shl ty (.v (.int .u64 (n:Int))) (.v (.int kk (k:Int))) K=K (.v (.int .u64 ((n*2 ^ k % 18446744073709551616:Nat):Int))):=by
 rw[Ob];have:min (k:Int).toNat IntKind.u64.bits=k:=aeX;rw[this,show((n:Int)*2 ^ k)=((n*2 ^ k:Nat):Int) by simp,OT]
 exact propext ⟨fun h=>h.2,fun h=>⟨Int.natCast_nonneg k,h⟩⟩
@[go_sem high] theorem TL(m:Nat):cp U .shl ty (.v (.int .u64 (m:Int))) (.v (.int .u64 1)) K=K (.v (.int .u64 ((m*2 % 18446744073709551616:Nat):Int))):=NP m 1 .u64 abk
@[go_sem high] theorem TM(m:Nat):cp U .shr ty (.v (.int .u64 (m:Int))) (.v (.int .u64 1)) K=K (.v (.int .u64 ((m / 2:Nat):Int))):=BP m 1 .u64 abk
@[go_sem high] theorem TN(m:Nat):cp U .shr ty (.v (.int .u64 (m:Int))) (.v (.int .u64 7)) K=K (.v (.int .u64 ((m / 128:Nat):Int))):=BP m 7 .u64 abk
@[go_sem high] theorem TO(m:Nat):cp U .shr ty (.v (.int .u64 (m:Int))) (.v (.int .u64 8)) K=K (.v (.int .u64 ((m / 256:Nat):Int))):=BP m 8 .u64 abk
@[go_sem high] theorem TJ(m:Nat)(hm:m<18446744073709551616):cp U .and ty (.v (.int .u64 (m:Int))) (.v (.int .u64 1)) K=K (.v (.int .u64 ((m % 2:Nat):Int))):=u64_and m 1 hm abk
@[go_sem high] theorem QN(m:Nat)(hm:m<18446744073709551616):cp U .and ty (.v (.int .u64 (m:Int))) (.v (.int .u64 127)) K=K (.v (.int .u64 ((m % 128:Nat):Int))):=u64_and m 7 hm abk
@[go_sem high] theorem QO(m:Nat)(hm:m<18446744073709551616):cp U .and ty (.v (.int .u64 (m:Int))) (.v (.int .u64 255)) K=K (.v (.int .u64 ((m % 256:Nat):Int))):=u64_and m 8 hm abk
@[go_sem high] theorem Jc(m:Nat)(hm:m<128):cp U .or ty (.v (.int .u64 (m:Int))) (.v (.int .u64 128)) K=K (.v (.int .u64 ((m+128:Nat):Int))):=u64_or m 1 7 hm abh
theorem wu8(n:Nat):IntKind.u8.wrap (n:Int)=((UInt8.ofNat n).toNat:Int):=by
 rfl
@[go_sem high] theorem Sb(c:UInt8):cp U .and ty (.v (.int .u8 (c.toNat:Int))) (.v (.int .u8 127)) K=K (.v (.int .u8 ((c.toNat % 128:Nat):Int))):=by
 have hc:=c.toNat_lt;have e:(BitVec.ofNat 8 c.toNat &&& BitVec.ofNat 8 127).toNat=c.toNat % 128:=by
  rw[BitVec.toNat_and,BitVec.toNat_ofNat,BitVec.toNat_ofNat,Nat.mod_eq_of_lt abh,Nat.mod_eq_of_lt abh];exact Nat.and_two_pow_sub_one_eq_mod c.toNat 7
 have h:IntKind.u8.wrap (((BitVec.ofInt IntKind.u8.bits (c.toNat:Int) &&& BitVec.ofInt IntKind.u8.bits 127).toNat:Nat):Int)=((c.toNat % 128:Nat):Int):=by
  grind [IntKind.wrap,IntKind.signed,IntKind.bits]
 exact(JH ..).trans (congrArg (fun z=>K (.v (.int .u8 z))) h)
end
end Go.Ab
namespace Go.Proofs.YtcochaoekecfdaaGreatDoor
open Go Go.Ab Go.Bf
abbrev jS(h h' :Heap)(y:AV)(l:Txt):Prop:=Acc U 5 h h' y (l.map aM)
theorem u5n:(U 5).sz≠0:=abk
theorem Wc:(U 5).bytes≠0:=abk
theorem jS.frz{g h:Heap}{y:AV}{l:Txt}(ha:jS g h y l):Frz g h y (.sl (l.map aM) .no):=by
 obtain⟨q,rfl⟩:=Acc.row ha;refine .sl _ _ _ rfl abh fun i h1 h2 j h3 h4=> .keep _ ?_
 simp only[aa8,aM,AV.cells,List.getElem_singleton];exact ady
theorem jS.pure{f:FuncId}{args:List AV}{h:Heap}{l:Txt}(hf:∀g,Ab.Sub h g→ai Tryz.prog f args g fun r h' =>jS g h' r l):ai Tryz.prog f args h fun r h' =>r= .sl (l.map aM) .no∧h' =h:=
 ai.freeze fun g hg _=>(hf g hg).mono fun r h' hr=>⟨hr.1,_,jS.frz hr,rfl⟩
theorem jS.app{g h:Heap}{y v:AV}{l m:Txt}{Q:AV→Heap→Prop}(ha:jS g h y l)(hsrc:∀k:List AV→Prop,k (m.map aM)→gY U 5 h v k)(hlen:l.length+m.length≤140737488355328)
  (hk:∀y' h',jS g h' y' (l++m)→Q y' h'):apK U h y v Q (.slice 5):=
 Acc.app ha u5n Wc hsrc (by grind [u5,jg]) (by grind [u5,jg]) (by grind [QM]) fun y' h' hy _=>hk y' h' abi
theorem zN(y:AV)(l:Txt)(h:Heap)(hb:By h y l)(hl:l.length≤140737488355328):
  ai Tryz.prog 92 [y] h fun r h' =>jS h h' r l:=by
 refine abg Tryz.func92 8 [.tmp 2] fun hwf=>?_
 simp only[go_sem];refine hb.Tp fun b hbn=>?_
 simp only[go_sem];refine nv.intro (fun e=>?_) (fun e=>?_)
 ·have hl0:l= []:=Classical.byContradiction fun hh=>by grind
  subst hl0;simp only[go_sem];exact .same (.refl _) (Acc.full (.refl _))
 ·simp only[go_sem]
  rw[hb.src u5];simp only[go_sem];refine⟨abh,fun hn=>?_,fun hn=>?_⟩
  ·have hl0:l= []:=by simp_all
   subst hl0;simp only[go_sem];exact .same (.refl _) (Acc.full (.refl _))
  ·refine .own fun id hid=>?_
   simp only[go_sem];exact .same (.refl _) ⟨(Ab.Sub.refl h).new hid _,.inr ⟨id,hid,rfl,by rw[ah,u5,aa7]⟩⟩
theorem QY(n:Int)(hn:i64 n):∃m:Nat,IntKind.u64.wrap n=(m:Int)∧m<18446744073709551616∧(0≤n→m*2 % 18446744073709551616=zig n)∧(n<0→18446744073709551615 - m*2 % 18446744073709551616=zig n):=by
 unfold i64 at hn;refine⟨(n % 18446744073709551616).toNat,T3 n,abh,fun h=>?_,fun h=>?_⟩<;>unfold zig
 ·grind
 grind
theorem Gr(y:AV)(l:Txt)(n:Int)(h:Heap)(hb:By h y l)(hl:l.length≤1000000)(hn:i64 n):
  ai Tryz.prog 56 [y,.i n] h fun r h' =>jS h h' r (l++ni n):=by
 obtain⟨m,hm0,hm2,hm3,hm4⟩:=QY n hn;have hz:=FM hn;have hz64:=L6 hn;refine ai.of_wp hU Tryz.func56 rfl abx 32 rfl [.tmp 4] rfl (aa6 rfl) ?_;refine .cut (fun ρ g=>g=h∧lk ρ 0=some y∧lk ρ 1=some (.i n)) (.vc hU hm ?_) ?_
 ·simp only[go_sem]
  refine⟨rfl,?_,?_⟩<;>simp only[go_sem]
 rintro ρ g ⟨rfl,r0,r1⟩
 refine .cut (fun ρ g' =>g' =g∧lk ρ 0=some y∧lk ρ 1=some (.i n)∧lk ρ 5=some (.v (.int .u64 ((m*2 % 18446744073709551616:Nat):Int)))) (.vc hU hm ?_) ?_
 ·simp only[go_sem,r0,r1,hm0]
  refine⟨rfl,?_,?_,?_⟩<;>simp only[go_sem,r0,r1]
 clear r0 r1
 rintro ρ g' ⟨rfl,r0,r1,r5⟩
 refine .cut (fun ρ g=>g=g'∧lk ρ 0=some y∧lk ρ 5=some (.v (.int .u64 ((zig n:Nat):Int)))) (.vc hU hm ?_) ?_
 ·cases d1:decide (n<0)
  ·have h0:=aba d1
   simp only[go_sem,r0,r1,r5,d1,hm3 abh];rw[←hm3 abh]at*;refine⟨rfl,?_,?_⟩<;>simp only[go_sem,r0,r5]
  ·have h0:=aa9 d1
   simp only[go_sem,r0,r1,r5,d1,hm4 h0,show m*2 % 18446744073709551616<18446744073709551616 from abh]
   refine⟨rfl,?_,?_⟩<;>simp only[go_sem,r0]
 clear r0 r1 r5 hm3 hm4
 rintro ρ g ⟨rfl,r0,r5⟩
 refine .vc hU hm ?_;simp only[go_sem,r0,r5];refine(zN y l g hb abh).mono fun r h1 ha=>?_
 simp only[go_sem,r0,r5];refine .intro (fun k ρ h' =>∃(v:Nat) (o:Txt) (z:AV),jS g h' z (l++o)∧o++rq k v=ni n∧v<128 ^ k∧v<18446744073709551616∧0<k∧o.length≤10∧lk ρ 5=some (.v (.int .u64 (v:Int)))∧lk ρ 6=some z) 10 ?_ ?_
 ·refine⟨zig n,[],r,abi,rfl,hz,hz64,abk,abp,?_,?_⟩<;>simp only[go_sem,r5]
 clear r0 r5
 rintro k ρ h' ⟨v,o,z,ha,ho,hv,hv64,hk,hol,r5,r6⟩
 obtain⟨k,rfl⟩:∃j,k=j+1:=⟨k - 1,abh⟩;have hlo:=congrArg List.length ho;rw[abb]at hlo;have hnl:=jB n;cases d1:decide ((128:Int)≤(v:Int))
 ·have h0:=aba d1
  have e:rq (k+1) v= [UInt8.ofNat v]:=by unfold rq;grind
  simp only[go_sem,r5,r6,d1,wu8];refine jS.app ha (m:=[UInt8.ofNat v]) (fun _ hk=>hk) abi fun z' h2 ha' =>?_
  simp only[go_sem];refine .same (.refl _) ?_;rw[←ho,e,←List.append_assoc];exact ha'
 ·have h0:=aa9 d1
  have e:rq (k+1) v=UInt8.ofNat (v % 128+128)::rq k (v / 128):=by conv=>lhs;unfold rq;rw[if_neg abh]
  rw[e]at hlo ho;simp only[List.length_cons]at hlo;have hk1:0<k:=by
   grind
  simp only[go_sem,r5,r6,d1,hv64,Jc _ (Nat.mod_lt v (show 128>0 by decide)),wu8]
  refine jS.app ha (m:=[UInt8.ofNat (v % 128+128)]) (fun _ hk=>hk) abi fun z' h2 ha' =>?_
  simp only[go_sem,r5];refine⟨k,abh,v / 128,o++ [UInt8.ofNat (v % 128+128)],z',?_,?_,?_,abh,hk1,?_,?_,?_⟩
  ·grind
  ·grind
  ·omega
  ·grind
  ·rfl
  rfl
theorem Bz(y:AV)(l:Txt)(n:Int)(h:Heap)(hb:By h y l)(hl:l.length≤1000000)(hn:i64 n):
  ai Tryz.prog 56 [y,.i n] h fun r h' =>r= .sl ((l++ni n).map aM) .no∧h' =h:=
 jS.pure fun g hg=>Gr y l n g (hb.sub hg) hl hn
theorem LJ(y:AV)(l s:Txt)(h:Heap)(hb:By h y l)(hl:l.length≤1000000)(hs:s.length≤1000000):
  ai Tryz.prog 57 [y,.s s] h fun r h' =>jS h h' r (l++eL s):=by
 have hn:i64 (s.length:Int):=⟨abh,abh⟩;refine abg Tryz.func57 11 [.tmp 4] fun hwf=>?_
 simp only[go_sem];refine(Gr y l s.length h hb hl hn).mono fun r h' ha=>?_
 simp only[go_sem];have hnl:=jB s.length;refine jS.app ha (m:=s) (fun _ hk=>(QC ..).mpr ⟨abx,u5,hk⟩) abi fun z' h2 ha' =>?_
 simp only[go_sem];refine .same (.refl _) ?_;unfold eL;rw[←List.append_assoc];exact ha'
theorem wM(y:AV)(l s:Txt)(h:Heap)(hb:By h y l)(hl:l.length≤1000000)(hs:s.length≤1000000):
  ai Tryz.prog 57 [y,.s s] h fun r h' =>r= .sl ((l++eL s).map aM) .no∧h' =h:=
 jS.pure fun g hg=>LJ y l s g (hb.sub hg) hl hs
theorem GA(y:AV)(l:Txt)(v:bA)(h:Heap)(hb:By h y l)(hl:l.length≤900000)(hk:i64 v.kind)(hn:i64 v.n)(hs:v.s.length≤1000000):
  ai Tryz.prog 58 [y,aR v] h fun r h' =>r= .sl ((l++tO v).map aM) .no∧h' =h:=by
 have hnl:=jB v.kind;have hl2:(l++ni v.kind).length≤1000000:=abi;refine abg Tryz.func58 20 [.tmp 4] fun hwf=>?_
 simp only[go_sem,aR];intro id hid;simp only[go_sem];refine(Bz y l v.kind _ (hb.new hid) abh hk).pthen ?_;simp only[go_sem];refine(yS v.kind _).pthen ?_;simp only[go_sem];cases d1:(v.kind==3||v.kind==5)
 ·have e:¬(v.kind=3∨v.kind=5):=by grind
  simp only[go_sem];refine(Bz (.sl ((l++ni v.kind).map aM) .no) (l++ni v.kind) v.n _ (.sl _ _) hl2 hn).pthen ?_;simp only[go_sem];refine .mk _ (.refl _) (.ak hid) ⟨?_,rfl⟩;unfold tO;rw[if_neg e,List.append_assoc];rfl
 ·have e:v.kind=3∨v.kind=5:=by grind
  simp only[go_sem];refine(wM (.sl ((l++ni v.kind).map aM) .no) (l++ni v.kind) v.s _ (.sl _ _) hl2 hs).pthen ?_;simp only[go_sem];refine .mk _ (.refl _) (.ak hid) ⟨?_,rfl⟩;unfold tO;rw[if_pos e,List.append_assoc];rfl
theorem DT(b:Bool)(h:Heap):ai Tryz.prog 59 [.b b] h fun r h' =>r=aR (dJ b)∧h' =h:=by
 refine abg Tryz.func59 8 [.cell 2 30] fun hwf=>?_
 simp only[go_sem];intro i1 h1;simp only[go_sem];intro i2 h2;have hne:=aH h2;have n2:=aB h2;cases b
 ·exact agB
 ·exact agB
def RO(s:RS):Blk:=.obj [.sl (s.b.map aM) .no,.i (s.at_:Int),.b s.bad] 176
def WfR(s:RS):Prop:=s.at_≤s.b.length∧s.b.length≤1000000
def RC(f:FuncId)(args:List AV)(s:RS)(R:AV)(s' :RS):Prop:=∀(h:Heap) (id:Nat),h id=some (RO s)→ai Tryz.prog f (.ptr id 0::args) h fun r h' =>r=R∧h' =upd h id (some (RO s'))
theorem RC.go{f:FuncId}{args:List AV}{s s' :RS}{R:AV}(hc:RC f args s R s'){h:Heap}{id:Nat}{Q:AV→Heap→Prop}(hid:h id=some (RO s))(k:Q R (upd h id (some (RO s')))):ai Tryz.prog f (.ptr id 0::args) h Q:=
 (hc h id hid).mono fun r h' ⟨e1,e2⟩=>adS
theorem yy{s:RS}{a:Nat}(h:WfR s):WfR (lp s a):=by
 unfold lp;split
 ·rename_i hc
  exact⟨by have:=h.1;show a≤s.b.length;omega,h.2⟩
 omega
theorem yA:∀(f i u:Nat) (l:Txt),(uK f i u l).2≤i+l.length∧((uK f i u l).2=0∨i<(uK f i u l).2)
 |0,_,_,_=>⟨Nat.zero_le _,.inl rfl⟩
 |_+1,_,_,[]=>⟨Nat.zero_le _,.inl rfl⟩
 |f+1,i,u,c::r=>by
  unfold uK;split
  ·omega
  ·split
   ·simp
   ·obtain⟨h1,h2⟩:=yA f (i+1) (u+c.toNat % 128*128 ^ i) r
    grind
theorem ld{s:RS}{lo hi:Int}(h:WfR s):WfR (rIn s lo hi).2:=by
 unfold rIn;split
 ·exact h
 ·simp only
  split
  ·exact yy h
  ·have:=(yA 10 0 0 (s.b.drop s.at_)).1
   exact⟨abi,h.2⟩
theorem nY(s:RS)(a:Nat):RC 110 [.i (a:Int)] s (.tup []) (lp s a):=fun h id hid=>by
 refine abg Tryz.func110 28 [] fun hwf=>?_
 have g:=hid;have d0:decide ((0:Int)≤(a:Int))=true:=decide_eq_true abh;unfold RO at g;cases d1:s.bad
 ·rw[d1]at g
  cases d2:decide ((a:Int)≤(s.at_:Int))
  ·have h2:=aba d2
   simp only[go_sem,g,d0,d2];exact .mk _ (.refl _) (.refl _) ⟨rfl,by simp_all [lp,if_neg,bD]⟩
  ·have h2:=aa9 d2
   simp only[go_sem,g,d0,d2];exact .mk _ (.refl _) (.refl _) ⟨rfl,by rw[lp,if_pos ⟨d1,abh⟩];rfl⟩
 ·rw[d1]at g
  simp only[go_sem,g];exact .mk _ (.refl _) (.refl _) ⟨rfl,by simp_all [lp,if_neg,bD]⟩
theorem JF(s:RS):RC 111 [] s (.i (s.at_:Int)) s:=fun h id hid=>by
 refine abg Tryz.func111 7 [.tmp 2] fun hwf=>?_
 have g:=hid;unfold RO at g;simp only[go_sem,g];exact adY
theorem za(s:RS):RC 112 [] s (.i (if s.bad then 7 else 0)) s:=fun h id hid=>by
 refine abg Tryz.func112 7 [.tmp 2] fun hwf=>?_
 have g:=hid;unfold RO at g;cases d1:s.bad<;>rw[d1]at g<;>simp only[go_sem,g]<;>exact .mk _ (.refl _) (.refl _) ⟨rfl,(bD hid).symm⟩
theorem PN(s:RS):RC 65 [] s (.i (if Li s then 0 else 7)) s:=fun h id hid=>by
 refine abg Tryz.func65 15 [.tmp 2] fun hwf=>?_
 have g:=hid;unfold RO at g;cases d1:decide ((s.at_:Int)<(s.b.length:Int))
 ·have h1:=aba d1
  simp only[go_sem,g,aa7,d1];refine⟨.of abl,?_⟩;refine(za s).go hid ?_;rw[bD hid];simp only[go_sem];refine .mk _ (.refl _) (.refl _) ⟨?_,rfl⟩;unfold Li;rw[decide_eq_true (show s.b.length≤s.at_ by omega)]
  cases s.bad<;>rfl
 ·have h1:=aa9 d1
  simp only[go_sem,g,aa7,d1];refine⟨.of abl,?_⟩;refine .mk _ (.refl _) (.refl _) ⟨?_,(bD hid).symm⟩;unfold Li;rw[decide_eq_false (show¬s.b.length≤s.at_ by omega)]
  rfl
theorem Nx(y:AV)(l:Txt)(h:Heap)(hb:By h y l)(hl:l.length≤1000000):
  ai Tryz.prog 60 [y] h fun r h' =>∃id,h id=none∧r= .ptr id 0∧h' =upd h id (some (RO ⟨l,0,false⟩)):=by
 refine abg Tryz.func60 7 [.tmp 2] fun hwf=>?_
 simp only[go_sem];refine(jS.pure fun g hg=>zN y l g (hb.sub hg) abh).pthen ?_
 simp only[go_sem];intro id hid;simp only[go_sem];exact .mk _ (.refl _) (.refl _) ⟨id,hid,rfl,rfl⟩
theorem Iy(s:RS)(hw:WfR s)(h:Heap)(id:Nat)(hid:h id=some (RO s)):
  ai Tryz.prog 158 [.ptr id 0] h fun r h' =>r= .tup [.v (.int .i64 (uK 10 0 0 (s.b.drop s.at_)).1),.i ((uK 10 0 0 (s.b.drop s.at_)).2:Nat)]∧h' =h:=by
 refine abg Tryz.func158 74 [.tmp 2,.tmp 3] fun hwf=>?_
 have hw1:=hw.1;have hw2:=hw.2;have g:=hid;unfold RO at g;simp only[go_sem];generalize hx:uK 10 0 0 (s.b.drop s.at_)=x;refine .intro (fun k ρ h' =>h' =h∧∃(i u:Nat),k+i=10∧uK k i u (s.b.drop (s.at_+i))=x∧u<128 ^ i∧lk ρ 0=some (.ptr id 0)∧lk ρ 4=some (.v (.int .u64 (u:Int)))∧lk ρ 5=some (.i (i:Int))) 10 ?_ ?_
 ·refine⟨rfl,0,0,rfl,hx,abk,?_,?_,?_⟩<;>simp only[go_sem]
  all_goals rfl
 rintro k ρ h' ⟨rfl,i,u,hki,hr,hu,r0,r4,r5⟩
 rcases k with _|k
 ·have d1:decide ((i:Int)<10)=false:=decide_eq_false abh
  simp only[go_sem,r0,r4,r5,d1];exact⟨.of abl,.mk _ (.refl _) (.refl _) ⟨adq,rfl⟩⟩
 have d1:decide ((i:Int)<10)=true:=decide_eq_true abh;have w1:IntKind.i64.wrap ((s.at_:Int)+(i:Int))=((s.at_+i:Nat):Int):=abM;have w2:=abd i abh
 by_cases hc:s.at_+i<s.b.length
 case neg=>
  have d2:decide (((s.at_+i:Nat):Int)<(s.b.length:Int))=false:=decide_eq_false abh;simp only[go_sem,r0,r4,r5,d1,g,w1,aa7,d2];rw[List.drop_eq_nil_of_le abh]at hr;exact⟨.of abl,.mk _ (.refl _) (.refl _) ⟨adq,rfl⟩⟩
 have d2:decide (((s.at_+i:Nat):Int)<(s.b.length:Int))=true:=decide_eq_true abh;rw[List.drop_eq_getElem_cons hc]at hr;generalize hcc:s.b[s.at_+i]=c at hr;simp only[go_sem,r0,r4,r5,d1,g,w1,aa7,d2];refine⟨.of abl,.of abl,?_⟩;refine .at (s.at_+i) (by simpa using hc) aby ?_
 simp only[go_sem,r0,r4,r5,aa8,hcc,aM];have hclt:=c.toNat_lt;have pw:(2:Nat) ^ (7*i)=128 ^ i:=by rw[Nat.pow_mul]
 have p9:(128:Nat) ^ 9=9223372036854775808:=abk;unfold uK at hr
 by_cases hb:(i=9∧1<c.toNat)∨(0<i∧c.toNat=0)
 ·rw[if_pos hb]at hr
  by_cases h9:i=9∧1<c.toNat
  ·have d3:((i:Int)==9)=true:=by simp;omega
   have d4:decide ((1:Int)<(c.toNat:Int))=true:=decide_eq_true abh;simp only[go_sem,r0,r4,r5,d3,d4];exact .mk _ (.refl _) (.refl _) ⟨adq,rfl⟩
  ·have hb:0<i∧c.toNat=0:=by omega
   have d4:decide ((1:Int)<(c.toNat:Int))=false:=decide_eq_false abh;have d5:decide ((0:Int)<(i:Int))=true:=decide_eq_true abh;have d6:((c.toNat:Int)==0)=true:=abV;cases d3:((i:Int)==9)<;>simp only[go_sem,r0,r4,r5,d3,d4,d5,d6]<;>exact .mk _ (.refl _) (.refl _) ⟨adq,rfl⟩
 rw[if_neg hb]at hr;have hi9:i≤9:=abh;have hle:c.toNat % 128*128 ^ i+u<18446744073709551616:=by
  by_cases e9:i=9
  ·subst e9
   rw[p9]at hu⊢;omega
  ·have h1:(128:Nat) ^ i≤128 ^ 8:=Nat.pow_le_pow_right abk abh
   have h2:(128:Nat) ^ 8=72057594037927936:=abk;exact ag3
 have w3:IntKind.u64.wrap ((c.toNat % 128:Nat):Int)=((c.toNat % 128:Nat):Int):=NV _ abh;have w4:IntKind.i64.wrap ((7:Int)*(i:Int))=((7*i:Nat):Int):=abM;have w5:IntKind.u64.wrap ((7*i:Nat):Int)=((7*i:Nat):Int):=NV _ abh;have h63:7*i≤63:=abh;have hu' :u<2 ^ (7*i):=by rw[pw];exact hu
 have hor:u+c.toNat % 128*2 ^ (7*i)<18446744073709551616:=by rw[pw];omega
 have wS:c.toNat % 128*2 ^ (7*i) % 18446744073709551616=c.toNat % 128*2 ^ (7*i):=Nat.mod_eq_of_lt abh;have three:(i=9∧c.toNat≤1∧c.toNat≠0)∨(i<9∧0<i∧c.toNat≠0)∨i=0:=abh;cases d7:decide ((c.toNat:Int)<128)
 ·have h7:=aba d7
  rw[if_neg abh]at hr;have hnew:u+c.toNat % 128*2 ^ (7*i)<128 ^ (i+1):=by
   rw[pw,Nat.pow_succ];exact ag3
  rw[←pw,Nat.add_assoc]at hr;generalize hU' :u+c.toNat % 128*2 ^ (7*i)=u' at hr hnew hor;rcases three with⟨t1,t2,t3⟩|⟨t1,t2,t3⟩|t1
  ·have d3:((i:Int)==9)=true:=by simp;omega
   have d4:decide ((1:Int)<(c.toNat:Int))=false:=decide_eq_false abh;have d5:decide ((0:Int)<(i:Int))=true:=decide_eq_true abh;have d6:((c.toNat:Int)==0)=false:=abV;simp only[go_sem,r0,r4,r5,d3,d4,d5,d6,w3,w4,w5,h63,wS,hu',hU',hor,d7,w2];refine⟨k,abh,rfl,i+1,u',abh,hr,hnew,?_,?_,?_⟩<;>simp only[go_sem,r0]
  ·have d3:((i:Int)==9)=false:=by simp;omega
   have d5:decide ((0:Int)<(i:Int))=true:=decide_eq_true abh;have d6:((c.toNat:Int)==0)=false:=abV;simp only[go_sem,r0,r4,r5,d3,d5,d6,w3,w4,w5,h63,wS,hu',hU',hor,d7,w2];refine⟨k,abh,rfl,i+1,u',abh,hr,hnew,?_,?_,?_⟩<;>simp only[go_sem,r0]
  ·have d3:((i:Int)==9)=false:=by simp;omega
   have d5:decide ((0:Int)<(i:Int))=false:=decide_eq_false abh;simp only[go_sem,r0,r4,r5,d3,d5,w3,w4,w5,h63,wS,hu',hU',hor,d7,w2];refine⟨k,abh,rfl,i+1,u',abh,hr,hnew,?_,?_,?_⟩<;>simp only[go_sem,r0]
 ·have h7:=aa9 d7
  rw[if_pos abh]at hr;have ec:c.toNat % 128=c.toNat:=abh;rw[←pw]at hr;have hU0:u+c.toNat*2 ^ (7*i)=u+c.toNat % 128*2 ^ (7*i):=by rw[ec]
  rw[hU0]at hr;generalize hU' :u+c.toNat % 128*2 ^ (7*i)=u' at hr hor;have w6:IntKind.i64.wrap ((u' / 2:Nat):Int)=((u' / 2:Nat):Int):=bh _ abh;have b1:(-9223372036854775808:Int)≤((u' / 2:Nat):Int):=abh;have b2:((u' / 2:Nat):Int)≤9223372036854775807:=abh;have un:unzig u' =if u' % 2=1 then -((u' / 2:Nat):Int) - 1 else((u' / 2:Nat):Int):=rfl
  cases d8:(((u' % 2:Nat):Int)==1)
  ·have h8:¬u' % 2=1:=by intro hh;rw[hh]at d8;cases d8
   rw[if_neg h8]at un;rw[un]at hr;rcases three with⟨t1,t2,t3⟩|⟨t1,t2,t3⟩|t1
   ·have d3:((i:Int)==9)=true:=by simp;omega
    have d4:decide ((1:Int)<(c.toNat:Int))=false:=decide_eq_false abh;have d5:decide ((0:Int)<(i:Int))=true:=decide_eq_true abh;have d6:((c.toNat:Int)==0)=false:=abV;simp only[go_sem,r0,r4,r5,d3,d4,d5,d6,w3,w4,w5,h63,wS,hu',hU',hor,d7,w6,d8,w2];exact .mk _ (.refl _) (.refl _) ⟨adq,rfl⟩
   ·have d3:((i:Int)==9)=false:=by simp;omega
    have d5:decide ((0:Int)<(i:Int))=true:=decide_eq_true abh;have d6:((c.toNat:Int)==0)=false:=abV;simp only[go_sem,r0,r4,r5,d3,d5,d6,w3,w4,w5,h63,wS,hu',hU',hor,d7,w6,d8,w2];exact .mk _ (.refl _) (.refl _) ⟨adq,rfl⟩
   ·have d3:((i:Int)==9)=false:=by simp;omega
    have d5:decide ((0:Int)<(i:Int))=false:=decide_eq_false abh;simp only[go_sem,r0,r4,r5,d3,d5,w3,w4,w5,h63,wS,hu',hU',hor,d7,w6,d8,w2];exact .mk _ (.refl _) (.refl _) ⟨adq,rfl⟩
  ·have h8:u' % 2=1:=by have:=eq_of_beq d8;omega
   rw[if_pos h8]at un;rw[un]at hr;rcases three with⟨t1,t2,t3⟩|⟨t1,t2,t3⟩|t1
   ·have d3:((i:Int)==9)=true:=by simp;omega
    have d4:decide ((1:Int)<(c.toNat:Int))=false:=decide_eq_false abh;have d5:decide ((0:Int)<(i:Int))=true:=decide_eq_true abh;have d6:((c.toNat:Int)==0)=false:=abV;simp only[go_sem,r0,r4,r5,d3,d4,d5,d6,w3,w4,w5,h63,wS,hu',hU',hor,d7,w6,d8,b1,b2,w2];exact .mk _ (.refl _) (.refl _) ⟨adq,rfl⟩
   ·have d3:((i:Int)==9)=false:=by simp;omega
    have d5:decide ((0:Int)<(i:Int))=true:=decide_eq_true abh;have d6:((c.toNat:Int)==0)=false:=abV;simp only[go_sem,r0,r4,r5,d3,d5,d6,w3,w4,w5,h63,wS,hu',hU',hor,d7,w6,d8,b1,b2,w2];exact .mk _ (.refl _) (.refl _) ⟨adq,rfl⟩
   ·have d3:((i:Int)==9)=false:=by simp;omega
    have d5:decide ((0:Int)<(i:Int))=false:=decide_eq_false abh;simp only[go_sem,r0,r4,r5,d3,d5,w3,w4,w5,h63,wS,hu',hU',hor,d7,w6,d8,b1,b2,w2];exact .mk _ (.refl _) (.refl _) ⟨adq,rfl⟩
theorem RC.step{f:FuncId}{args:List AV}{s s' :RS}{R:AV}(hc:RC f args s R s'){h:Heap}{id:Nat}{Q:AV→Heap→Prop}(hid:h id=some (RO s))
  (k:∀h2,h2=upd h id (some (RO s'))→h2 id=some (RO s')→(∀b,upd h2 id b=upd h id b)→Q R h2):ai Tryz.prog f (.ptr id 0::args) h Q:=
 hc.go hid (k _ rfl (ah ..) fun b=>by
  grind [ah,ag])
theorem CO(s:RS)(hw:WfR s)(lo hi:Int):RC 109 [.i lo,.i hi] s (.v (.int .i64 (rIn s lo hi).1)) (rIn s lo hi).2:=fun h id hid=>by
 have hw1:=hw.1;have hw2:=hw.2;refine abg Tryz.func109 45 [.tmp 6] fun hwf=>?_
 have g:=hid;unfold RO at g;cases d1:s.bad
 case true=>
  rw[d1]at g;simp only[go_sem,g];exact .mk _ (.refl _) (.refl _) ⟨by rw[rIn,if_pos d1];rfl,by rw[rIn,if_pos d1,bD hid]⟩
 have e:rIn s lo hi=(let x:=uK 10 0 0 (s.b.drop s.at_);if x.2=0∨x.1<lo∨hi<x.1 then(0,lp s s.at_)else(x.1,{s with at_:=s.at_+x.2})):=by
  simp_all [rIn,if_neg]
 rw[d1]at g;simp only[go_sem,g];refine(Iy s hw h id hid).pthen ?_;have hlen:=(yA 10 0 0 (s.b.drop s.at_)).1;rw[List.length_drop]at hlen;generalize uK 10 0 0 (s.b.drop s.at_)=x at e hlen⊢;obtain⟨n,z⟩:=x;simp only at e hlen⊢
 by_cases hb:z=0∨n<lo∨hi<n
 ·rw[if_pos hb]at e
  rw[e];have fin:∀P:Prop,P→P:=fun _ p=>p
  rcases Decidable.em (z=0)with c1|c1
  ·have d2:((z:Int)==0)=true:=by grind
   simp only[go_sem,g,d2];refine(nY s s.at_).go hid ?_;exact afU
  have d2:((z:Int)==0)=false:=abi;rcases Decidable.em (n<lo)with c2|c2
  ·simp only[go_sem,g,d2,decide_eq_true c2]
   refine(nY s s.at_).go hid ?_;exact afU
  ·simp only[go_sem,g,d2,decide_eq_false c2,decide_eq_true (show hi<n by omega)]
   refine(nY s s.at_).go hid ?_;exact afU
 ·rw[if_neg hb]at e
  rw[e];have d2:((z:Int)==0)=false:=abi;have w1:IntKind.i64.wrap ((s.at_:Int)+(z:Int))=((s.at_+z:Nat):Int):=abv;simp only[go_sem,g,d2,decide_eq_false (show¬n<lo by omega),decide_eq_false (show¬hi<n by omega),w1]
  exact .mk _ (.refl _) (.refl _) ⟨rfl,by grind [RO]⟩
theorem ES(s:RS)(hw:WfR s):RC 61 [] s (.v (.int .i64 (gb s).1)) (gb s).2:=fun h id hid=>by
 refine abg Tryz.func61 5 [.tmp 2] fun hwf=>?_
 simp only[go_sem];refine(CO s hw _ _).go hid ?_;exact afU
theorem BH{s:RS}{lo hi:Int}(hw:WfR s)(h0:lo≤0)(h1:0≤hi):lo≤(rIn s lo hi).1∧(rIn s lo hi).1≤hi:=by
 grind [rIn]
theorem gv{s:RS}{most:Int}(hw:WfR s)(hm:0≤most):WfR (bV s most).2:=by
 have h1:=ld (lo:=0) (hi:=most) hw;have h2:=BH (lo:=0) (hi:=most) hw (Int.le_refl 0) hm;unfold bV;simp only;split
 ·exact yy h1
 ·exact⟨abi,h1.2⟩
theorem oU(s:RS)(hw:WfR s)(most:Int)(hmo:0≤most):RC 62 [.i most] s (.s (bV s most).1) (bV s most).2:=fun h id hid=>by
 have hx:=ld (lo:=0) (hi:=most) hw;have hx2:=BH (lo:=0) (hi:=most) hw (Int.le_refl 0) hmo;refine abg Tryz.func62 59 [.tmp 4] fun hwf=>?_
 have g:=hid;unfold RO at g;simp only[go_sem,g];refine(CO s hw 0 most).step hid ?_;have e:bV s most=(let x:=rIn s 0 most;if x.2.bad∨(x.2.b.length:Int) - x.2.at_<x.1 then([],lp x.2 s.at_)else((x.2.b.drop x.2.at_).take x.1.toNat,{x.2 with at_:=x.2.at_+x.1.toNat})):=rfl
 generalize rIn s 0 most=x at e hx hx2⊢;obtain⟨n,t⟩:=x;simp only at e hx hx2⊢;obtain⟨m,rfl⟩:=Int.eq_ofNat_of_zero_le hx2.1;have ht1:=hx.1;have ht2:=hx.2;intro h2 eh2 hid2 hup;have g2:=hid2;unfold RO at g2;have w1:IntKind.i64.wrap ((t.b.length:Int) - (t.at_:Int))=(t.b.length:Int) - (t.at_:Int):=bh _ abh;clear eh2 hid g
 by_cases hb:t.bad=true∨(t.b.length:Int) - t.at_<((m:Nat):Int)
 ·rw[if_pos hb]at e
  rw[e];cases d1:t.bad<;>rw[d1]at g2
  ·have hb:(t.b.length:Int) - t.at_<((m:Nat):Int):=by
    grind
   simp only[go_sem,g2,w1,aa7,decide_eq_true hb];exact agj
  ·simp only[go_sem,g2]
   exact agj
 ·rw[if_neg hb]at e
  rw[e];have d1:t.bad=false:=by
   grind
  rw[d1]at g2;have hle:t.at_+m≤t.b.length:=abh;have w2:IntKind.i64.wrap ((t.at_:Int)+(m:Int))=((t.at_+m:Nat):Int):=abv;have w3:IntKind.i64.wrap (((t.at_+m:Nat):Int) - (m:Int))=(t.at_:Int):=abv;simp only[go_sem,g2,w1,aa7,decide_eq_false (show¬(t.b.length:Int) - t.at_<((m:Nat):Int) by omega)]
  refine⟨.of abl,?_⟩;simp only[go_sem,g2,w2,w3,aa7];exact⟨.of abl,abh,abh,abh,.mk _ (.refl _) (.refl _) ⟨by rw[show t.at_+m - t.at_=m by omega];rfl,by grind [RO]⟩⟩
structure RAt (h0:Heap) (id:Nat) (h:Heap) (s:RS):Prop where
 here:h id=some (RO s)
 sub:∀j b,j≠id→h0 j=some b→h j=some b
theorem RAt.start{h:Heap}{id:Nat}{s:RS}(hid:h id=some (RO s)):RAt h id h s:=⟨hid,fun _ _ _ e=>e⟩
theorem RAt.fin{h0 h:Heap}{id:Nat}{s:RS}(hr:RAt h0 id h s):Ab.Sub (upd h0 id (some (RO s))) h:=fun j b e=>by
 by_cases hj:j=id
 ·subst hj;rw[ah]at e;rw[hr.here,e]
 ·rw[ag _ _ hj]at e;exact hr.sub j b hj e
theorem RAt.ne{h0 h:Heap}{id i:Nat}{s:RS}(hr:RAt h0 id h s)(hi:h i=none):i≠id:=fun e=>by rw[e,hr.here]at hi;grind
theorem RAt.none{h0 h:Heap}{id i:Nat}{s:RS}(hr:RAt h0 id h s)(hi:h i=Option.none):h0 i=Option.none:=by
 cases e:h0 i with
 |none=>rfl
 |some b=>rw[hr.sub i b (hr.ne hi) e]at hi;omega
theorem RAt.put{h0 h:Heap}{id i:Nat}{s:RS}{b:Option Blk}(hr:RAt h0 id h s)(hi:h0 i=Option.none)(hn:i≠id):RAt h0 id (upd h i b) s:=
 ⟨by rw[ag _ _ (Ne.symm hn)];exact hr.here,fun j c hj e=>by
  rw[ag _ _ fun e2=>abi]
  exact hr.sub j c hj e⟩
theorem RAt.step{f:FuncId}{args:List AV}{s s' :RS}{R:AV}{h0 h:Heap}{id:Nat}{Q:AV→Heap→Prop}(hr:RAt h0 id h s)(hc:RC f args s R s')(k:∀h2,RAt h0 id h2 s'→(∀j,j≠id→h2 j=h j)→Q R h2):ai Tryz.prog f (.ptr id 0::args) h Q:=
 hc.go hr.here (k _ ⟨ah ..,fun j b hj e=>by rw[ag _ _ hj];exact hr.sub j b hj e⟩ fun j hj=>ag _ _ hj)
theorem GF{s:RS}(hw:WfR s):WfR (rj s).2:=by
 have h1:=ld (lo:=1) (hi:=5) hw;unfold rj;simp only;generalize rIn s 1 5=x at h1⊢;have h2:WfR (if sV x.1=true then((⟨x.1,0,(bV x.2 64).1⟩,(bV x.2 64).2):bA×RS)else(⟨x.1,(gb x.2).1,[]⟩,(gb x.2).2)).2:=by
  split
  ·grind [gv]
  ·exact ld h1
 generalize (if sV x.1=true then((⟨x.1,0,(bV x.2 64).1⟩,(bV x.2 64).2):bA×RS)else(⟨x.1,(gb x.2).1,[]⟩,(gb x.2).2))=y at h2⊢
 split
 ·exact afl
 ·split
  ·exact yy h2
  ·exact afl
theorem FG(s:RS)(hw:WfR s):RC 64 [] s (aR (rj s).1) (rj s).2:=fun h id hid=>by
 have hw1:=ld (lo:=1) (hi:=5) hw;refine abg Tryz.func64 31 [.cell 2 30] fun hwf=>?_
 simp only[go_sem];intro i1 h1;have a0:=RAt.start hid;have n1:=a0.ne h1;have m1:=a0.none h1;have a1:=a0.put (b:=some (.obj [.i 0,.i 0,.s []] 30)) m1 n1;simp only[go_sem];refine a1.step (JF s) fun g1 b1 k1=>?_
 have c1:=k1 i1 n1;rw[ah]at c1;clear a0 a1 k1;simp only[go_sem];refine b1.step (CO s hw 1 5) fun g2 b2 k2=>?_
 have c2:=(k2 i1 n1).trans c1;clear b1 c1 k2;simp only[go_sem];intro i2 h2;have n2:=b2.ne h2;have m2:=b2.none h2;have n21:i2≠i1:=fun e=>by rw[e,c2]at h2;cases h2
 have e:rj s=(let x:=rIn s 1 5;let y:bA×RS:=if sV x.1 then(let t:=bV x.2 64;(⟨x.1,0,t.1⟩,t.2))else(let t:=gb x.2;(⟨x.1,t.1,[]⟩,t.2));if y.2.bad then(ax,y.2)else if bE y.1=false then(ax,lp y.2 s.at_)else y):=rfl
 generalize rIn s 1 5=x at e hw1 b2⊢;obtain⟨kd,t⟩:=x;simp only at e hw1 b2⊢;have b3:=b2.put (b:=some (.obj [.i kd,.i 0,.s []] 30)) m2 n2;have c3:upd g2 i2 (some (.obj [.i kd,.i 0,.s []] 30)) i1=_:=(ag _ _ (Ne.symm n21)).trans c2;have d3:upd g2 i2 (some (.obj [.i kd,.i 0,.s []] 30)) i2=_:=ah ..;clear b2 c2 h2;simp only[go_sem,ah];generalize upd g2 i2 (some (.obj [.i kd,.i 0,.s []] 30))=g3 at b3 c3 d3⊢;refine(yS kd _).pthen ?_;simp only[go_sem];cases dt:(kd==3||kd==5)
 ·have et:sV kd=false:=dt
  rw[et]at e;simp only[Bool.false_eq_true,if_false]at e;simp only[go_sem];refine b3.step (ES t hw1) fun g4 b4 k4=>?_
  have c4:=(k4 i1 n1).trans c3;have d4:=(k4 i2 n2).trans d3;have e5:rj s=(if(gb t).2.bad then(ax,(gb t).2)else if bE (⟨kd,(gb t).1,[]⟩:bA)=false then(ax,lp (gb t).2 s.at_)else((⟨kd,(gb t).1,[]⟩:bA),(gb t).2)):=e
  have wT:WfR (gb t).2:=ld hw1;have b5:=b4.put (b:=(some (.obj [.i kd,.v (.int .i64 (gb t).1),.s []] 30))) m2 n2;have c5:upd g4 i2 (some (.obj [.i kd,.v (.int .i64 (gb t).1),.s []] 30)) i1=_:=(ag _ _ (Ne.symm n21)).trans c4;have d5:upd g4 i2 (some (.obj [.i kd,.v (.int .i64 (gb t).1),.s []] 30)) i2=_:=ah ..;simp only[go_sem,d4];generalize upd g4 i2 (some (.obj [.i kd,.v (.int .i64 (gb t).1),.s []] 30))=g5 at b5 c5 d5⊢;clear b4 c4 d4 k4 e;refine b5.step (za _) fun g6 b6 k6=>?_
  have c6:=(k6 i1 n1).trans c5;have d6:=(k6 i2 n2).trans d5;clear b5 c5 d5 k6;cases db:(gb t).2.bad
  ·rw[db,if_neg abk]at e5
   simp only[go_sem,db,d6];refine(fX (⟨kd,(gb t).1,[]⟩:bA) g6).pthen ?_;cases dv:bE (⟨kd,(gb t).1,[]⟩:bA)
   ·exact af5
   ·exact agS
  ·exact agT
 ·have et:sV kd=true:=dt
  rw[et]at e;simp only[if_true]at e;simp only[go_sem];refine b3.step (oU t hw1 64 abk) fun g4 b4 k4=>?_
  have c4:=(k4 i1 n1).trans c3;have d4:=(k4 i2 n2).trans d3;have e5:rj s=(if(bV t 64).2.bad then(ax,(bV t 64).2)else if bE (⟨kd,0,(bV t 64).1⟩:bA)=false then(ax,lp (bV t 64).2 s.at_)else((⟨kd,0,(bV t 64).1⟩:bA),(bV t 64).2)):=e
  have wT:WfR (bV t 64).2:=gv hw1 abk;have b5:=b4.put (b:=(some (.obj [.i kd,.i 0,.s (bV t 64).1] 30))) m2 n2;have c5:upd g4 i2 (some (.obj [.i kd,.i 0,.s (bV t 64).1] 30)) i1=_:=(ag _ _ (Ne.symm n21)).trans c4;have d5:upd g4 i2 (some (.obj [.i kd,.i 0,.s (bV t 64).1] 30)) i2=_:=ah ..;simp only[go_sem,d4];generalize upd g4 i2 (some (.obj [.i kd,.i 0,.s (bV t 64).1] 30))=g5 at b5 c5 d5⊢;clear b4 c4 d4 k4 e;refine b5.step (za _) fun g6 b6 k6=>?_
  have c6:=(k6 i1 n1).trans c5;have d6:=(k6 i2 n2).trans d5;clear b5 c5 d5 k6;cases db:(bV t 64).2.bad
  ·rw[db,if_neg abk]at e5
   simp only[go_sem,db,d6];refine(fX (⟨kd,0,(bV t 64).1⟩:bA) g6).pthen ?_;cases dv:bE (⟨kd,0,(bV t 64).1⟩:bA)
   ·exact af5
   ·exact agS
  ·exact agT
theorem GD{s:RS}(hw:WfR s):WfR (ri s).2:=by
 grind [ri,ld,GF]
theorem Qg(s:RS)(hw:WfR s)(q:Perm):RC 63 [.sl (s.b.map aM) q] s (aR (ri s).1) (ri s).2:=fun h id hid=>by
 have hw1:=hw.1;have hw2:=hw.2;refine abg Tryz.func63 25 [.cell 4 30] fun hwf=>?_
 simp only[go_sem];intro i1 h1;have a0:=RAt.start hid;have n1:=a0.ne h1;have m1:=a0.none h1;have a1:=a0.put (b:=some (.obj [.i 0,.i 0,.s []] 30)) m1 n1;simp only[go_sem];refine a1.step (JF s) fun g1 b1 k1=>?_
 have c1:=k1 i1 n1;rw[ah]at c1;clear a0 a1 k1
 by_cases hlt:s.at_<s.b.length
 ·have d1:decide ((s.at_:Int)<(s.b.length:Int))=true:=decide_eq_true abh
  simp only[go_sem,aa7,d1];refine b1.step (JF s) fun g2 b2 k2=>?_
  have c2:=(k2 i1 n1).trans c1;clear b1 c1 k2;simp only[go_sem];refine .at s.at_ abi aby ?_;have hg:s.b.getD s.at_ 0=s.b[s.at_]:=abi;generalize hcc:s.b[s.at_]=c at hg;cases d2:((c.toNat:Int)==0)
  ·have hne:c≠0:=fun e=>by simp_all
   have e:ri s=rj s:=by simp_all [ri,if_neg]
   rw[e];simp only[go_sem,aa8,hcc,aM,d2];refine b2.step (FG s hw) fun g3 b3 k3=>?_
   have c3:=(k3 i1 n1).trans c2;simp only[go_sem,c3,ah,aR];exact ad1
  ·have he:c=0:=by
    have:=eq_of_beq d2;exact UInt8.toNat_inj.1 abi
   have e:ri s=(ax,(rIn (rIn s 0 0).2 0 0).2):=by simp_all [ri,if_pos]
   rw[e];simp only[go_sem,aa8,hcc,aM,d2];refine b2.step (CO s hw 0 0) fun g3 b3 k3=>?_
   have c3:=(k3 i1 n1).trans c2;simp only[go_sem];refine b3.step (CO _ (ld hw) 0 0) fun g4 b4 k4=>?_
   have c4:=(k4 i1 n1).trans c3;simp only[go_sem,c4,ah];exact .mk _ (.refl _) (b4.put m1 n1).fin ⟨rfl,rfl⟩
 ·have d1:decide ((s.at_:Int)<(s.b.length:Int))=false:=decide_eq_false abh
  have e:ri s=rj s:=by simp_all [ri,if_neg]
  rw[e];simp only[go_sem,aa7,d1];refine b1.step (FG s hw) fun g3 b3 k3=>?_
  have c3:=(k3 i1 n1).trans c1;simp only[go_sem,c3,ah,aR];exact ad1
theorem B9(a b:Txt)(p q:Perm)(h:Heap):ai Tryz.prog 66 [.sl (a.map aM) p,.sl (b.map aM) q] h fun r h' =>r= .b (decide (a=b))∧h' =h:=by
 refine abg Tryz.func66 10 [.tmp 4] fun hwf=>?_
 simp only[go_sem];exact .same (.refl _) ⟨by
  grind [au],rfl⟩
structure OpL (o:OpD):Prop where
 subj:o.subj.length≤100000
 case:o.case.length≤100000
 field:o.field.length≤100000
 to:o.to.length≤100000
 val:o.val.s.length≤100000
 text:o.text.length≤100000
 reason:o.reason.length≤100000
def opT(o:OpD):List Txt:=[o.subj,o.case,o.field,o.to]
theorem BG(o:OpD)(h64:nw o)(hl:OpL o)(h:Heap):ai Tryz.prog 23 [opA o] h fun r h' =>r= .sl ((fJ o).map aM) .no∧h' =h:=by
 obtain⟨k1,k2,k3,k4⟩:=h64;have hnk:=jB o.kind;obtain⟨l1,l2,l3,l4,l5,l6,l7⟩:=hl;have t1:=fI o.subj;have t2:=fI o.case;have t3:=fI o.field;have t4:=fI o.to;refine abg Tryz.func23 46 [.tmp 2] fun hwf=>?_
 simp only[go_sem,opA,opC];intro id hid;simp only[go_sem];refine(Bz (.sl [] .full) [] o.kind _ (.nil _) abp k1).pthen ?_;simp only[go_sem];generalize hH:upd h id _=H;have hHid:H id=some (.obj (opC o) 32):=by rw[←hH];exact ah ..
 have hsub:Ab.Sub h H:=by rw[←hH];exact(Sub.refl h).new hid _
 unfold opC at hHid;clear hH;refine .intro (fun m ρ h' =>h' =H∧∃i:Nat,i≤4∧m=4 - i∧lk ρ 1=some (.ptr id 0)∧lk ρ 3=some (.sl ((ni o.kind++(((opT o).map eL).take i).flatten).map aM) .no)∧(∃q,lk ρ 17=some (.sl ((opT o).map .s) q))∧lk ρ 18=some (.i 4)∧lk ρ 19=some (.i i)) 4 ?_ ?_
 ·refine⟨rfl,0,abh,rfl,?_,?_,?_,?_,?_⟩
  ·rfl
  ·simp only[go_sem]
   simp
  ·refine⟨?_,?_⟩
   rotate_left
   ·simp only[go_sem]
    rfl
  ·rfl
  rfl
 rintro m ρ h' ⟨rfl,i,hi,rfl,r1,r3,⟨q,r17⟩,r18,r19⟩
 have hLl:((opT o).map eL).length=4:=rfl;have hOl:(opT o).length=4:=rfl;have hF:((opT o).map eL).flatten.length≤400040:=by grind [opT]
 have hf:=oc ((opT o).map eL) i;have hall:∀t∈opT o,t.length≤100000:=by simp_all [opT]
 by_cases hc:i<4
 ·have d1:decide ((i:Int)<4)=true:=decide_eq_true abh
  have w1:IntKind.i64.wrap ((i:Int)+1)=((i+1:Nat):Int):=abv;have hs:=ng ((opT o).map eL) i abh;rw[aa8]at hs;have ht:=hall _ (abc (show i<(opT o).length by omega))
  simp only[go_sem,r1,r3,r17,r18,r19,d1];refine .at i abi aby ?_;simp only[go_sem,r1,r3,r17,r18,r19,aa8];refine(wM _ (ni o.kind++(((opT o).map eL).take i).flatten) (opT o)[i] _ (.sl _ _) abi abh).pthen ?_;simp only[go_sem,r1,r3,r17,r18,r19,w1];refine⟨3 - i,abh,rfl,i+1,abh,abh,?_,?_,⟨q,?_⟩,?_,?_⟩
  ·simp only[go_sem,r1]
  ·simp only[go_sem,hs,List.append_assoc]
   rfl
  ·simp only[go_sem,r17]
  ·simp only[go_sem,r18]
  ·simp only[go_sem]
 ·have e:i=4:=by omega
  subst e;have e4:(((opT o).map eL).take 4).flatten=eL o.subj++(eL o.case++(eL o.field++eL o.to)):=by simp[opT]
  rw[e4]at r3 hf;have d1:decide ((4:Int)<4)=false:=rfl;generalize hP:ni o.kind++(eL o.subj++(eL o.case++(eL o.field++eL o.to)))=P1 at r3;have hP1:P1.length≤400050:=abi;simp only[go_sem,r1,r3,r17,r18,r19,hHid,d1];refine .quiet abl ?_;simp only[go_sem,r1,r3,r17,r18,r19,hHid,d1];refine⟨_,GA _ P1 o.val _ (.sl _ _) abh k2 k3 abh,?_⟩;have e2:(tO o.val).length≤100020:=by
   grind [tO,abb,jB,fI]
  simp only[go_sem,r1,hHid];refine⟨_,Bz _ (P1++tO o.val) o.review _ (.sl _ _) abi k4,?_⟩;generalize hP2:P1++tO o.val++ni o.review=P2;have hP2l:P2.length≤500080:=by
   grind [jB,abb]
  simp only[go_sem,r1,hHid];refine .quiet abl ?_;simp only[go_sem,r1,hHid];refine⟨_,wM _ P2 o.text _ (.sl _ _) abh abh,?_⟩;have e3:=fI o.text;simp only[go_sem,r1,hHid];refine⟨_,wM _ (P2++eL o.text) o.reason _ (.sl _ _) abi abh,?_⟩;generalize hP3:P2++eL o.text++eL o.reason=P3;have e4:=fI o.reason;have hP3l:P3.length≤800000:=abi;simp only[go_sem,r1,hHid];refine(DT o.glass _).pthen ?_;simp only[go_sem];refine(GA _ P3 (dJ o.glass) _ (.sl _ _) abh ?_ ?_ ?_).pthen ?_
  ·cases o.glass<;>exact⟨abk,abk⟩
  ·cases o.glass<;>exact⟨abk,abk⟩
  ·cases o.glass<;>decide
  simp only[go_sem];refine .mk _ (.refl _) hsub ⟨?_,rfl⟩
  grind [fJ,List.append_assoc,au]
theorem jS.base{h H g:Heap}{y:AV}{l:Txt}(hs:Ab.Sub h H)(ha:jS H g y l):jS h g y l:=by
 obtain⟨h1,h2|⟨id,i1,h2,h3⟩⟩:=ha
 ·exact⟨hs.trans h1,.inl h2⟩
 ·exact⟨hs.trans h1,.inr ⟨id,hs.none i1,h2,h3⟩⟩
theorem Ny(ch:BitVec 64)(o:OpD)(h64:nw o)(hl:OpL o)(hp:(fJ o).length≤1000000)(h:Heap):ai Tryz.prog 18 [.v (.int .u64 (ch.toNat:Int)),opA o] h fun r h' =>jS h h' r (gK ch o):=by
 refine abg Tryz.func18 20 [.tmp 4] fun hwf=>?_
 simp only[go_sem,opA,opC];intro id hid;generalize hH:upd h id _=H;have hHid:H id=some (.obj (opC o) 32):=by rw[←hH];exact ah ..
 have hsub:Ab.Sub h H:=by rw[←hH];exact(Sub.refl h).new hid _
 clear hH;simp only[go_sem];refine .intro (fun k ρ g=>∃(i:Nat) (v:BitVec 64) (l:Txt) (z:AV),jS H g z l∧i+k=8∧l++pW k v=pW 8 ch∧lk ρ 0=some (.v (.int .u64 (v.toNat:Int)))∧lk ρ 3=some (.ptr id 0)∧lk ρ 5=some z∧lk ρ 6=some (.i (i:Int))) 8 ?_ ?_
 ·refine⟨0,ch,[],_,Acc.full (.refl _),rfl,rfl,?_,?_,?_,?_⟩<;>simp only[go_sem]
  all_goals rfl
 rintro k ρ g ⟨i,v,l,z,ha,hk,hv,r0,r3,r5,r6⟩
 have hll:=congrArg List.length hv;rw[abb,qP,qP]at hll;rcases k with _|k
 ·have d1:decide ((i:Int)<8)=false:=decide_eq_false abh
  have hg:=ha.1 _ _ hHid;unfold opC at hg;rw[show pW 0 v= []from rfl,List.append_nil]at hv
  subst hv;simp only[go_sem,r0,r3,r5,r6,d1,hg];refine(BG o h64 hl g).pthen ?_;simp only[go_sem];refine jS.app ha (m:=fJ o) (fun _ hk=>hk) abh fun z' h2 ha' =>?_
  simp only[go_sem];exact .same (.refl _) (ha'.base hsub)
 ·have d1:decide ((i:Int)<8)=true:=decide_eq_true abh
  have w1:IntKind.i64.wrap ((i:Int)+1)=((i+1:Nat):Int):=abv;simp only[go_sem,r0,r3,r5,r6,d1,wu8];refine jS.app ha (m:=[UInt8.ofNat v.toNat]) (fun _ hk=>hk) abi fun z' h2 ha' =>?_
  have e8:v.toNat / 256=(v>>>8).toNat:=adG;simp only[go_sem,r0,r3,r5,r6,w1,e8];refine⟨k,abh,i+1,v>>>8,l++ [UInt8.ofNat v.toNat],z',ha',abh,?_,?_,?_,?_,?_⟩
  ·grind [pW]
  all_goals simp only[go_sem,r3]
theorem BL(ch:BitVec 64)(o:OpD)(h64:nw o)(hl:OpL o)(hp:(fJ o).length≤1000000)(h:Heap):ai Tryz.prog 18 [.v (.int .u64 (ch.toNat:Int)),opA o] h fun r h' =>r= .sl ((gK ch o).map aM) .no∧h' =h:=
 jS.pure fun g _=>Ny ch o h64 hl hp g
theorem tG{s:RS}(hw:WfR s):i64 (gb s).1:=BH hw abk abk
theorem Hf:i64 ax.kind∧i64 ax.n:=⟨⟨abk,abk⟩,⟨abk,abk⟩⟩
theorem GC{s:RS}{a:Nat}:(lp s a).b=s.b:=by grind [lp]
theorem OF{s:RS}{lo hi:Int}:(rIn s lo hi).2.b=s.b:=by
 grind [rIn,GC]
theorem wG{s:RS}{m:Int}:(bV s m).2.b=s.b:=by
 grind [bV,GC,OF]
theorem Nt{s:RS}(hw:WfR s):i64 (rj s).1.kind∧i64 (rj s).1.n:=by
 have hz:=Hf;have h1:=ld (lo:=1) (hi:=5) hw;have h2: -1≤(rIn s 1 5).1∧(rIn s 1 5).1≤5:=by
  grind [rIn]
 unfold rj;simp only;generalize rIn s 1 5=x at h1 h2⊢;have h3:i64 (if sV x.1=true then((⟨x.1,0,(bV x.2 64).1⟩,(bV x.2 64).2):bA×RS)else(⟨x.1,(gb x.2).1,[]⟩,(gb x.2).2)).1.kind∧i64 (if sV x.1=true then((⟨x.1,0,(bV x.2 64).1⟩,(bV x.2 64).2):bA×RS)else(⟨x.1,(gb x.2).1,[]⟩,(gb x.2).2)).1.n:=by
  split
  ·exact⟨⟨abi,abi⟩,⟨abp,abp⟩⟩
  ·exact⟨⟨abi,abi⟩,tG h1⟩
 generalize (if sV x.1=true then((⟨x.1,0,(bV x.2 64).1⟩,(bV x.2 64).2):bA×RS)else(⟨x.1,(gb x.2).1,[]⟩,(gb x.2).2))=y at h3⊢
 split
 ·exact hz
 ·split
  ·exact hz
  ·exact h3
theorem BI{s:RS}(hw:WfR s):i64 (ri s).1.kind∧i64 (ri s).1.n:=by
 grind [ri,Hf,Nt]
def rU:OpD:=⟨0,[],[],[],[],ax,0,[],[],false⟩
def CE(l:Txt):AV:=.tup [opA ((mq l).getD rU),.v (.bool (mq l).isSome)]
theorem Qw(l:Txt):rOp l=(let k:=gb ⟨l,0,false⟩;let s1:=bV k.2 16;let s2:=bV s1.2 16;let s3:=bV s2.2 16;let s4:=bV s3.2 16;let v:=ri s4.2;let r:=gb v.2;let t:=bV r.2 4096;let w:=bV t.2 64;let g:=rj w.2
 (⟨k.1,s1.1,s2.1,s3.1,s4.1,v.1,r.1,t.1,w.1,eqV g.1 (dJ true)⟩,g.2)):=rfl
theorem f_l{o:OpD}(h:OpF o):OpL o:=by
 obtain⟨a,b,c,d,e,f,g⟩:=h;refine⟨abh,abh,abh,abh,?_,abh,abh⟩;rcases e with e|e
 ·rw[e];decide
 ·exact ag4
theorem RAt.base{h g:Heap}{id:Nat}{s:RS}(hr:RAt h id g s)(hn:h id=Option.none):Ab.Sub h g:=fun j b e=>hr.sub j b abi e
set_option maxHeartbeats 1000000 in
theorem xI(l:Txt)(q:Perm)(hl:l.length≤1000000)(h:Heap):ai Tryz.prog 24 [.sl (l.map aM) q] h fun r h' =>r=CE l∧h' =h:=by
 refine abg Tryz.func24 58 [.cell 2 32,.tmp 3] fun hwf=>?_
 simp only[go_sem];intro i1 h1;simp only[go_sem];refine(Nx _ l _ (.sl _ _) hl).mono fun r g ⟨id,hid,er,eg⟩=>?_
 subst er;have n1:i1≠id:=fun e=>afi
 have m0:h id=none:=by simp_all [ag,Ne.symm]
 have w0:WfR ⟨l,0,false⟩:=⟨Nat.zero_le _,hl⟩;have b0:RAt h id g ⟨l,0,false⟩:=⟨by simp_all [ah],fun j b hj e=>by
  rw[eg,ag _ _ hj,ag _ _ fun e2=>abi]
  exact e⟩
 have c0:g i1=some (.obj (opC rU) 32):=by rw[eg,ag _ _ n1];exact ah ..
 clear eg hid;simp only[go_sem];intro i2 h2;have n2:=b0.ne h2;have m1:=h1;have m2:=b0.none h2;have n21:i2≠i1:=fun e=>abi
 clear h2;have e:=Qw l;simp only at e;have g0e:g=g:=rfl;generalize g=g0 at b0 c0⊢;clear g0e;simp only[go_sem];have b0' :=b0.put (b:=(some (.obj [.i 0,.s [],.s [],.s [],.s [],.i 0,.i 0,.s [],.i 0,.s [],.s [],.b false] 32))) m2 n2;have c0' :upd g0 i2 (some (.obj [.i 0,.s [],.s [],.s [],.s [],.i 0,.i 0,.s [],.i 0,.s [],.s [],.b false] 32)) i1=_:=(ag _ _ (Ne.symm n21)).trans c0;have d0' :upd g0 i2 (some (.obj [.i 0,.s [],.s [],.s [],.s [],.i 0,.i 0,.s [],.i 0,.s [],.s [],.b false] 32)) i2=_:=ah ..;clear b0 c0;generalize upd g0 i2 (some (.obj [.i 0,.s [],.s [],.s [],.s [],.i 0,.i 0,.s [],.i 0,.s [],.s [],.b false] 32))=g1 at b0' c0' d0'⊢;have b1:=b0';have c1:=c0';have d1:=d0';clear b0' c0' d0';refine b1.step (ES _ w0) fun g2 b2 k2=>?_
 have c2:=(k2 i1 n1).trans c1;have d2:=(k2 i2 n2).trans d1;clear b1 c1 d1 k2;have w1:=ld (lo:= -9223372036854775808) (hi:=9223372036854775807) w0;have q1:=tG w0
 change WfR (gb _).2 at w1
 have hb1:(gb ⟨l,0,false⟩).2.b=l:=OF;generalize gb ⟨l,0,false⟩=x1 at e w1 q1 hb1 b2⊢;obtain⟨v1,s1⟩:=x1;simp only at e w1 q1 hb1 b2⊢;simp only[go_sem,d2,ah];have b2' :=b2.put (b:=(some (.obj [.i v1,.s [],.s [],.s [],.s [],.i 0,.i 0,.s [],.i 0,.s [],.s [],.b false] 32))) m2 n2;have c2' :upd g2 i2 (some (.obj [.i v1,.s [],.s [],.s [],.s [],.i 0,.i 0,.s [],.i 0,.s [],.s [],.b false] 32)) i1=_:=(ag _ _ (Ne.symm n21)).trans c2;have d2' :upd g2 i2 (some (.obj [.i v1,.s [],.s [],.s [],.s [],.i 0,.i 0,.s [],.i 0,.s [],.s [],.b false] 32)) i2=_:=ah ..;clear b2 c2 d2;generalize upd g2 i2 (some (.obj [.i v1,.s [],.s [],.s [],.s [],.i 0,.i 0,.s [],.i 0,.s [],.s [],.b false] 32))=g3 at b2' c2' d2'⊢;have b3:=b2';have c3:=c2';have d3:=d2';clear b2' c2' d2';refine b3.step (oU _ w1 16 abk) fun g4 b4 k4=>?_
 have c4:=(k4 i1 n1).trans c3;have d4:=(k4 i2 n2).trans d3;clear b3 c3 d3 k4;have w2:=gv (most:=16) w1 abk;have hb2:(bV s1 16).2.b=l:=wG.trans hb1;generalize bV s1 16=x2 at e w2 hb2 b4⊢;obtain⟨v2,s2⟩:=x2;simp only at e w2 hb2 b4⊢;simp only[go_sem];refine b4.step (oU _ w2 16 abk) fun g5 b5 k5=>?_
 have c5:=(k5 i1 n1).trans c4;have d5:=(k5 i2 n2).trans d4;clear b4 c4 d4 k5;have w3:=gv (most:=16) w2 abk;have hb3:(bV s2 16).2.b=l:=wG.trans hb2;generalize bV s2 16=x3 at e w3 hb3 b5⊢;obtain⟨v3,s3⟩:=x3;simp only at e w3 hb3 b5⊢;simp only[go_sem];refine b5.step (oU _ w3 16 abk) fun g6 b6 k6=>?_
 have c6:=(k6 i1 n1).trans c5;have d6:=(k6 i2 n2).trans d5;clear b5 c5 d5 k6;have w4:=gv (most:=16) w3 abk;have hb4:(bV s3 16).2.b=l:=wG.trans hb3;generalize bV s3 16=x4 at e w4 hb4 b6⊢;obtain⟨v4,s4⟩:=x4;simp only at e w4 hb4 b6⊢;simp only[go_sem];refine b6.step (oU _ w4 16 abk) fun g7 b7 k7=>?_
 have c7:=(k7 i1 n1).trans c6;have d7:=(k7 i2 n2).trans d6;clear b6 c6 d6 k7;have w5:=gv (most:=16) w4 abk;have hb5:(bV s4 16).2.b=l:=wG.trans hb4;generalize bV s4 16=x5 at e w5 hb5 b7⊢;obtain⟨v5,s5⟩:=x5;simp only at e w5 hb5 b7⊢;simp only[go_sem,d7,ah];have b7' :=b7.put (b:=(some (.obj [.i v1,.s v2,.s v3,.s v4,.s v5,.i 0,.i 0,.s [],.i 0,.s [],.s [],.b false] 32))) m2 n2;have c7' :upd g7 i2 (some (.obj [.i v1,.s v2,.s v3,.s v4,.s v5,.i 0,.i 0,.s [],.i 0,.s [],.s [],.b false] 32)) i1=_:=(ag _ _ (Ne.symm n21)).trans c7;have d7' :upd g7 i2 (some (.obj [.i v1,.s v2,.s v3,.s v4,.s v5,.i 0,.i 0,.s [],.i 0,.s [],.s [],.b false] 32)) i2=_:=ah ..;clear b7 c7 d7;generalize upd g7 i2 (some (.obj [.i v1,.s v2,.s v3,.s v4,.s v5,.i 0,.i 0,.s [],.i 0,.s [],.s [],.b false] 32))=g8 at b7' c7' d7'⊢;have b8:=b7';have c8:=c7';have d8:=d7';clear b7' c7' d7';rw[show l.map aM=s5.b.map aM by grind]
 refine b8.step (Qg _ w5 _) fun g9 b9 k9=>?_
 have c9:=(k9 i1 n1).trans c8;have d9:=(k9 i2 n2).trans d8;clear b8 c8 d8 k9;have w6:=GD w5;have q6:=BI w5;generalize ri s5=x6 at e w6 q6 b9⊢;obtain⟨v6,s6⟩:=x6;simp only at e w6 q6 b9⊢;simp only[go_sem,d9,ah,aR];have b9' :=b9.put (b:=(some (.obj [.i v1,.s v2,.s v3,.s v4,.s v5,.i v6.kind,.i v6.n,.s v6.s,.i 0,.s [],.s [],.b false] 32))) m2 n2;have c9' :upd g9 i2 (some (.obj [.i v1,.s v2,.s v3,.s v4,.s v5,.i v6.kind,.i v6.n,.s v6.s,.i 0,.s [],.s [],.b false] 32)) i1=_:=(ag _ _ (Ne.symm n21)).trans c9;have d9' :upd g9 i2 (some (.obj [.i v1,.s v2,.s v3,.s v4,.s v5,.i v6.kind,.i v6.n,.s v6.s,.i 0,.s [],.s [],.b false] 32)) i2=_:=ah ..;clear b9 c9 d9;generalize upd g9 i2 (some (.obj [.i v1,.s v2,.s v3,.s v4,.s v5,.i v6.kind,.i v6.n,.s v6.s,.i 0,.s [],.s [],.b false] 32))=g10 at b9' c9' d9'⊢;have b10:=b9';have c10:=c9';have d10:=d9';clear b9' c9' d9';refine b10.step (ES _ w6) fun g11 b11 k11=>?_
 have c11:=(k11 i1 n1).trans c10;have d11:=(k11 i2 n2).trans d10;clear b10 c10 d10 k11;have w7:=ld (lo:= -9223372036854775808) (hi:=9223372036854775807) w6;have q7:=tG w6
 change WfR (gb _).2 at w7
 generalize gb s6=x7 at e w7 q7 b11⊢;obtain⟨v7,s7⟩:=x7;simp only at e w7 q7 b11⊢;simp only[go_sem,d11,ah];have b11' :=b11.put (b:=(some (.obj [.i v1,.s v2,.s v3,.s v4,.s v5,.i v6.kind,.i v6.n,.s v6.s,.i v7,.s [],.s [],.b false] 32))) m2 n2;have c11' :upd g11 i2 (some (.obj [.i v1,.s v2,.s v3,.s v4,.s v5,.i v6.kind,.i v6.n,.s v6.s,.i v7,.s [],.s [],.b false] 32)) i1=_:=(ag _ _ (Ne.symm n21)).trans c11;have d11' :upd g11 i2 (some (.obj [.i v1,.s v2,.s v3,.s v4,.s v5,.i v6.kind,.i v6.n,.s v6.s,.i v7,.s [],.s [],.b false] 32)) i2=_:=ah ..;clear b11 c11 d11;generalize upd g11 i2 (some (.obj [.i v1,.s v2,.s v3,.s v4,.s v5,.i v6.kind,.i v6.n,.s v6.s,.i v7,.s [],.s [],.b false] 32))=g12 at b11' c11' d11'⊢;have b12:=b11';have c12:=c11';have d12:=d11';clear b11' c11' d11';refine b12.step (oU _ w7 4096 abk) fun g13 b13 k13=>?_
 have c13:=(k13 i1 n1).trans c12;have d13:=(k13 i2 n2).trans d12;clear b12 c12 d12 k13;have w8:=gv (most:=4096) w7 abk;generalize bV s7 4096=x8 at e w8 b13⊢;obtain⟨v8,s8⟩:=x8;simp only at e w8 b13⊢;simp only[go_sem];refine b13.step (oU _ w8 64 abk) fun g14 b14 k14=>?_
 have c14:=(k14 i1 n1).trans c13;have d14:=(k14 i2 n2).trans d13;clear b13 c13 d13 k14;have w9:=gv (most:=64) w8 abk;generalize bV s8 64=x9 at e w9 b14⊢;obtain⟨v9,s9⟩:=x9;simp only at e w9 b14⊢;simp only[go_sem,d14,ah];have b14' :=b14.put (b:=(some (.obj [.i v1,.s v2,.s v3,.s v4,.s v5,.i v6.kind,.i v6.n,.s v6.s,.i v7,.s v8,.s v9,.b false] 32))) m2 n2;have c14' :upd g14 i2 (some (.obj [.i v1,.s v2,.s v3,.s v4,.s v5,.i v6.kind,.i v6.n,.s v6.s,.i v7,.s v8,.s v9,.b false] 32)) i1=_:=(ag _ _ (Ne.symm n21)).trans c14;have d14' :upd g14 i2 (some (.obj [.i v1,.s v2,.s v3,.s v4,.s v5,.i v6.kind,.i v6.n,.s v6.s,.i v7,.s v8,.s v9,.b false] 32)) i2=_:=ah ..;clear b14 c14 d14;generalize upd g14 i2 (some (.obj [.i v1,.s v2,.s v3,.s v4,.s v5,.i v6.kind,.i v6.n,.s v6.s,.i v7,.s v8,.s v9,.b false] 32))=g15 at b14' c14' d14'⊢;have b15:=b14';have c15:=c14';have d15:=d14';clear b14' c14' d14';refine b15.step (FG _ w9) fun g16 b16 k16=>?_
 have c16:=(k16 i1 n1).trans c15;have d16:=(k16 i2 n2).trans d15;clear b15 c15 d15 k16;have w10:=GF w9;generalize rj s9=x10 at e w10 b16⊢;obtain⟨v10,s10⟩:=x10;simp only at e w10 b16⊢;simp only[go_sem];refine(DT true _).pthen ?_;simp only[go_sem,d16,ah,aR,dJ];generalize hgl:(v10.kind==1 && (v10.n==1 && v10.s== []))=gl;have egl:eqV v10 (dJ true)=gl:=hgl;rw[egl]at e;clear egl hgl;have b16' :=b16.put (b:=(some (.obj [.i v1,.s v2,.s v3,.s v4,.s v5,.i v6.kind,.i v6.n,.s v6.s,.i v7,.s v8,.s v9,.b gl] 32))) m2 n2;have c16' :upd g16 i2 (some (.obj [.i v1,.s v2,.s v3,.s v4,.s v5,.i v6.kind,.i v6.n,.s v6.s,.i v7,.s v8,.s v9,.b gl] 32)) i1=_:=(ag _ _ (Ne.symm n21)).trans c16;have d16' :upd g16 i2 (some (.obj [.i v1,.s v2,.s v3,.s v4,.s v5,.i v6.kind,.i v6.n,.s v6.s,.i v7,.s v8,.s v9,.b gl] 32)) i2=_:=ah ..;clear b16 c16 d16;generalize upd g16 i2 (some (.obj [.i v1,.s v2,.s v3,.s v4,.s v5,.i v6.kind,.i v6.n,.s v6.s,.i v7,.s v8,.s v9,.b gl] 32))=g17 at b16' c16' d16'⊢;have b17:=b16';have c17:=c16';have d17:=d16';clear b16' c16' d16';refine b17.step (PN _) fun g18 b18 k18=>?_
 have c18:=(k18 i1 n1).trans c17;have d18:=(k18 i2 n2).trans d17;clear b17 c17 d17 k18;generalize ho:(⟨v1,v2,v3,v4,v5,v6,v7,v8,v9,gl⟩:OpD)=o at e;have hd:g18 i2=some (.obj (opC o) 32):=by rw[d18,←ho];rfl
 have h64:nw o:=by rw[←ho];exact⟨q1,q6.1,q6.2,q7⟩
 have hc:g18 i1=some (.obj (opC rU) 32):=c18;clear d18 c18 ho;have hnone:∀(g:Heap),RAt h id g s10→mq l=none→mA [opA rU,.b false] g fun r h' =>r=CE l∧h' =h:=fun g hg en=>
  .mk _ (.refl _) (hg.base m0) ⟨by unfold CE;rw[en];rfl,rfl⟩
 unfold opC rU ax at hc;unfold opC at hd;cases de:Li s10
 ·have en:mq l=none:=by grind [mq]
  simp only[go_sem,de,hc,ah];exact aeh
 simp only[go_sem,de,hd];refine(wC o _).pthen ?_;cases df:dj o
 ·exact agZ
 have hF:=jV df;simp only[go_sem,hd];refine(BG o h64 (f_l hF) _).pthen ?_;simp only[go_sem];rw[hb5];refine(B9 (fJ o) l _ _ _).pthen ?_;cases dp:decide (fJ o=l)
 ·exact agZ
 ·have en:mq l=some o:=by grind [mq]
  simp only[go_sem,hc,hd,ah];exact .mk _ (.refl _) ((b18.put m1 n1).base m0) ⟨by unfold CE;rw[en];rfl,rfl⟩
theorem On(s q:BitVec 64):IntKind.u64.wrap (IntKind.u64.wrap (((BitVec.ofInt 64 (s.toNat:Int) ^^^ BitVec.ofInt 64 (q.toNat:Int)).toNat:Nat):Int)*1099511628211)=(((s ^^^ q)*1099511628211#64).toNat:Int):=by
 rw[BitVec.ofInt_natCast,BitVec.ofInt_natCast,BitVec.ofNat_toNat,BitVec.ofNat_toNat,BitVec.setWidth_eq,BitVec.setWidth_eq];generalize s ^^^ q=x;rw[NV _ x.isLt];have e:(x.toNat:Int)*1099511628211=((x.toNat*1099511628211:Nat):Int):=abh;rw[e,OT,BitVec.toNat_mul,BitVec.toNat_ofNat]
theorem Ph(p:BitVec 64):p.toNat % 256=(p &&& 255#64).toNat:=by
 exact(Nat.and_two_pow_sub_one_eq_mod p.toNat 8).symm
theorem Cd(prev:BitVec 64)(y:AV)(l:Txt)(h:Heap)(hb:By h y l)(hl:l.length≤1000000):
  ai Tryz.prog 20 [.v (.int .u64 (prev.toNat:Int)),y] h fun r h' =>r= .v (.int .u64 ((rJ prev l).toNat:Int))∧h' =h:=by
 refine abg Tryz.func20 31 [.tmp 4] fun hwf=>?_
 simp only[go_sem];refine .intro (fun k ρ g=>g=h∧∃(i:Nat) (p s:BitVec 64),i+k=8∧HS k p s=HS 8 prev 14695981039346656037#64∧lk ρ 0=some (.v (.int .u64 (p.toNat:Int)))∧lk ρ 1=some y∧lk ρ 5=some (.v (.int .u64 (s.toNat:Int)))∧lk ρ 8=some (.i (i:Int))) 8 ?_ ?_
 ·refine⟨rfl,0,prev,14695981039346656037#64,rfl,rfl,?_,?_,?_,?_⟩<;>simp only[go_sem]
  rfl
 rintro k ρ g ⟨rfl,i,p,s,hk,hv,r0,r1,r5,r8⟩
 rcases k with _|k
 ·have d1:decide ((i:Int)<8)=false:=decide_eq_false abh
  simp only[go_sem,r0,r1,r5,r8,d1,hb.len];refine .intro (fun k ρ g' =>g' =g∧∃(i:Nat) (s:BitVec 64),i+k=l.length∧(l.drop i).foldl (fun h c=>fnv h c.toNat) s=rJ prev l∧lk ρ 5=some (.v (.int .u64 (s.toNat:Int)))∧lk ρ 18=some y∧lk ρ 19=some (.i (l.length:Int))∧lk ρ 20=some (.i (i:Int))) l.length ?_ ?_
  ·refine⟨rfl,0,s,abh,by grind [HU,rJ],?_,?_,?_,?_⟩<;>simp only[go_sem,r5,r1]
   all_goals rfl
  clear r0 r1 r5 r8 hv
  rintro k ρ g' ⟨rfl,i,s,hk,hv,r5,r18,r19,r20⟩
  rcases k with _|k
  ·have d1:decide ((i:Int)<(l.length:Int))=false:=decide_eq_false abh
   simp only[go_sem,r5,r18,r19,r20,d1];rw[List.drop_eq_nil_of_le abh]at hv;exact .same (.refl _) ⟨by rw[←hv];rfl,rfl⟩
  ·have hlt:i<l.length:=by omega
   have d1:decide ((i:Int)<(l.length:Int))=true:=decide_eq_true abh;have w1:IntKind.i64.wrap ((i:Int)+1)=((i+1:Nat):Int):=abv;rw[List.drop_eq_getElem_cons hlt]at hv;simp only[go_sem,r5,r18,r19,r20,d1];refine hb.idx i rfl hlt u5 u5a fun q hq=>?_
   generalize l[i]=c at hq hv;have hcl:=c.toNat_lt;have w2:IntKind.u64.wrap (c.toNat:Int)=((BitVec.ofNat 64 c.toNat).toNat:Int):=abx;have hx:=hq (fun v=>v=aM c)
   simp only[go_sem,r5,r18,r19,r20,hq _,aM,w2,w1];refine⟨k,abh,rfl,i+1,fnv s c.toNat,abh,abi,?_,?_,?_,?_⟩<;>simp only[go_sem,r18,r19,fnv]
   exact congrArg (fun z=>some (AV.v (Value.int IntKind.u64 z))) (On s _)
 ·have d1:decide ((i:Int)<8)=true:=decide_eq_true abh
  have w1:IntKind.i64.wrap ((i:Int)+1)=((i+1:Nat):Int):=abv;have e8:p.toNat / 256=(p>>>8).toNat:=adG;have hp:=p.isLt;simp only[go_sem,r0,r1,r5,r8,d1,w1,show p.toNat<18446744073709551616 from hp,Ph,e8]
  refine⟨k,abh,rfl,i+1,p>>>8,fnv s (p &&& 255#64).toNat,abh,by grind [HT],?_,?_,?_,?_⟩<;>simp only[go_sem,r1,fnv,BitVec.ofNat_toNat,BitVec.setWidth_eq]
  exact congrArg (fun z=>some (AV.v (Value.int IntKind.u64 z))) (On s _)
def iY(s:an):List AV:=[.i s.tick,fQ s.cases,jP s.reviews,kM s.notices,dR s.roles]++fO s.policy++ [.i s.version]
def lq(jid:Nat)(e:ia)(yl:AV):Blk:=.obj ([.ptr jid 0]++iY e.s++ [yl,.v (.int .u64 (e.ch.toNat:Int))]) 101
theorem cL(s:an):∃a1 a2 a3 a4 a5 a6 a7,iY s= [.i s.tick,fQ s.cases,jP s.reviews,kM s.notices,dR s.roles,a1,a2,a3,a4,a5,a6,a7,.i s.version]:=by
 obtain⟨tick,cases,reviews,notices,roles,policy,version⟩:=s;obtain⟨id,set,alg,tgt,rules,kids,obls⟩:=policy;exact⟨_,_,_,_,_,_,_,rfl⟩
def AB(e:ia)(l:Txt):AV:=.tup [opA ((mP e l).getD rU),.v (.bool (mP e l).isSome)]
theorem wD{l:Txt}{o:OpD}(hl:l.length≤1000000)(h:mq l=some o):nw o:=by
 unfold mq at h;split at h
 ·cases h
  have w0:WfR ⟨l,0,false⟩:=⟨Nat.zero_le _,hl⟩;have w1:WfR (gb ⟨l,0,false⟩).2:=ld w0;have w2:=gv (most:=16) w1 abk;have w3:=gv (most:=16) w2 abk;have w4:=gv (most:=16) w3 abk;have w5:=gv (most:=16) w4 abk;exact⟨tG w0,(BI w5).1,(BI w5).2,tG (GD w5)⟩
 grind
theorem J7(l:Txt)(q:Perm)(e:ia)(yl:AV)(jid x:Nat)(h:Heap)(hl:l.length≤900000)(hx:h x=some (lq jid e yl)):ai Tryz.prog 46 [.ptr x 0,.sl (l.map aM) q] h fun r h' =>r=AB e l∧h' =h:=by
 obtain⟨a1,a2,a3,a4,a5,a6,a7,es⟩:=cL e.s;have g:=hx;unfold lq at g;rw[es]at g;simp only[List.cons_append,List.nil_append]at g;refine abg Tryz.func46 33 [.cell 4 32,.tmp 5] fun hwf=>?_
 simp only[go_sem];intro i1 h1;have n1:i1≠x:=fun e=>abi
 by_cases hs:l.length<8
 ·have d1:decide ((l.length:Int)<8)=true:=decide_eq_true abh
  have er:mP e l=none:=by simp_all [mP,if_pos]
  simp only[go_sem,aa7,d1,ah];exact .mk _ (.refl _) ((Sub.refl h).new h1 _) ⟨aez,rfl⟩
 have d1:decide ((l.length:Int)<8)=false:=decide_eq_false abh;simp only[go_sem,aa7,d1];refine⟨abh,abh,?_⟩;refine(xI (l.drop 8) _ abi _).pthen ?_;have er0:mP e l=(match mq (l.drop 8)with|some o=>if gK e.ch o=l then some o else none|none=>none):=by unfold mP;grind
 cases hg:mq (l.drop 8)with
 |none=>
  have er:mP e l=none:=abi;simp only[go_sem,CE,hg,opA,opC,rU,ax,Option.getD,Option.isSome];intro i2 h2;have n2:=aB h2;have n21:=aH h2;simp only[go_sem,aj,n21,n21.symm,n1,n1.symm];generalize hH:upd (upd h i1 _) i2 _=H;have k1:H i1=some (.obj (opC rU) 32):=acy;have k2:H i2=some (.obj (opC rU) 32):=ada;have kx:H x=some (lq jid e yl):=by
   rw[←hH,ag _ _ (fun e2=>abi),ag _ _ (Ne.symm n1)];omega
  have hsub:Ab.Sub h H:=abS;clear hH g;unfold lq at kx;rw[es]at kx;simp only[List.cons_append,List.nil_append]at kx;unfold opC rU ax at k1;refine .quiet abl ?_;simp only[go_sem];simp only[go_sem,k1,ah];exact agH
 |some o=>
  obtain⟨hf,hp⟩:=get_some hg;have h64:=wD abi hg;have er1:mP e l=if gK e.ch o=l then some o else none:=abi
  simp only[go_sem,CE,hg,opA,opC,Option.getD,Option.isSome];intro i2 h2;have n2:=aB h2;have n21:=aH h2;simp only[go_sem,aj,n21,n21.symm,n1,n1.symm];generalize hH:upd (upd h i1 _) i2 _=H;have k1:H i1=some (.obj (opC rU) 32):=acy;have k2:H i2=some (.obj (opC o) 32):=ada;have kx:H x=some (lq jid e yl):=by
   rw[←hH,ag _ _ (fun e2=>abi),ag _ _ (Ne.symm n1)];omega
  have hsub:Ab.Sub h H:=abS;clear hH g;unfold lq at kx;rw[es]at kx;simp only[List.cons_append,List.nil_append]at kx;unfold opC rU ax at k1;unfold opC at k2;refine .quiet abl ?_;simp only[go_sem,kx,k2];refine⟨_,BL e.ch o h64 (f_l (jV hf)) abi _,?_⟩;simp only[go_sem];refine⟨_,B9 (gK e.ch o) l _ _ _,?_⟩;cases dp:decide (gK e.ch o=l)
  ·have er:mP e l=none:=by grind
   simp only[go_sem,k1,ah];exact agH
  ·have er:mP e l=some o:=by grind
   simp only[go_sem,k1,k2,ah];exact agH
def ldA(d:pG):AV:=.agg (xo d)
def mz(h:Heap)(y:AV)(ds:List pG)(sp:List Nat):Prop:=(y= .sl [] .full∧ds= []∧sp= [])∨∃k,y= .sl (ds.map ldA) (.own k)∧h k=some (.spare ds.length 16)∧sp= [k]
theorem uD:(U 71).sz=16:=abx
theorem mz.row{h:Heap}{y:AV}{ds:List pG}{sp:List Nat}(hg:mz h y ds sp):∃q,y= .sl (ds.map ldA) q:=by
 rcases hg with⟨rfl,rfl,_⟩|⟨k,rfl,_⟩<;>exact⟨_,rfl⟩
theorem mz.touch{h h' :Heap}{y:AV}{ds:List pG}{sp S:List Nat}(hg:mz h y ds sp)(ht:Touch S h h')(hn:∀i∈sp,i∉S):mz h' y ds sp:=by
 rcases hg with⟨rfl,rfl,rfl⟩|⟨k,rfl,k1,rfl⟩
 ·exact .inl ⟨rfl,rfl,rfl⟩
 ·exact .inr ⟨k,rfl,ht _ _ (hn k abp) k1,rfl⟩
theorem mz.has{h:Heap}{y:AV}{ds:List pG}{sp:List Nat}(hg:mz h y ds sp):∀i∈sp,∃n,h i=some (.spare n 16):=by
 rcases hg with⟨rfl,rfl,rfl⟩|⟨k,rfl,k1,rfl⟩
 ·simp
 grind
theorem C0(ds:List pG):Sized 16 (ds.map ldA):=fun z hz=>by
 obtain⟨d,_,rfl⟩:=List.mem_map.1 hz;rfl
theorem uDb:∃n,(U 71).bytes=n∧n≠0∧n≤1000:=⟨_,rfl,abk,abk⟩
theorem mz.app{h:Heap}{y:AV}{ds:List pG}{d:pG}{q:Perm}{sp:List Nat}{Q:AV→Heap→Prop}(hg:mz h y ds sp)(hl:ds.length≤1000000)
  (hk:∀y' h' sp',mz h' y' (ds++ [d]) sp'→Touch sp h h'→(∀i∈sp',i∈sp∨h i=none)→Q y' h'):apK U h y (.sl [ldA d] q) Q (.slice 71):=by
 obtain⟨n,hb,hb0,hb1⟩:=uDb;have hm:(ds.length+1)*n≤140737488355328:=by
  have:=Nat.mul_le_mul (show ds.length+1≤1000001 by omega) hb1
  omega
 have s2:Sized 16 [ldA d]:=C0 [d];rcases hg with⟨rfl,rfl,rfl⟩|⟨k,rfl,k1,rfl⟩
 ·refine(pJ ..).mpr ⟨abk,abh,?_⟩
  refine⟨by simp[Sized],by grind [uD],abi,And.intro (fun hn=>by cases hn) (fun hn=>lS.own fun id hid=>?_)⟩
  rw[uD];exact hk _ _ [id] (.inr ⟨id,rfl,afi,rfl⟩) (.of ((Ab.Sub.refl h).new hid _)) abi
 ·refine(A9 ..).mpr ⟨abk,abh,?_⟩
  refine⟨by grind [uD,C0],by grind [uD],abi,by grind [uD],?_⟩
  rw[uD];exact hk _ _ [k] (.inr ⟨k,abp,afi,rfl⟩) .upd abp
theorem Gb(e:ia)(s:an)(d:pG)(p:Txt)(q:Perm)(jid x:Nat)(yl:AV)(sp:List Nat)(h:Heap)(hx:h x=some (lq jid e yl))(hg:mz h yl e.log sp)(hl:e.log.length≤1000000)(hp:p.length≤1000000):
  ai Tryz.prog 47 [.ptr x 0,cJ s,.agg (xo d),.sl (p.map aM) q] h fun r h' =>r= .tup []∧∃yl' sp',h' x=some (lq jid {e with s:=s,log:=e.log++ [d],ch:=rJ e.ch p} yl')∧mz h' yl' (e.log++ [d]) sp'∧Touch (x::sp) h h'∧(∀i∈sp',i∈sp∨h i=none):=by
 obtain⟨a1,a2,a3,a4,a5,a6,a7,es⟩:=cL e.s;obtain⟨b1,b2,b3,b4,b5,b6,b7,es2⟩:=cL s;have g:=hx;unfold lq at g;rw[es]at g;simp only[List.cons_append,List.nil_append]at g;rw[show cJ s= .agg (iY s)from rfl,es2]
 refine ai.of_wp hU Tryz.func47 rfl abx 31 rfl [] rfl (aa6 rfl) ?_;refine .one hU hm ?_;simp only[go_sem];intro i1 h1;simp only[go_sem,xo,opC];intro i2 h2;have n2:=aB h2;have n21:=aH h2;have x1:i1≠x:=fun e=>ad6
 have x2:i2≠x:=fun e=>ad7
 generalize hH:upd (upd h i1 _) i2 _=H;have k1:H i1=some (.obj [.i s.tick,fQ s.cases,jP s.reviews,kM s.notices,dR s.roles,b1,b2,b3,b4,b5,b6,b7,.i s.version] 67):=by rw[←hH,ag _ _ (Ne.symm n21),ah]
 have k2:H i2=some (.obj [.i d.op.kind,.s d.op.subj,.s d.op.case,.s d.op.field,.s d.op.to,.i d.op.val.kind,.i d.op.val.n,.s d.op.val.s,.i d.op.review,.s d.op.text,.s d.op.reason,.b d.op.glass,.i d.version,aQ d.mark,.b d.glass,aA d.obls] 71):=by rw[←hH,ah]
 have kx:H x=_:=(by rw[←hH,ag _ _ (Ne.symm x2),ag _ _ (Ne.symm x1)]:H x=h x).trans g
 have hsub:Ab.Sub h H:=abS;clear hH g;simp only[go_sem];refine .one hU hm ?_;simp only[go_sem,kx,k1];generalize hK:upd H x _=K;have kx2:K x=some (.obj [.ptr jid 0,.i s.tick,fQ s.cases,jP s.reviews,kM s.notices,dR s.roles,b1,b2,b3,b4,b5,b6,b7,.i s.version,yl,.v (.int .u64 (e.ch.toNat:Int))] 101):=by rw[←hK,ah]
 have k22:K i2=_:=(by rw[←hK,ag _ _ x2]:K i2=H i2).trans k2
 have hT:Touch [x] H K:=by rw[←hK];exact .upd
 clear hK
 show WP _ _ _ _ _ _
 refine .one hU hm ?_;simp only[go_sem];refine .last (hm2 x (.obj [.ptr jid 0,.i s.tick,fQ s.cases,jP s.reviews,kM s.notices,dR s.roles,b1,b2,b3,b4,b5,b6,b7,.i s.version,yl,.v (.int .u64 (e.ch.toNat:Int))] 101) i2 (.obj [.i d.op.kind,.s d.op.subj,.s d.op.case,.s d.op.field,.s d.op.to,.i d.op.val.kind,.i d.op.val.n,.s d.op.val.s,.i d.op.review,.s d.op.text,.s d.op.reason,.b d.op.glass,.i d.version,aQ d.mark,.b d.glass,aA d.obls] 71)) [0,1,2,3,4,5,6,7,8,9] (.hm2 kx2 k22) abl rfl abl rfl ?_;simp only[go_sem,kx2,k22,oo _ _ (Ne.symm x2),ot];have hno:∀i∈sp,i≠x∧i≠i1∧i≠i2:=fun i hi=>by
  obtain⟨n,hn⟩:=hg.has i hi;exact⟨fun e=>(by rw[e,hx]at hn;cases hn),fun e=>abi,fun e=>abi⟩
 have hgK:mz K yl e.log sp:=(hg.touch (S:=[]) (.of hsub) abp).touch hT abi;refine hgK.app hl fun z G sp' hg4 ht4 hsp' =>?_
 have kx3:=ht4 _ _ abi kx2;have k23:=ht4 _ _ abi k22;have xG:∀i∈sp',i≠x:=fun i hi e2=>by
  obtain⟨n,hn⟩:=hg4.has i hi;rw[e2,kx3]at hn;cases hn
 refine⟨.hm2 kx3 k23,?_⟩;have hrow:=hg4.row;obtain⟨qz,ez⟩:=hrow;subst ez;simp only[go_sem,kx3];refine .vc hU hm ?_;simp only[go_sem,ah];refine(Cd e.ch _ p _ (.sl _ _) hp).pthen ?_;simp only[go_sem,ah,mU];have hF:Touch [x] G (upd G x (some (.obj [.ptr jid 0,.i s.tick,fQ s.cases,jP s.reviews,kM s.notices,dR s.roles,b1,b2,b3,b4,b5,b6,b7,.i s.version,(.sl ((e.log++ [d]).map ldA) qz),.v (.int .u64 ((rJ e.ch p).toNat:Int))] 101))):=.upd;refine .same (.refl _) ⟨rfl,_,sp',?_,hg4.touch hF abi,?_,fun i hi=>?_⟩
 ·simp_all [lq,ah]
 ·exact((((Touch.of (S:=[]) hsub).trans hT).trans ht4).trans hF).mono abi
 ·rcases hsp' i hi with h3|h3
  ·grind
  ·right
   have:K i=none:=h3;cases hh:h i with
   |none=>rfl
   |some b=>
    have hxi:i≠x:=xG i hi;have:=hT _ _ abi (hsub _ _ hh);rw[h3]at this;cases this
def jq(h:Heap)(x jid did:Nat)(e:ia)(spl spj:List Nat):Prop:=
 ∃yl,h x=some (lq jid e yl)∧mz h yl e.log spl∧JAt h 173 jid did e.ps e.down spj
theorem JS(x jid did:Nat)(e:ia)(spl spj:List Nat)(h:Heap)(he:jq h x jid did e spl spj):ai Tryz.prog 19 [.ptr x 0] h fun r h' =>r= .v (.int .u64 (e.ch.toNat:Int))∧h' =h:=by
 obtain⟨yl,hx,hg,hj⟩:=he;obtain⟨a1,a2,a3,a4,a5,a6,a7,es⟩:=cL e.s;have g:=hx;unfold lq at g;rw[es]at g;refine abg Tryz.func19 7 [.tmp 2] fun hwf=>?_
 simp only[go_sem,g];exact abu
theorem Cr(x jid did:Nat)(e:ia)(spl spj:List Nat)(h:Heap)(he:jq h x jid did e spl spj)(hl:e.ps.length≤1000000)(hp:∀p∈e.ps,p.length≤1000000):ai Tryz.prog 16 [.ptr x 0] h fun r h' =>∃q,r= .sl (e.ps.map j0) q∧Ab.Sub h h' :=by
 obtain⟨yl,hx,hg,hj⟩:=he;have g:=hx;unfold lq at g;refine abg Tryz.func16 8 [.tmp 2] fun hwf=>?_
 simp only[go_sem,g];refine(yE jid did e.ps e.down spj h hj hl hp).mono fun r h' ⟨q,e1,hs⟩=>?_
 subst e1;simp only[go_sem];exact .same (.refl _) ⟨q,rfl,hs⟩
theorem MF(x jid did:Nat)(e:ia)(spl spj:List Nat)(o:OpD)(h:Heap)(he:jq h x jid did e spl spj)(hd:e.down=true):ai Tryz.prog 15 [.ptr x 0,opA o] h fun r h' =>r= .agg (nj (HE 9))∧h' =h:=by
 obtain⟨yl,hx,hg,hj⟩:=he;have g:=hx;unfold lq at g;refine abg Tryz.func15 53 [.cell 4 36] fun hwf=>?_
 simp only[go_sem,opA,opC];intro i1 h1;have x1:i1≠x:=fun e=>abi
 simp only[go_sem];intro i2 h2;have n2:=aB h2;have x2:i2≠x:=fun e=>abi
 generalize hH:upd (upd h i1 _) i2 _=H;have kx:H x=_:=(by rw[←hH,ag _ _ (Ne.symm x2),ag _ _ (Ne.symm x1)]:H x=h x).trans g
 have k2:H i2=some (.obj mW 36):=ada;have hsub:Ab.Sub h H:=abS;unfold mW at k2;simp only[go_sem,kx];refine(wz jid did e.ps e.down spj H (hj.sub hsub)).pthen ?_;rw[hd];simp only[go_sem,k2,ah];refine .mk _ (.refl _) (hsub.put n2 _) ⟨?_,rfl⟩;rfl
theorem og(s:an)(r:kV)(d:pG)(e:Int):jv (s,r,d,e)= .tup [cJ s,.agg [.i r.err,.v (.complex .f64 (hbit r.mark.1) (hbit r.mark.2)),.b r.glass,.i r.val.kind,.i r.val.n,.s r.val.s,.b r.hidden,.i r.at_],.agg [.i d.op.kind,.s d.op.subj,.s d.op.case,.s d.op.field,.s d.op.to,.i d.op.val.kind,.i d.op.val.n,.s d.op.val.s,.i d.op.review,.s d.op.text,.s d.op.reason,.b d.op.glass,.i d.version,.v (.complex .f64 (hbit d.mark.1) (hbit d.mark.2)),.b d.glass,.sl (d.obls.map bn) .no],.i e]:=rfl
theorem Px(x jid did:Nat)(e:ia)(spl spj:List Nat)(o:OpD)(h:Heap)(he:jq h x jid did e spl spj)(hd:e.down=false){k:Nat}(hG:nS k e.s)(hk:k≤1000)(h64:nw o)(her:lu h)(hne:(bu e.s o).2.2.2≠0):ai Tryz.prog 15 [.ptr x 0,opA o] h fun r h' =>r= .agg (nj (bu e.s o).2.1)∧h' =h:=by
 have hgd:=fun(G:Heap) (hG' :Ab.Sub h G)=>oe e.s hG hk o h64 G (her.sub hG')
 have he0:=he;obtain⟨yl,hx,hg,hj⟩:=he;obtain⟨a1,a2,a3,a4,a5,a6,a7,es⟩:=cL e.s;have g:=hx;unfold lq at g;rw[es]at g;simp only[List.cons_append,List.nil_append]at g;refine abg Tryz.func15 53 [.cell 4 36] fun hwf=>?_
 simp only[go_sem,opA,opC];intro i1 h1;have x1:i1≠x:=fun e=>ad6
 simp only[go_sem];intro i2 h2;have n2:=aB h2;have x2:i2≠x:=fun e=>ad7
 have n21:=aH h2;generalize hH:upd (upd h i1 _) i2 _=H;have kx:H x=_:=(by rw[←hH,ag _ _ (Ne.symm x2),ag _ _ (Ne.symm x1)]:H x=h x).trans g
 have k2:H i2=some (.obj mW 36):=ada;have k1:H i1=some (.obj (opC o) 32):=acy;have hsub:Ab.Sub h H:=abS;clear hH g;unfold mW at k2;simp only[go_sem,kx];refine(wz jid did e.ps e.down spj H (hj.sub hsub)).pthen ?_;rw[hd];generalize bu e.s o=gd at hgd hne⊢;obtain⟨S,R,D,E⟩:=gd;simp only at hne⊢;obtain⟨b1,b2,b3,b4,b5,b6,b7,es2⟩:=cL S;rw[og,show cJ e.s= .agg (iY e.s)from rfl,es,show cJ S= .agg (iY S)from rfl,es2]at hgd
 simp only[opA,opC]at hgd;unfold opC at k1;simp only[go_sem];refine .tree _ (.quiet [0,1,2,3,4] 5 (.news [6,7,8,9,10] [11,12,13] (.seq [14,15,16,17]))) (.refl _) abl rfl ?_;simp only[go_sem,kx,k1];refine⟨_,fun G hs=>hgd G (hsub.trans hs),?_⟩
 simp only[go_sem];refine⟨.refl _,abp,?_⟩;intro jd hjd je hje jf hjf;have ned:=aH hje;have kje:=aB hje;have nfe:=aH hjf;have nfd:=aH (aB hjf);have kjf:=aB (aB hjf);simp only[go_sem,aj,ned,ned.symm,nfe,nfe.symm,nfd,nfd.symm];refine⟨abr,abr,abr,?_⟩;have mjd:=hsub.none hjd;have mje:=hsub.none kje;have mjf:=hsub.none kjf;have j2:jd≠i2:=fun e=>aeP
 have j2e:je≠i2:=fun e=>aeQ
 have j2f:jf≠i2:=fun e=>aeR
 have dE:(E==0)=false:=beq_eq_false_iff_ne.mpr hne;have dE2:(E !=0)=true:=bne_iff_ne.mpr hne;simp only[go_sem,aj,dE,dE2,ned,ned.symm,nfe,nfe.symm,nfd,nfd.symm,j2,j2.symm,j2e,j2e.symm,j2f,j2f.symm,k2];refine .mk _ (.refl _) ?_ ⟨rfl,rfl⟩
 repeat (first|exact hsub|refine Ab.Sub.put ?_ abt _)
theorem F1{P:Program}{U:TypeId→TI}{n:Nat}{l:List Oper}{ρ:Env}{h:Heap}{K:Exit→Env→Heap→Prop}(hh:∀H2,H2=h→mw P U n l ρ H2 K):mw P U n l ρ h K:=hh h rfl
theorem bQ.upd{h:Heap}{id i:Nat}{d:D}{cs:List AV}{t:TypeId}{b:Option Blk}(hd:bQ h id d)(hi:h i=some (.obj cs t))(h1:t≠96)(h2:t≠5):bQ (Ab.upd h i b) id d:=by
 obtain⟨y,hy,hb⟩:=hd;refine⟨y,?_,?_⟩
 ·grind [ag,Option.some.inj]
 ·rcases hb with hb|⟨j,off,cs2,rfl,a1,a2,a3⟩
  ·exact afb
  ·refine .oa ?_ a2 a3
   grind [ag,Option.some.inj]
theorem Pz(x jid did:Nat)(e:ia)(d:D)(spl spj:List Nat)(o:OpD)(h:Heap)(he:jq h x jid did e spl spj)(hdk:bQ h did d)(hdo:d.ok)(hps:e.ps.length≤1000000)(hlg:e.log.length≤1000000)(hd:e.down=false){k:Nat}(hG:nS k e.s)(hk:k≤1000)(h64:nw o)(her:lu h)(hne:(bu e.s o).2.2.2=0)(hcode:(jadd d e.ps false (gK e.ch o)).2≠0):
  ai Tryz.prog 15 [.ptr x 0,opA o] h fun r h' =>r= .agg (nj (doE e d o).2.2)∧∃spl' spj',jq h' x jid did (doE e d o).1 spl' spj'∧bQ h' did (doE e d o).2.1∧Touch (x::did::jid::(spl++spj)) h h'∧(∀i∈spl',i∈spl∨h i=none)∧(∀i∈spj',i∈spj∨h i=none):=by
 have hF:=jV (oh hne);have hrl:=wH (h:=e.ch) hF;have hpl:=mO hF;have edo:doE e d o=(let a:=jadd d e.ps false (gK e.ch o);if a.2=0 then({qc e (bu e.s o) (gK e.ch o)with ps:=a.1.2.1,down:=a.1.2.2},a.1.1,(bu e.s o).2.1)else({e with ps:=a.1.2.1,down:=a.1.2.2},a.1.1,HE (a.2:Int))):=by
  exact agW
 have hgd:=fun(G:Heap) (hG' :Ab.Sub h G)=>oe e.s hG hk o h64 G (her.sub hG')
 have he0:=he;obtain⟨yl,hx,hg,hj⟩:=he;obtain⟨a1,a2,a3,a4,a5,a6,a7,es⟩:=cL e.s;have g:=hx;unfold lq at g;rw[es]at g;simp only[List.cons_append,List.nil_append]at g;refine abg Tryz.func15 53 [.cell 4 36] fun hwf=>?_
 simp -implicitDefEqProofs only[go_sem,opA,opC];intro i1 h1;have x1:i1≠x:=fun e=>ad6
 simp -implicitDefEqProofs only[go_sem];intro i2 h2;have n2:=aB h2;have x2:i2≠x:=fun e=>ad7
 have n21:=aH h2;generalize hH:upd (upd h i1 _) i2 _=H;have kx:H x=_:=(by rw[←hH,ag _ _ (Ne.symm x2),ag _ _ (Ne.symm x1)]:H x=h x).trans g
 have k2:H i2=some (.obj mW 36):=ada;have k1:H i1=some (.obj (opC o) 32):=acy;have hsub:Ab.Sub h H:=abS;clear hH g;unfold mW at k2;simp -implicitDefEqProofs only[go_sem,kx];refine(wz jid did e.ps e.down spj H (hj.sub hsub)).pthen ?_;rw[hd];generalize bu e.s o=gd at hgd hne edo⊢;obtain⟨S,R,D,E⟩:=gd;simp only at hne edo⊢;subst hne;obtain⟨b1,b2,b3,b4,b5,b6,b7,es2⟩:=cL S;rw[og,show cJ e.s= .agg (iY e.s)from rfl,es,show cJ S= .agg (iY S)from rfl,es2]at hgd
 simp only[opA,opC]at hgd;unfold opC at k1;simp -implicitDefEqProofs only[go_sem];refine .tree _ (.quiet [0,1,2,3,4] 5 (.news [6,7,8,9,10] [11,12,13] (.seq [14,15,16,17]))) (.refl _) abl rfl ?_;simp -implicitDefEqProofs only[go_sem,kx,k1];refine⟨_,fun G hs=>hgd G (hsub.trans hs),?_⟩
 simp -implicitDefEqProofs only[go_sem];refine⟨.refl _,abp,?_⟩;intro jd hjd je hje jf hjf;have ned:=aH hje;have kje:=aB hje;have nfe:=aH hjf;have nfd:=aH (aB hjf);have kjf:=aB (aB hjf);simp -implicitDefEqProofs only[go_sem,aj,ned,ned.symm,nfe,nfe.symm,nfd,nfd.symm];refine⟨abr,abr,abr,?_⟩;have mjd:=hsub.none hjd;have mje:=hsub.none kje;have mjf:=hsub.none kjf;have j2:jd≠i2:=fun e=>aeP
 have j2e:je≠i2:=fun e=>aeQ
 have j2f:jf≠i2:=fun e=>aeR
 refine F1 fun H2 w2=>?_
 have xjd:jd≠x:=fun e=>aeT
 have xje:je≠x:=fun e=>aeU
 have xjf:jf≠x:=fun e=>aeV
 have y1:jd≠i1:=fun e=>by rw[e,k1]at hjd;cases hjd
 have y2:je≠i1:=fun e=>by rw[e,k1]at kje;cases kje
 have y3:jf≠i1:=fun e=>by rw[e,k1]at kjf;cases kjf
 have hs2:Ab.Sub h H2:=ac8;have fx:H2 x=_:=(by rw[w2];simp only[aj,xjd,xjd.symm,xje,xje.symm,xjf,xjf.symm,ne_eq,not_false_eq_true]:H2 x=H x).trans kx
 have f1:H2 i1=_:=(by rw[w2];simp only[aj,y1,y1.symm,y2,y2.symm,y3,y3.symm,ne_eq,not_false_eq_true]:H2 i1=H i1).trans k1
 have f2:H2 i2=_:=(by rw[w2];simp only[aj,j2,j2.symm,j2e,j2e.symm,j2f,j2f.symm,ne_eq,not_false_eq_true]:H2 i2=H i2).trans k2
 have fd:H2 jd=some (.obj [.i S.tick,fQ S.cases,jP S.reviews,kM S.notices,dR S.roles,b1,b2,b3,b4,b5,b6,b7,.i S.version] 67):=abD;have fe:H2 je=some (.obj [.i R.err,.v (.complex .f64 (hbit R.mark.1) (hbit R.mark.2)),.b R.glass,.i R.val.kind,.i R.val.n,.s R.val.s,.b R.hidden,.i R.at_] 36):=abD;have ff:H2 jf=some (.obj (xo D) 71):=ab4;clear w2;refine .quiet abl ?_;simp -implicitDefEqProofs only[go_sem,fx,f1];refine⟨_,BL e.ch o h64 (f_l hF) abh _,?_⟩;simp -implicitDefEqProofs only[go_sem,fx];refine(Gj d hdo did jid e.ps e.down spj H2 _ (gK e.ch o) (hdk.keep hs2.fP) (hj.sub hs2) (.sl _ _) abh hps).mono fun r H3 ⟨er,spj',hd3,hj3,hT3,hs3⟩=>?_
 subst er;have hin:∀q∈did::jid::spj,∃b,h q=some b∧∀cs,b≠ .obj cs 101:=fun q hq=>by
  exact afQ
 have out:∀q,h q=none→q∉did::jid::spj:=fun q hq hi=>by
  obtain⟨b,hb,_⟩:=hin q hi;rw[hq]at hb;cases hb
 have outx:x∉did::jid::spj:=fun hi=>by
  exact ag2
 have fx3:=hT3 _ _ outx fx;have f23:=hT3 _ _ (out i2 n2) f2;have fd3:=hT3 _ _ (out jd mjd) fd;have fe3:=hT3 _ _ (out je mje) fe;have ff3:=hT3 _ _ (out jf mjf) ff;rw[hd]at hd3 hj3⊢;generalize jadd d e.ps false (gK e.ch o)=a at hd3 hj3 edo hcode⊢;obtain⟨⟨d2,ps2,dn2⟩,code⟩:=a;simp only at hd3 hj3 edo hcode⊢;cases dc:((code:Int)==0)
 ·have hc:code≠0:=fun e2=>by subst e2;cases dc
  have dc2:((code:Int) !=0)=true:=by rw[bne,dc];rfl
  rw[if_neg hc]at edo;simp -implicitDefEqProofs only[go_sem,dc2,f23,ah];have hsp:∀i∈spl,i∉did::jid::spj:=fun i hi hq=>by
   exact afP
  have hg3:=(hg.touch (S:=[]) (.of hs2) (fun i hi hh=>acH)).touch hT3 hsp
  have hnl:∀i∈spl,i∉ [i2]:=fun i hi hh=>by
   obtain⟨n,hn⟩:=hg.has i hi;rw[List.mem_singleton.1 hh,n2]at hn;cases hn
  have hF4:∀b,Touch [i2] H3 (upd H3 i2 b):=fun b=> .upd
  have hj3' :=hj3;obtain⟨z,zs,hz1,hz2,_⟩:=hj3';refine .same (.refl _) ⟨by rw[edo];rfl,spl,spj',?_,?_,?_,fun i hi=> .inl hi,fun i hi=>?_⟩
  ·rw[edo]
   refine⟨yl,?_,hg3.touch (hF4 _) hnl,hj3.touch (hF4 _) ?_ ?_⟩
   ·rw[ag _ _ (Ne.symm x2),fx3]
    unfold lq;rw[es];rfl
   ·intro hh
    rw[List.mem_singleton.1 hh,f23]at hz1;cases hz1
   ·intro i hi hh
    obtain⟨n,hn⟩:=hz2.has i hi;rw[List.mem_singleton.1 hh,f23]at hn;cases hn
  ·rw[edo]
   exact hd3.upd f23 abk abk
  ·exact(((Touch.of (S:=[]) hs2).trans hT3).trans (hF4 _)).mono (fun i hi=>by
    simp only[List.nil_append,List.mem_append,List.mem_cons,List.mem_singleton,List.not_mem_nil,or_false]at hi;rcases hi with(h3|h3|h3)|h3
    ·left;simp[h3]
    ·left;simp[h3]
    ·left;simp[h3]
    ·right;rw[h3];exact n2)
  ·rcases hs3 i hi with h3|h3
   ·exact .inl h3
   ·right;exact hs2.none h3
 ·exact absurd (eq_of_beq dc) abh
theorem bQ.touch{h h' :Heap}{id:Nat}{d:D}{S:List Nat}(hd:bQ h id d)(ht:Touch S h h')(hS:∀i∈S,∀cs,h i≠some (.obj cs 96)∧h i≠some (.obj cs 5)):bQ h' id d:=by
 obtain⟨y,hy,hb⟩:=hd;refine⟨y,ht _ _ abi hy,?_⟩;rcases hb with hb|⟨j,off,cs2,rfl,a1,a2,a3⟩
 ·exact afb
 ·exact .oa (ht _ _ abi a1) a2 a3
theorem Py(x jid did:Nat)(e:ia)(d:D)(spl spj:List Nat)(o:OpD)(h:Heap)(he:jq h x jid did e spl spj)(hdk:bQ h did d)(hdo:d.ok)(hps:e.ps.length≤1000000)(hlg:e.log.length≤1000000)(hd:e.down=false){k:Nat}(hG:nS k e.s)(hk:k≤1000)(h64:nw o)(her:lu h)(hne:(bu e.s o).2.2.2=0)(hcode:(jadd d e.ps false (gK e.ch o)).2=0):
  ai Tryz.prog 15 [.ptr x 0,opA o] h fun r h' =>r= .agg (nj (doE e d o).2.2)∧∃spl' spj',jq h' x jid did (doE e d o).1 spl' spj'∧bQ h' did (doE e d o).2.1∧Touch (x::did::jid::(spl++spj)) h h'∧(∀i∈spl',i∈spl∨i∈spj∨h i=none)∧(∀i∈spj',i∈spj∨h i=none):=by
 have hF:=jV (oh hne);have hrl:=wH (h:=e.ch) hF;have hpl:=mO hF;have edo:doE e d o=(let a:=jadd d e.ps false (gK e.ch o);if a.2=0 then({qc e (bu e.s o) (gK e.ch o)with ps:=a.1.2.1,down:=a.1.2.2},a.1.1,(bu e.s o).2.1)else({e with ps:=a.1.2.1,down:=a.1.2.2},a.1.1,HE (a.2:Int))):=by
  exact agW
 have hgd:=fun(G:Heap) (hG' :Ab.Sub h G)=>oe e.s hG hk o h64 G (her.sub hG')
 have he0:=he;obtain⟨yl,hx,hg,hj⟩:=he;obtain⟨a1,a2,a3,a4,a5,a6,a7,es⟩:=cL e.s;have g:=hx;unfold lq at g;rw[es]at g;simp only[List.cons_append,List.nil_append]at g;refine abg Tryz.func15 53 [.cell 4 36] fun hwf=>?_
 simp -implicitDefEqProofs only[go_sem,opA,opC];intro i1 h1;have x1:i1≠x:=fun e=>ad6
 simp -implicitDefEqProofs only[go_sem];intro i2 h2;have n2:=aB h2;have x2:i2≠x:=fun e=>ad7
 have n21:=aH h2;generalize hH:upd (upd h i1 _) i2 _=H;have kx:H x=_:=(by rw[←hH,ag _ _ (Ne.symm x2),ag _ _ (Ne.symm x1)]:H x=h x).trans g
 have k2:H i2=some (.obj mW 36):=ada;have k1:H i1=some (.obj (opC o) 32):=acy;have hsub:Ab.Sub h H:=abS;clear hH g;unfold mW at k2;simp -implicitDefEqProofs only[go_sem,kx];refine(wz jid did e.ps e.down spj H (hj.sub hsub)).pthen ?_;rw[hd];generalize bu e.s o=gd at hgd hne edo⊢;obtain⟨S,R,D,E⟩:=gd;simp only at hne edo⊢;subst hne;obtain⟨b1,b2,b3,b4,b5,b6,b7,es2⟩:=cL S;rw[og,show cJ e.s= .agg (iY e.s)from rfl,es,show cJ S= .agg (iY S)from rfl,es2]at hgd
 simp only[opA,opC]at hgd;unfold opC at k1;simp -implicitDefEqProofs only[go_sem];refine .tree _ (.quiet [0,1,2,3,4] 5 (.news [6,7,8,9,10] [11,12,13] (.seq [14,15,16,17]))) (.refl _) abl rfl ?_;simp -implicitDefEqProofs only[go_sem,kx,k1];refine⟨_,fun G hs=>hgd G (hsub.trans hs),?_⟩
 simp -implicitDefEqProofs only[go_sem];refine⟨.refl _,abp,?_⟩;intro jd hjd je hje jf hjf;have ned:=aH hje;have kje:=aB hje;have nfe:=aH hjf;have nfd:=aH (aB hjf);have kjf:=aB (aB hjf);simp -implicitDefEqProofs only[go_sem,aj,ned,ned.symm,nfe,nfe.symm,nfd,nfd.symm];refine⟨abr,abr,abr,?_⟩;have mjd:=hsub.none hjd;have mje:=hsub.none kje;have mjf:=hsub.none kjf;have j2:jd≠i2:=fun e=>aeP
 have j2e:je≠i2:=fun e=>aeQ
 have j2f:jf≠i2:=fun e=>aeR
 refine F1 fun H2 w2=>?_
 have xjd:jd≠x:=fun e=>aeT
 have xje:je≠x:=fun e=>aeU
 have xjf:jf≠x:=fun e=>aeV
 have y1:jd≠i1:=fun e=>by rw[e,k1]at hjd;cases hjd
 have y2:je≠i1:=fun e=>by rw[e,k1]at kje;cases kje
 have y3:jf≠i1:=fun e=>by rw[e,k1]at kjf;cases kjf
 have hs2:Ab.Sub h H2:=ac8;have fx:H2 x=_:=(by rw[w2];simp only[aj,xjd,xjd.symm,xje,xje.symm,xjf,xjf.symm,ne_eq,not_false_eq_true]:H2 x=H x).trans kx
 have f1:H2 i1=_:=(by rw[w2];simp only[aj,y1,y1.symm,y2,y2.symm,y3,y3.symm,ne_eq,not_false_eq_true]:H2 i1=H i1).trans k1
 have f2:H2 i2=_:=(by rw[w2];simp only[aj,j2,j2.symm,j2e,j2e.symm,j2f,j2f.symm,ne_eq,not_false_eq_true]:H2 i2=H i2).trans k2
 have fd:H2 jd=some (.obj [.i S.tick,fQ S.cases,jP S.reviews,kM S.notices,dR S.roles,b1,b2,b3,b4,b5,b6,b7,.i S.version] 67):=abD;have fe:H2 je=some (.obj [.i R.err,.v (.complex .f64 (hbit R.mark.1) (hbit R.mark.2)),.b R.glass,.i R.val.kind,.i R.val.n,.s R.val.s,.b R.hidden,.i R.at_] 36):=abD;have ff:H2 jf=some (.obj (xo D) 71):=ab4;clear w2;refine .quiet abl ?_;simp -implicitDefEqProofs only[go_sem,fx,f1];refine⟨_,BL e.ch o h64 (f_l hF) abh _,?_⟩;simp -implicitDefEqProofs only[go_sem,fx];refine(Gj d hdo did jid e.ps e.down spj H2 _ (gK e.ch o) (hdk.keep hs2.fP) (hj.sub hs2) (.sl _ _) abh hps).mono fun r H3 ⟨er,spj',hd3,hj3,hT3,hs3⟩=>?_
 subst er;have hin:∀q∈did::jid::spj,∃b,h q=some b∧∀cs,b≠ .obj cs 101:=fun q hq=>by
  exact afQ
 have out:∀q,h q=none→q∉did::jid::spj:=fun q hq hi=>by
  obtain⟨b,hb,_⟩:=hin q hi;rw[hq]at hb;cases hb
 have outx:x∉did::jid::spj:=fun hi=>by
  exact ag2
 have fx3:=hT3 _ _ outx fx;have f23:=hT3 _ _ (out i2 n2) f2;have fd3:=hT3 _ _ (out jd mjd) fd;have fe3:=hT3 _ _ (out je mje) fe;have ff3:=hT3 _ _ (out jf mjf) ff;rw[hd]at hd3 hj3⊢;generalize jadd d e.ps false (gK e.ch o)=a at hd3 hj3 edo hcode⊢;obtain⟨⟨d2,ps2,dn2⟩,code⟩:=a;simp only at hd3 hj3 edo hcode⊢;subst hcode;rw[if_pos rfl]at edo;simp only[xo,opC,List.cons_append,List.nil_append]at ff3;have hsp:∀i∈spl,i∉did::jid::spj:=fun i hi hq=>by
  exact afP
 have hg3:=(hg.touch (S:=[]) (.of hs2) (fun i hi hh=>acH)).touch hT3 hsp
 have hx3:H3 x=some (lq jid e yl):=by rw[fx3];unfold lq;rw[es];rfl
 have hgo:=Gb e S D (gK e.ch o) .no jid x yl spl H3 hx3 hg3 hlg abh;rw[show cJ S= .agg (iY S)from rfl,es2]at hgo
 simp only[xo,opC,List.cons_append,List.nil_append]at hgo;simp -implicitDefEqProofs only[go_sem,fd3,ff3];refine hgo.mono fun r H4 ⟨er,yl',spl',hx4,hg4,hT4,hs4⟩=>?_
 subst er;have hnl:∀q,h q=none→q∉x::spl:=fun q hq hh=>by
  rcases List.mem_cons.1 hh with rfl|hh
  ·rw[hx]at hq;cases hq
  ·obtain⟨n,hn⟩:=hg.has q hh
   rw[hn]at hq;cases hq
 have fe4:=hT4 _ _ (hnl je mje) fe3;have f24:=hT4 _ _ (hnl i2 n2) f23;simp -implicitDefEqProofs only[go_sem,fe4,f24,ah];have hF4:∀b,Touch [i2] H4 (upd H4 i2 b):=fun b=> .upd
 have hj3' :=hj3;obtain⟨z,zs,hz1,hz2,_⟩:=hj3';have jx:jid∉x::spl:=fun hh=>by
  exact agn
 have sx:∀i∈spj',i∉x::spl:=fun i hi hh=>by
  obtain⟨n,hn⟩:=hz2.has i hi;rcases List.mem_cons.1 hh with rfl|hh
  ·rw[hx3]at hn;cases hn
  ·obtain⟨n2,hn2⟩:=hg3.has i hh
   rw[hn2]at hn;cases hn
 have hj4:=hj3.touch hT4 jx sx;have hj4' :=hj4;obtain⟨z4,zs4,hz41,hz42,_⟩:=hj4';have hd4:=hd3.touch hT4 (fun i hi cs=>by
  rcases List.mem_cons.1 hi with rfl|hi
  ·rw[hx3];exact⟨fun hh=>acH,fun hh=>acH⟩
  ·obtain⟨n,hn⟩:=hg3.has i hi
   rw[hn];exact⟨fun hh=>acH,fun hh=>acH⟩)
 refine .same (.refl _) ⟨by rw[edo];rfl,spl',spj',?_,?_,?_,fun i hi=>?_,fun i hi=>?_⟩
 ·rw[edo]
  refine⟨yl',?_,hg4.touch (hF4 _) ?_,hj4.touch (hF4 _) ?_ ?_⟩
  ·rw[ag _ _ (Ne.symm x2),hx4]
   unfold lq;simp only[qc]
  ·intro i hi hh
   obtain⟨n,hn⟩:=hg4.has i hi;rw[List.mem_singleton.1 hh,f24]at hn;cases hn
  ·intro hh
   rw[List.mem_singleton.1 hh,f24]at hz41;cases hz41
  ·intro i hi hh
   obtain⟨n,hn⟩:=hz42.has i hi;rw[List.mem_singleton.1 hh,f24]at hn;cases hn
 ·rw[edo]
  exact hd4.upd f24 abk abk
 ·exact((((Touch.of (S:=[]) hs2).trans hT3).trans hT4).trans (hF4 _)).mono (fun i hi=>by
   simp only[List.nil_append,List.mem_append,List.mem_cons,List.mem_singleton,List.not_mem_nil,or_false]at hi;rcases hi with((h3|h3|h3)|(h3|h3))|h3
   ·left;simp[h3]
   ·left;simp[h3]
   ·left;simp[h3]
   ·left;simp[h3]
   ·left;simp[h3]
   ·right;rw[h3];exact n2)
 ·rcases hs4 i hi with h3|h3
  ·exact .inl h3
  ·right
   cases hh:h i with
   |none=>exact .inr rfl
   |some b=>
    left
    by_cases hm3:i∈did::jid::spj
    ·simp only[List.mem_cons]at hm3
     rcases hm3 with rfl|rfl|hm3
     ·obtain⟨w,hw,_⟩:=hd3
      rw[hw]at h3;cases h3
     ·rw[hz1]at h3;cases h3
     ·exact hm3
    ·have:=hT3 _ _ hm3 (hs2 _ _ hh)
     rw[h3]at this;cases this
 ·rcases hs3 i hi with h3|h3
  ·exact .inl h3
  ·right;exact hs2.none h3
theorem SK(x jid did:Nat)(e:ia)(d:D)(spl spj:List Nat)(o:OpD)(h:Heap)(he:jq h x jid did e spl spj)(hdk:bQ h did d)(hdo:d.ok)(hps:e.ps.length≤1000000)(hlg:e.log.length≤1000000){k:Nat}(hG:nS k e.s)(hk:k≤1000)(h64:nw o)(her:lu h):
  ai Tryz.prog 15 [.ptr x 0,opA o] h fun r h' =>r= .agg (nj (doE e d o).2.2)∧∃spl' spj',jq h' x jid did (doE e d o).1 spl' spj'∧bQ h' did (doE e d o).2.1∧Touch (x::did::jid::(spl++spj)) h h'∧(∀i∈spl',i∈spl∨i∈spj∨h i=none)∧(∀i∈spj',i∈spj∨h i=none):=by
 have stay:∀R:kV,doE e d o=(e,d,R)→∀(r:AV) (h' :Heap),(r= .agg (nj R)∧h' =h)→r= .agg (nj (doE e d o).2.2)∧∃spl' spj',jq h' x jid did (doE e d o).1 spl' spj'∧bQ h' did (doE e d o).2.1∧Touch (x::did::jid::(spl++spj)) h h'∧(∀i∈spl',i∈spl∨i∈spj∨h i=none)∧(∀i∈spj',i∈spj∨h i=none):=fun R ed r h' ⟨e1,e2⟩=>by
  subst e2;rw[ed];exact⟨e1,spl,spj,he,hdk,.refl _ _,fun i hi=> .inl hi,fun i hi=> .inl hi⟩
 cases hd:e.down
 case true=>
  exact(MF x jid did e spl spj o h he hd).mono (stay _ (by simp_all [doE,if_pos]))
 by_cases hne:(bu e.s o).2.2.2=0
 case neg=>
  exact(Px x jid did e spl spj o h he hd hG hk h64 her hne).mono (stay _ (by
   simp_all [doE,if_neg,if_pos]))
 by_cases hcode:(jadd d e.ps false (gK e.ch o)).2=0
 ·exact Py x jid did e d spl spj o h he hdk hdo hps hlg hd hG hk h64 her hne hcode
 ·exact(Pz x jid did e d spl spj o h he hdk hdo hps hlg hd hG hk h64 her hne hcode).mono fun r h' ⟨a,s1,s2,b,c,f,g,i⟩=>⟨a,s1,s2,b,c,f,fun q hq=>(g q hq).imp id .inr,i⟩
theorem SE{P:Program}{U:TypeId→TI}{n:Nat}{a b:Code}{ρ:Env}{h:Heap}{K:Exit→Env→Heap→Prop}{y:AV}(hh:∀H2,H2=h→nv P U n a b ρ H2 K y):nv P U n a b ρ h K y:=hh h rfl
theorem lu.touch{h h' :Heap}{S:List Nat}(he:lu h)(ht:Touch S h h')(hS:∀i∈S,∀b vs,h i≠some (.ro b vs)):lu h' :=by
 obtain⟨ev,hev,id,hi⟩:=he;exact⟨ev,hev,id,ht _ _ abi hi⟩
theorem EI{e:ia}{l:List Txt}{i:Nat}(hi:i<l.length){e1:ia}(h:oZ e (l.take i)=some e1):oZ e (l.take (i+1))=rD e1 l[i]:=by
 grind [List.take_succ_eq_append_getElem,xD]
theorem EG{e:ia}{l:List Txt}{i:Nat}(h:oZ e (l.take i)=none):oZ e l=none:=by
 rw[←List.take_append_drop i l];generalize l.take i=a at h⊢
 induction a generalizing e with
 |nil=>cases h
 |cons p a ih=>
  simp only[List.cons_append,oZ]at h⊢
  grind
theorem Nv{e:ia}{p:Txt}{o:OpD}(h:mP e p=some o)(hl:p.length≤1000000):nw o:=by
 grind [mP,wD,List.length_drop]
def wP(h h' :Heap)(did:Nat)(ps:List Txt)(r:AV):Prop:=match Fx ps with
 |none=>r= .tup [.v (.pointer none),.i 7]
 |some e=>∃x jid spl spj,r= .tup [.ptr x 0,.i 0]∧jq h' x jid did e spl spj∧(∀i∈x::jid::(spl++spj),h i=none)
theorem newL:iY we= [.i 0,.sl [] .no,.sl [] .no,.sl [] .no,.sl [] .no,.s jj,.b false,.i 6,.sl [] .no,.sl [] .no,.sl [] .no,.sl [] .no,.i 0]:=rfl
theorem LA(d:D)(hdo:d.ok)(did:Nat)(h:Heap)(hdk:bQ h did d)(her:lu h)(hps:(scan d.b).1.length≤900):
  ai Tryz.prog 14 [.ptr did 0] h fun r h' =>bQ h' did d.cc.1∧Keep did h h'∧if d.cc.2=0 then wP h h' did (scan d.b).1 r else r= .tup [.v (.pointer none),.i (d.cc.2:Nat)]:=by
 have hlen:=(ND d.b).2;refine abg Tryz.func14 62 [.tmp 2,.tmp 3] fun hwf=>?_
 simp -implicitDefEqProofs only[go_sem];refine(Ku d hdo did h hdk).mono fun r h1 ⟨J,e1,hd1,kp1,hif⟩=>?_
 subst e1;have her1:lu h1:=her.touch (.keep kp1) (fun i hi b vs hh=>by
  obtain⟨y,hy,_⟩:=hdk;rw[List.mem_singleton.1 hi,hy]at hh;cases hh)
 generalize (scan d.b).1=ps at hps hlen hif⊢;generalize d.cc=od at hd1 hif⊢;obtain⟨d1,c1⟩:=od;simp only at hd1 hif⊢
 by_cases hc:c1=0
 case neg=>
  rw[if_neg hc]at hif;subst hif;have t1:(((c1:Nat):Int) !=0)=true:=by simp[hc]
  simp -implicitDefEqProofs only[go_sem,t1];exact .same (.refl _) ⟨hd1,kp1,by rw[if_neg hc];rfl⟩
 subst hc;rw[if_pos rfl]at hif;obtain⟨jid,spj,rfl,hjn,hj,hsn⟩:=hif;simp -implicitDefEqProofs only[go_sem];refine(Qj h1 her1).pthen ?_;rw[show cJ we= .agg (iY we)from rfl,newL]
 simp -implicitDefEqProofs only[go_sem];intro x hx;have hxh:h x=none:=by
  cases hh:h x with
  |none=>rfl
  |some k=>
   by_cases e:x=did
   ·subst e
    obtain⟨y,hy,_⟩:=hd1;rw[hy]at hx;cases hx
   ·rw[kp1 _ _ e hh]at hx;cases hx
 simp -implicitDefEqProofs only[go_sem];refine inH fun H1 w1=>?_
 have hs1:Ab.Sub h1 H1:=by rw[w1];exact(Sub.refl h1).new hx _
 have hE1:jq H1 x jid did (jn ps) [] spj:=⟨_,by rw[w1,ah];rfl,.inl ⟨rfl,rfl,rfl⟩,hj.sub hs1⟩
 clear w1;have hK1:Keep did h H1:=kp1.trans (hs1.keep did);refine(yE jid did ps false spj H1 (hj.sub hs1) abh (fun p hp=>by have:=hlen p hp;omega)).mono fun r h2 ⟨q,er,hs2⟩=>?_
 subst er;simp -implicitDefEqProofs only[go_sem,aa7];refine .intro (fun m ρ H=>∃(i:Nat) (e:ia) (spl:List Nat),oZ (jn ps) (ps.take i)=some e∧e.ps=ps∧e.down=false∧e.log.length=i∧nS i e.s∧jq H x jid did e spl spj∧bQ H did d1∧Keep did h H∧(∀j∈spl,h j=none)∧i≤ps.length∧m=ps.length - i∧lk ρ 6=some (.ptr x 0)∧lk ρ 28=some (.sl (ps.map j0) q)∧lk ρ 29=some (.i ps.length)∧lk ρ 30=some (.i i)) (ps.length - 0) ?_ ?_
 ·obtain⟨yl,a,b,c⟩:=hE1
  refine⟨0,jn ps,[],rfl,rfl,rfl,rfl,xJ,⟨yl,hs2 _ _ a,b.touch (S:=[]) (.of hs2) (fun i hi=>by cases hi),c.sub hs2⟩,(hd1.keep hs1.fP).keep hs2.fP,hK1.trans (hs2.keep did),fun j hj=>(by cases hj),abh,rfl,?_,?_,?_,?_⟩<;>simp -implicitDefEqProofs only[go_sem]
 rintro m ρ H ⟨i,e,spl,hf,hps2,hdn,hlg,hG,hE,hD,hK,hsl,hi,rfl,r6,r28,r29,r30⟩
 by_cases hlt:i<ps.length
 case neg=>
  have ei:i=ps.length:=abh;have t1:decide ((i:Int)<(ps.length:Int))=false:=decide_eq_false abh;rw[ei,List.take_length]at hf;simp -implicitDefEqProofs only[go_sem,r6,r28,r29,r30,t1];refine .same (.refl _) ⟨hD,hK,?_⟩
  show wP h H did ps (.tup [.ptr x 0,.i 0])
  unfold wP Fx;rw[hf];exact⟨x,jid,spl,spj,rfl,hE,fun j hj=>by
   simp only[List.mem_cons,List.mem_append]at hj;rcases hj with rfl|rfl|hj|hj
   ·exact hxh
   ·exact hjn
   ·exact hsl _ hj
   ·exact(hsn _ hj).1⟩
 have t1:decide ((i:Int)<(ps.length:Int))=true:=decide_eq_true abh;have w3:=abd i abh;have ix:=fun k=>fD.eq (xs:=ps.map j0) (sz:=1) i abH aby k
 have hf1:=EI hlt hf;have hpl:=hlen _ (abc hlt);rw[aa8]at ix;obtain⟨p,ep⟩:∃p,ps[i]=p:=⟨_,rfl⟩;rw[ep]at ix hf1 hpl;simp only[j0]at ix;have hEx:=hE;obtain⟨yl,hx2,hgl,hj2⟩:=hE;simp -implicitDefEqProofs only[go_sem,r6,r28,r29,r30,t1,ix];refine(J7 p .no e yl jid x H abh hx2).pthen ?_;unfold AB;have her2:lu H:=her.touch (.keep hK) (fun i hi b vs hh=>by
  obtain⟨y,hy,_⟩:=hdk;rw[List.mem_singleton.1 hi,hy]at hh;cases hh)
 have bad:∀H',Ab.Sub H H'→rD e p=none→bQ H' did d1∧Keep did h H'∧wP h H' did ps (.tup [.v (.pointer none),.i 7]):=fun H' hs hn=>by
  refine⟨hD.keep hs.fP,hK.trans (hs.keep did),?_⟩;unfold wP Fx;rw[EG (hf1.trans hn)]
 cases hr:mP e p with
 |none=>
  have hn:rD e p=none:=by unfold rD;rw[hr]
  simp -implicitDefEqProofs only[go_sem,hr,opA,opC,rU,ax,Option.getD,Option.isSome];intro i9 h9;simp -implicitDefEqProofs only[go_sem];exact .mk _ (.refl _) (.refl _) (bad _ ((Sub.refl H).new h9 _) hn)
 |some o=>
  have h64:=Nv hr abh;have hst:rD e p=if(bu e.s o).2.2.2=0 then some (qc e (bu e.s o) p)else none:=by unfold rD;rw[hr]
  obtain⟨a1,a2,a3,a4,a5,a6,a7,es⟩:=cL e.s;have hgd:=fun(G:Heap) (hG' :Ab.Sub H G)=>oe e.s hG abh o h64 G (her2.sub hG')
  have hG2:=CH o hG;have g:=hx2;unfold lq at g;rw[es]at g;simp only[List.cons_append,List.nil_append]at g;simp -implicitDefEqProofs only[go_sem,hr,opA,opC,Option.getD,Option.isSome];intro i9 h9;have x9:i9≠x:=fun e=>by rw[e,hx2]at h9;cases h9
  simp -implicitDefEqProofs only[go_sem];generalize hH:upd H i9 _=H1;have kx:H1 x=_:=(by rw[←hH,ag _ _ (Ne.symm x9)]:H1 x=H x).trans g
  have k9:H1 i9=some (.obj (opC o) 32):=ada;have hsub:Ab.Sub H H1:=by rw[←hH];exact(Sub.refl H).new h9 _
  clear hH g;generalize bu e.s o=gd at hgd hst hG2⊢;obtain⟨S,R,D,E⟩:=gd;simp only at hst hG2;obtain⟨b1,b2,b3,b4,b5,b6,b7,es2⟩:=cL S;rw[og,show cJ e.s= .agg (iY e.s)from rfl,es,show cJ S= .agg (iY S)from rfl,es2]at hgd
  simp only[opA,opC]at hgd;unfold opC at k9;refine .tree _ (.quiet [0,1,2,3,4] 5 (.news [6,7,8,9,10] [11,12,13] (.seq [14,15,16,17]))) (.refl _) abl rfl ?_;simp -implicitDefEqProofs only[go_sem,r6,kx,k9];refine⟨_,fun G hs=>hgd G (hsub.trans hs),?_⟩
  simp -implicitDefEqProofs only[go_sem];refine⟨.refl _,abp,?_⟩;intro jd hjd je hje jf hjf;have ned:=aH hje;have kje:=aB hje;have nfe:=aH hjf;have nfd:=aH (aB hjf);have kjf:=aB (aB hjf);simp -implicitDefEqProofs only[go_sem,aj,ned,ned.symm,nfe,nfe.symm,nfd,nfd.symm];refine⟨abr,abr,abr,?_⟩;refine SE fun H2 w2=>?_
  have xjd:jd≠x:=fun e=>aeT
  have xje:je≠x:=fun e=>aeU
  have xjf:jf≠x:=fun e=>aeV
  have hs2:Ab.Sub H H2:=by
   have:=hsub.none hjd;have:=hsub.none kje;have:=hsub.none kjf;rw[w2];repeat (first|exact hsub|refine Ab.Sub.put ?_ abt _)
  have fx:H2 x=_:=(by rw[w2];simp only[aj,xjd,xjd.symm,xje,xje.symm,xjf,xjf.symm,ne_eq,not_false_eq_true]:H2 x=H1 x).trans kx
  have fd:H2 jd=some (.obj [.i S.tick,fQ S.cases,jP S.reviews,kM S.notices,dR S.roles,b1,b2,b3,b4,b5,b6,b7,.i S.version] 67):=by rw[w2];simp only[aj,ned,ned.symm,nfe,nfe.symm,nfd,nfd.symm,ah,ne_eq,not_false_eq_true]
  have ff:H2 jf=some (.obj (xo D) 71):=by rw[w2];simp only[aj,ned,ned.symm,nfe,nfe.symm,nfd,nfd.symm,ah,ne_eq,not_false_eq_true];rfl
  clear w2;simp only[xo,opC,List.cons_append,List.nil_append]at ff
  by_cases hE0:E=0
  case neg=>
   have t2:(E !=0)=true:=by simp[hE0]
   rw[if_neg hE0]at hst;simp -implicitDefEqProofs only[go_sem,t2];exact .same (.refl _) (bad _ hs2 hst)
  subst hE0;rw[if_pos rfl]at hst;have hx3:H2 x=some (lq jid e yl):=by rw[fx];unfold lq;rw[es];rfl
  have hg3:=hgl.touch (S:=[]) (.of hs2) (fun i hi hh=>acH)
  have hgo:=Gb e S D p .no jid x yl spl H2 hx3 hg3 abh abh;rw[show cJ S= .agg (iY S)from rfl,es2]at hgo
  simp only[xo,opC,List.cons_append,List.nil_append]at hgo;simp -implicitDefEqProofs only[go_sem,r6,fd,ff];refine hgo.mono fun r H4 ⟨er,yl',spl',hx4,hg4,hT4,hs4⟩=>?_
  subst er;simp -implicitDefEqProofs only[go_sem,r6,r28,r29,r30,w3];have hout:∀j∈x::spl,h j=none:=fun j hj=>by
   rcases List.mem_cons.1 hj with rfl|hj
   ·exact hxh
   ·exact hsl _ hj
  have hdid:h did≠none:=by
   obtain⟨y,hy,_⟩:=hdk;rw[hy];simp
  have hj3:=hj2.sub hs2;have hD2:=hD.keep hs2.fP;refine⟨_,?_,i+1,qc e (S,R,D,0) p,spl',hf1.trans hst,hps2,hdn,?_,hG2,⟨yl',hx4,hg4,?_⟩,?_,?_,?_,abh,rfl,?_,?_,?_,?_⟩
  ·omega
  ·simp[qc,hlg]
  ·refine hj3.touch hT4 ?_ ?_
   ·obtain⟨z,zs,hz1,_⟩:=hj3
    intro hh;exact agn
   ·obtain⟨z,zs,_,hz2,_⟩:=hj3
    intro j hj hh;obtain⟨n,hn⟩:=hz2.has j hj;rcases List.mem_cons.1 hh with rfl|hh
    ·rw[hx3]at hn;cases hn
    ·obtain⟨n2,hn2⟩:=hg3.has j hh
     rw[hn2]at hn;cases hn
  ·exact hD2.touch hT4 (fun j hj cs=>by
    rcases List.mem_cons.1 hj with rfl|hj
    ·rw[hx3];exact⟨fun hh=>acH,fun hh=>acH⟩
    ·obtain⟨n,hn⟩:=hg3.has j hj
     rw[hn];exact⟨fun hh=>acH,fun hh=>acH⟩)
  ·intro j k hj hk
   exact hT4 _ _ (fun hh=>by rw[hout j hh]at hk;cases hk) (hs2 _ _ (hK _ _ hj hk))
  ·intro j hj
   rcases hs4 j hj with hh|hh
   ·exact hsl _ hh
   ·cases hk:h j with
    |none=>rfl
    |some k=>
     by_cases e1:j=did
     ·subst e1
      obtain⟨y,hy,_⟩:=hD2;rw[hy]at hh;cases hh
     ·rw[hs2 _ _ (hK _ _ e1 hk)]at hh;cases hh
  all_goals simp -implicitDefEqProofs only[go_sem,r6,r28,r29]
theorem jq.sub{h h' :Heap}{x jid did:Nat}{e:ia}{spl spj:List Nat}(he:jq h x jid did e spl spj)(hs:Ab.Sub h h'):jq h' x jid did e spl spj:=by
 obtain⟨yl,a,b,c⟩:=he;exact⟨yl,hs _ _ a,b.touch (S:=[]) (.of hs) abp,c.sub hs⟩
end Go.Proofs.YtcochaoekecfdaaGreatDoor
namespace Go.Bf
open Go Go.Ab Go.Proofs.YtcochaoekecfdaaGreatDoor
theorem VD{e:ia}{d d' :D}{o:OpD}{ps:List Txt}{dn:Bool}{c:Nat}(h:e.down=false)(hg:(bu e.s o).2.2.2=0)(hj:jadd d e.ps false (gK e.ch o)=((d',ps,dn),c)):
  doE e d o=if c=0 then({qc e (bu e.s o) (gK e.ch o)with ps:=ps,down:=dn},d',(bu e.s o).2.1)else({e with ps:=ps,down:=dn},d',HE (c:Int)):=by
 simp_all [doE,if_neg]
theorem MG{e:ia}{d:D}{o:OpD}(h:e.down=false)(hg:(bu e.s o).2.2.2=0)(h1:d.off=false)(h2:d.f=0)(hr:d.b.length+(frame (gK e.ch o)).length≤d.q):
  doE e d o=({qc e (bu e.s o) (gK e.ch o)with ps:=e.ps++ [gK e.ch o],down:=false},{d with b:=d.b++frame (gK e.ch o),sy:=(d.b++frame (gK e.ch o)).length},(bu e.s o).2.1):=by
 have hl:=wH (h:=e.ch) (jV (oh hg));rw[VD h hg (Tg h1 h2 abh abh hr),if_pos rfl]
end Go.Bf
namespace Go.Proofs.YtcochaoekecfdaaGreatDoor
open Go Go.Ab Go.Bf
theorem AJ{h0 h h' :Heap}{S:List Nat}(hs:Ab.Sub h0 h)(ht:Touch S h h')(hn:∀i∈S,h0 i=none):Ab.Sub h0 h' :=fun j k hj=>ht j k abi (hs j k hj)
theorem LG{h0 h h' :Heap}{i:Nat}(hs:Ab.Sub h0 h)(ht:Keep i h h')(hn:h0 i=none):Ab.Sub h0 h' :=AJ hs (.keep ht) abi
theorem PR{h:Heap}{x jid did:Nat}{e:ia}{d:D}{spl spj:List Nat}(he:jq h x jid did e spl spj)(hd:bQ h did d):∀i∈x::did::jid::(spl++spj),h i≠none:=fun i hi=>by
 obtain⟨yl,a,b,z,zs,c1,c2,_⟩:=he;obtain⟨y,d1,_⟩:=hd;simp only[List.mem_cons,List.mem_append]at hi;rcases hi with rfl|rfl|rfl|hi|hi
 ·grind
 ·grind
 ·grind
 ·obtain⟨n,e⟩:=b.has i hi;grind
 ·obtain⟨n,e⟩:=c2.has i hi;grind
theorem I2(q:Nat)(hq:q≤1048576)(did:Nat)(h:Heap)(hdk:bQ h did ⟨q,[],0,0,false⟩)(her:lu h):
  ai Tryz.prog 14 [.ptr did 0] h fun r h' =>∃x jid spl spj,r= .tup [.ptr x 0,.i 0]∧jq h' x jid did (jn []) spl spj∧bQ h' did ⟨q,[],0,0,false⟩∧Keep did h h'∧(∀i∈x::jid::(spl++spj),h i=none):=by
 have hok:D.ok ⟨q,[],0,0,false⟩:=⟨Nat.zero_le _,hq,Nat.zero_le _,(by decide:(0:Nat)<9223372036854775808)⟩
 have ho:=D.Qq hok rfl rfl;simp only[yI,List.take_nil]at ho;refine(LA _ hok did h hdk her (by simp[yI])).mono fun r h' ⟨h1,h2,h3⟩=>?_
 simp only[if_true,yI]at h3;obtain⟨x,jid,spl,spj,a,b,c⟩:=h3
 grind
theorem OH:(bu we qs).2.1=⟨0,bf,false,ax,false,0⟩∧(bu we qs).2.2.2=0:=⟨abx,abx⟩
theorem KM:nw qs:=⟨⟨abk,abk⟩,⟨abk,abk⟩,⟨abk,abk⟩,⟨abk,abk⟩⟩
theorem Tn:opA qs= .agg [.i 1,.s [97,110,110],.s [99],.s [],.s [],.i 0,.i 0,.s [],.i 0,.s [],.s [],.b false]:=rfl
theorem zg(h:Heap)(he:lu h):ai Tryz.prog 3 [] h fun r h' =>r= .b true∧h' =h:=
 ai.freeze fun g hgs _=>by
 have he:=he.sub hgs;have hF:=jV (oh OH.2);have hput:=mO hF;have hrl:=wH (h:=0#64) hF;have hrec:=fun G=>BL 0#64 qs KM (f_l hF) abh G
 have hpl:=sQ (gK 0#64 qs);have hdo:=MG (e:=jn []) (d:=⟨1000,[],0,0,false⟩) (o:=qs) rfl OH.2 rfl rfl abk;rw[Tn]at hrec;refine abg Tryz.func3 67 [.tmp 0] fun hwf=>?_
 simp only[go_sem];refine(J1 1000 abk g).mono fun r h1 ⟨did,hn,er,hdk,s1⟩=>?_
 subst er;simp only[go_sem];refine(I2 1000 abk did h1 hdk (he.sub s1)).mono fun r h2 ⟨x,jid,spl,spj,er,hE,hD,hK,hnew⟩=>?_
 subst er;have s2:Ab.Sub g h2:=LG s1 hK hn;have hnew' :∀i∈x::did::jid::(spl++spj),g i=none:=fun i hi=>by
  simp only[List.mem_cons]at hi hnew;rcases hi with rfl|rfl|hi
  ·exact s1.none (hnew _ (.inl rfl))
  ·omega
  ·exact s1.none (hnew _ (.inr hi))
 simp only[go_sem];intro i5 h5;simp only[go_sem];have e5:∀ {b:Option Blk},Ab.Sub h2 (upd h2 i5 b):=fun {b}=>(Sub.refl h2).new h5 b
 generalize hH:upd h2 i5 _=H;have f5:H i5=some (.obj (opC qs) 32):=ada;have s5:Ab.Sub h2 H:=by rw[←hH];exact e5
 clear hH;have f5' :H i5=some (.obj [.i 1,.s [97,110,110],.s [99],.s [],.s [],.i 0,.i 0,.s [],.i 0,.s [],.s [],.b false] 32):=f5;refine(show ai Tryz.prog _ [.ptr x 0,opA qs] _ _ from(SK x jid did (jn []) ⟨1000,[],0,0,false⟩ spl spj qs H (hE.sub s5) (hD.keep s5.fP) ⟨Nat.zero_le _,abk,Nat.zero_le _,abk⟩ abk abk xJ abk KM ((he.sub s2).sub s5)).mono fun r h3 ⟨er,spl',spj',hE3,hD3,hT3,_⟩=>?_)
 subst er;rw[hdo]at hE3 hD3⊢;have n5:i5∉x::did::jid::(spl++spj):=fun hi=>PR hE hD _ hi h5
 have f53:=hT3 _ _ n5 f5';have s3:Ab.Sub g h3:=AJ (s2.trans s5) hT3 hnew';have er2:nj (bu (jn []).s qs).2.1= [.i 0,.v (.complex .f64 4607182418800017408 0),.b false,.i 0,.i 0,.s [],.b false,.i 0]:=abx;rw[er2];obtain⟨E,eE⟩:∃E,({qc (jn []) (bu (jn []).s qs) (gK (jn []).ch qs)with ps:=(jn []).ps++ [gK (jn []).ch qs],down:=false}:ia)=E:=⟨_,rfl⟩
 have eps:E.ps= [gK 0#64 qs]:=by rw[←eE];rfl
 have ech:E.ch=rJ 0#64 (gK 0#64 qs):=by rw[←eE];rfl
 simp only[eE]at hE3;clear eE hdo er2;simp only[go_sem];intro i6 h6;simp only[go_sem];generalize hH4:upd h3 i6 _=H4;have f6:H4 i6=some (.obj [.i 0,.v (.complex .f64 4607182418800017408 0),.b false,.i 0,.i 0,.s [],.b false,.i 0] 36):=by rw[←hH4,ah]
 have s6:Ab.Sub h3 H4:=by rw[←hH4];exact(Sub.refl h3).new h6 _
 clear hH4;obtain⟨p,ep⟩:∃p,gK 0#64 qs=p:=⟨_,rfl⟩;rw[ep]at eps ech hrec hrl hpl;refine(Cr x jid did E spl' spj' H4 (hE3.sub s6) afh (by rw[eps];intro q hq;rw[List.mem_singleton.1 hq];omega)).mono fun r H5 ⟨q,er,s7⟩=>?_
 subst er;rw[eps];have f65:=s7 _ _ f6;have f55:=s7 _ _ (s6 _ _ f53);have hE5:=(hE3.sub s6).sub s7;have ix:=fun(K:AV→Prop)=>fD.eq (xs:=[j0 p]) (sz:=1) 0 abp rfl K
 simp only[Int.natCast_zero,List.getElem_cons_zero,j0]at ix;have qd:eqC (.v (.complex .f64 4607182418800017408 0)) (.v (.complex .f64 4607182418800017408 0))=true:=rfl;simp only[go_sem];refine .quiet abl ?_;simp only[go_sem,f65,f55,qd,ix,List.map_cons,List.map_nil,j0];refine⟨_,show ai Tryz.prog _ [.v (.int .u64 0),_] _ _ from hrec H5,?_⟩
 have d8:decide ((8:Int)<(p.length:Int))=true:=decide_eq_true abh;simp only[go_sem,f65,f55,qd,ix];refine⟨_,GM _ _ p p _ (.sl _ _) (.sl _ _) abh,?_⟩;rw[show decide (p=p)=true from abp]
 simp only[go_sem,ix,aa7,d8];refine⟨_,JS x jid did E spl' spj' H5 hE5,?_⟩;simp only[go_sem,ix];refine⟨_,show ai Tryz.prog _ [.v (.int .u64 0),_] _ _ from Cd 0#64 _ p _ (.sl _ _) abh,?_⟩
 simp only[go_sem,ech,beq_self_eq_true];exact .same (.refl _) ⟨s3.trans (s6.trans s7),_,.pure rfl,rfl⟩
end Go.Proofs.YtcochaoekecfdaaGreatDoor
namespace Go.Bf
open Go Go.Ab Go.Proofs.YtcochaoekecfdaaGreatDoor
theorem sO{o:OpD}(hf:dj o=true)(h64:nw o):OpC o:=by
 have h:=jV hf;have h1:=h.subj;have h2:=h.case;have h3:=h.field;have h4:=h.to;have h5:=h.text;have h6:=h.reason;refine⟨h64.1,abh,abh,abh,abh,?_,h64.2.2.2,abh,abh⟩;rcases h.val with e|e
 ·rw[e];exact⟨Bq abk abk,Bq abk abk,abk,abk⟩
 ·obtain⟨k1,k2⟩:=FF e
  refine⟨Bq abh abh,h64.2.2.1,?_,fun hk=>(qX e hk).1,fun hk=>uZ e hk⟩
  exact ag4
theorem Cp(a b:OpD):jJ a b=true↔a=b:=by
 obtain⟨a1,a2,a3,a4,a5,⟨a6,a7,a8⟩,a9,a10,a11,a12⟩:=a;obtain⟨b1,b2,b3,b4,b5,⟨b6,b7,b8⟩,b9,b10,b11,b12⟩:=b;simp[jJ,and_assoc]
theorem JC{a b:OpD}(hfa:dj a=true)(ha:nw a)(hfb:dj b=true)(hb:nw b):(decide (fJ a=fJ b)==jJ a b)=true:=by
 by_cases h:a=b
 ·grind [Cp]
 ·have h1:fJ a≠fJ b:=fun e=>h (BF (x:=[]) (y:=[]) (sO hfa ha) (sO hfb hb) (by rw[e])).1
  have h2:jJ a b=false:=by
   grind [jJ,Cp]
  rw[h2,decide_eq_false h1];rfl
theorem MO{a:OpD}(hf:dj a=true)(h64:nw a){c:Nat}(hc:c<(fJ a).length):mq ((fJ a).take c)=none:=by
 cases h:mq ((fJ a).take c)with
 |none=>rfl
 |some b=>
  obtain⟨h1,h2⟩:=get_some h
  grind [mO,jV,Nr,sO,wD,List.length_take]
theorem Kj{a:OpD}(hf:dj a=true)(h64:nw a)(m:UInt8):mq (fJ a++ [m])=none:=by
 cases h:mq (fJ a++ [m])with
 |none=>rfl
 |some b=>
  obtain⟨h1,h2⟩:=get_some h
  grind [mO,jV,Lh,sO,wD]
end Go.Bf
namespace Go.Proofs.YtcochaoekecfdaaGreatDoor
open Go Go.Ab Go.Bf
theorem xu(x y z w:AV)(dx:Dat U 32 x)(dy:Dat U 32 y)(dz:Dat U 3 z)(dw:Dat U 5 w)(h:Heap)(he:lu h):ai Tryz.prog 4 [x,y,z,w] h fun r h' =>r= .b true∧h' =h:=
 ai.freeze fun g hgs _=>by
 replace he:=he.sub hgs;have hfin:∀G,Ab.Sub g G→ai Tryz.prog 3 [] G fun r h' =>r= .b true∧h' =G:=fun G hG=>zg G (he.sub hG)
 obtain⟨a0,rfl,a64⟩:=JY dx;obtain⟨b0,rfl,b64⟩:=JY dy;obtain⟨n,rfl,hn64⟩:=dz.i64 abx;obtain⟨m,rfl⟩:=dw.u8 abx;have hka:=fun G=>KX a0 G
 have hkb:=fun G=>KX b0 G
 replace a64:=KW a64;replace b64:=KW b64;generalize IC a0=a at hka a64;generalize IC b0=b at hkb b64;simp only[opA,opC]at hka hkb;refine abg Tryz.func4 74 [.tmp 8] fun hwf=>?_
 simp only[go_sem,opA,opC,aM];intro i1 h1;simp only[go_sem];intro i2 h2;have n21:=aH h2;have n2:=aB h2;simp only[go_sem,aj,n21.symm];generalize hH:upd (upd g i1 _) i2 _=H;have f1:H i1=some (.obj (opC a0) 32):=by rw[←hH,ag _ _ n21.symm,ah];rfl
 have f2:H i2=some (.obj (opC b0) 32):=ada;have hs:Ab.Sub g H:=by rw[←hH];exact((Sub.refl g).put h1 _).put n2 _
 clear hH;unfold opC at f1 f2;refine .stage (hm2 i1 (.obj (opC a0) 32) i2 (.obj (opC b0) 32)) [0,2,1,3] [4,5] (.hm2 f1 f2) abl ?_;simp only[go_sem,oo _ _ n21.symm,ot,opC];refine(hka _).pthen ?_;refine⟨.hm2 f1 f2,?_⟩;simp only[go_sem];refine(hkb _).pthen ?_;refine⟨.hm2 f1 f2,cF,(fun _ _ e=>abI),?_⟩
 have n12:=Ne.symm n21;simp only[go_sem,f1,f2];refine⟨fun _ _ e=>abI,?_⟩
 simp only[go_sem,aj,n21,n12,f2];refine⟨fun _ _ e=>abI,?_⟩
 generalize hK:upd (upd H i1 _) i2 _=K;have k1:K i1=some (.obj (opC a) 32):=by rw[←hK,ag _ _ n12,ah];rfl
 have k2:K i2=some (.obj (opC b) 32):=by rw[←hK,ah];rfl
 have hsK:Ab.Sub g K:=by rw[←hK];exact(hs.put h1 _).put n2 _
 clear hK f1 f2;unfold opC at k1 k2;have hfa:=wC a K;have hfb:=wC b K;simp only[opA,opC]at hfa hfb;refine hfa.pthen ?_;cases da:dj a
 ·simp only[go_sem]
  refine(hfin _ hsK).pthen ?_;simp only[go_sem];exact .same (.refl _) ⟨hsK,_,.pure rfl,rfl⟩
 simp only[go_sem,k2];refine hfb.pthen ?_;cases db:dj b
 ·simp only[go_sem]
  refine(hfin _ hsK).pthen ?_;simp only[go_sem];exact .same (.refl _) ⟨hsK,_,.pure rfl,rfl⟩
 have hpa:=mO (jV da);have hpb:=mO (jV db);have hqa:=BG a a64 (f_l (jV da)) K;have hqb:=BG b b64 (f_l (jV db)) K;simp only[opA,opC]at hqa hqb;simp only[go_sem];refine .quiet abl ?_;simp only[go_sem,k1];refine⟨_,hqa,?_⟩;simp only[go_sem,k2];refine⟨_,hqb,?_⟩;have d1:(((fJ a).length:Int)==0)=false:=beq_eq_false_iff_ne.mpr abh;simp only[go_sem];refine .quiet abl ?_;simp only[go_sem,aa7,d1];refine⟨_,GM _ _ (fJ a) (fJ b) _ (.sl _ _) (.sl _ _) abh,?_⟩;have dd:=JC da a64 db b64;unfold jJ at dd;simp only[go_sem,k1,k2];rw[dd];have w1:IntKind.i64.wrap (((fJ a).length:Int) - 1)=(((fJ a).length - 1:Nat):Int):=by grind [IntWalk.i64_in]
 have hwl:=FJ n ((fJ a).length - 1);simp only[go_sem,Bool.not_true,w1,aa7];refine(Ji n ((fJ a).length - 1) _ hn64 abh).pthen ?_;simp only[go_sem,aa7];refine⟨abh,abh,?_⟩;refine(xI _ .no abi K).pthen ?_;rw[CE,MO da a64 abh];simp only[go_sem,opA,opC,rU,ax,Option.getD,Option.isSome];intro i3 h3;simp only[go_sem];generalize hM:upd K i3 _=M;have sM:Ab.Sub K M:=by rw[←hM];exact(Sub.refl K).new h3 _
 clear hM;refine⟨abh,.acc fun z' M2 ha' _=>?_⟩
 rw[List.nil_append]at ha';simp only[go_sem];refine jS.app ha' (m:=[m]) (fun _ hk=>hk) abi fun z3 M3 ha3=>?_
 obtain⟨q3,e3⟩:=Acc.row ha3;have s3:=ha3.1;subst e3;simp only[go_sem];refine(xI (fJ a++ [m]) q3 abi M3).pthen ?_;rw[CE,Kj da a64 m];simp only[go_sem,opA,opC,rU,ax,Option.getD,Option.isSome];intro i5 h5;simp only[go_sem];have hsf:∀b,Ab.Sub g (upd M3 i5 b):=fun b=>((hsK.trans sM).trans s3).trans ((Sub.refl M3).new h5 b)
 refine(hfin _ (hsf _)).pthen ?_;simp only[go_sem];exact .same (.refl _) ⟨hsf _,_,.pure rfl,rfl⟩
theorem vX(ev:Value)(hev:ev= .nilIface∨∃te pe,ev= .iface te pe)(x y z w:AV)(dx:Dat U 32 x)(dy:Dat U 32 y)(dz:Dat U 3 z)(dw:Dat U 5 w):ai Tryz.prog 4 [x,y,z,w] (wq [(3,BE),(2,[ev])]) fun r _=>r= .b true:=(xu x y z w dx dy dz dw _ (I1 hev)).mono fun _ _ h=>h.1
end Go.Proofs.YtcochaoekecfdaaGreatDoor
