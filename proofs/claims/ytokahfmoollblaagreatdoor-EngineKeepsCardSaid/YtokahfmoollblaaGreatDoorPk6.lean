/- The law EngineKeeps: pack 6 of its texts. -/
import Derived.Test.YtokahfmoollblaaGreatDoorPk1
import Derived.Test.YtokahfmoollblaaGreatDoorPk2
import Derived.Test.YtokahfmoollblaaGreatDoorPk3
import Derived.Test.YtokahfmoollblaaGreatDoorPk4
import Derived.Test.YtokahfmoollblaaGreatDoorPk5
set_option linter.unusedSimpArgs false
set_option linter.unusedVariables false
set_option maxRecDepth 100000
namespace Go.Bf
open Go Go.Ab Go.Proofs.YtokahfmoollblaaGreatDoor
def rsA(r:jX):AV:=.agg [aR r.1,ay r.2]
theorem Jk(l:List cE)(m:aU)(i:Nat)(h:i<l.length):eU (l.take (i+1)) m=eU (l.take i) m++(if(l[i].on==1 && m==bp||l[i].on==2 && m==cM)=true then [l[i]]else []):=by grind [eU,List.take_succ_eq_append_getElem]
theorem rK(l:List cE)(m:aU){L:List AV}(hL:L=l.map bh)(q:Perm):Weak (.agg [aR m,.sl L q]) (rsA (m,l)):=by
 subst hL;refine .agg _ _ rfl fun i a b=>?_
 rcases i with _|_|i
 ·exact afn
 ·exact agG
 grind
theorem zy(alg:Int)(m:aU)(l:List jX)(i:Nat)(h:i<l.length)(h3:alg≠3):eW alg m (l.take (i+1))=eW alg m (l.take i)++(if(l[i].1==m)=true then l[i].2 else []):=by
 unfold eW;rw[if_neg h3,if_neg h3,List.take_succ_eq_append_getElem h,List.filter_append,List.map_append,List.flatten_append]
 grind
theorem zx{m:aU}{l:List jX}(h:∀x∈l,(x.1==m)=false):eW 3 m l= []:=by
 unfold eW;rw[if_pos rfl,List.find?_eq_none.2 fun x hx=>ad4]
 rfl
theorem wQ{m:aU}{l:List jX}(i:Nat)(h:i<l.length)(h1:(l[i].1==m)=true)(h2:∀j (hj:j<i),((l[j]'ad3).1==m)=false):eW 3 m l=l[i].2:=by
 unfold eW;rw[if_pos rfl,show(l.find? fun x=>x.1==m)=some l[i]from List.find?_eq_some_iff_getElem.2 ⟨h1,i,h,rfl,fun j hj=>ad4⟩]
 rfl
end Go.Bf
namespace Go.Proofs.YtokahfmoollblaaGreatDoor
open Go Go.Ab Go.Bf Tryz
theorem Wl:(U 145).sz=3:=aei
theorem Wm:(U 96).sz=2:=aei
theorem rV(l:List cE)(hl:l.length≤1000000)(m:aU)(hpd:m=bp∨m=cM)(h:Heap):ai prog 253 [ay l,aR m] h fun r h' =>r=ay (eU l m)∧h' =h:=by
 have h9:M9 m:=by rcases hpd with rfl|rfl<;>decide
 have pe:=(nb h9).pe;have de:=(nb h9).de;have uO:=Wl;obtain⟨b,b1,b2⟩:∃b,(m==bp)=b∧(m==cM)= !b:=by
  rcases hpd with rfl|rfl
  ·exact⟨true,ad6,ad6⟩
  ·exact⟨false,ad6,ad6⟩
 refine ad2 func253 36 [.tmp 4] fun hwf=>?_
 simp only[go_sem,ay,aR,adT];refine .intro (fun q ρ H=>∃(i:Nat) (y:AV),Acc U 145 h H y ((eU (l.take i) m).map bh)∧i≤l.length∧q=l.length - i∧lk ρ 1=some (.v (.complex .f64 (hbit m.1) (hbit m.2)))∧lk ρ 5=some y∧lk ρ 8=some (.sl (l.map bh) .no)∧lk ρ 9=some (.i l.length)∧lk ρ 10=some (.i i)) l.length ?_ ?_
 ·refine⟨0,.sl [] .full,by simpa[eU]using Acc.full (.refl _),ad3,rfl,?_,?_,?_,?_,?_⟩<;>simp only[go_sem]
 ·rintro q ρ H ⟨i,y,hy,hi,rfl,r1,r5,r8,r9,r10⟩
  obtain⟨qy,eqy⟩:=hy.row;subst eqy;simp only[go_sem,r9,r10];refine .intro (fun e=>?_) (fun e=>?_)
  ·have hlt:i<l.length:=ad0 e
   have w1:=adZ i ad3;have hsn:=Jk l m i hlt;have ix:=fun k=>fC.eq (xs:=l.map bh) (sz:=3) i aep aec k
   rw[adU]at ix;obtain⟨o,eo⟩:∃o,l[i]=o:=⟨_,rfl⟩;rw[eo]at ix hsn;simp only[bh]at ix;simp only[go_sem,r8,r10,ix];intro i7 h7;cases b
   ·cases a3:(o.on==2)
    ·cases a1:(o.on==1)
     ·simp only[go_sem,r10,a1,a3,w1]
      exact aiw
     ·simp only[go_sem,r1,r10,a1,a3,b1,pe,w1]
      exact aiw
    ·cases a1:(o.on==1)
     ·simp only[go_sem,r1,r5,a1,a3,b2,de]
      exact ail
     ·simp only[go_sem,r1,r5,a1,a3,b1,b2,pe,de]
      exact ail
   ·cases a1:(o.on==1)
    ·cases a3:(o.on==2)
     ·simp only[go_sem,r10,a1,a3,w1]
      exact aiw
     ·simp only[go_sem,r1,r10,a1,a3,b2,de,w1]
      exact aiw
    ·cases a3:(o.on==2)
     ·simp only[go_sem,r1,r5,a1,b1,pe]
      exact ail
     ·simp only[go_sem,r1,r5,a1,b1,pe]
      exact ail
  ·have hge:i=l.length:=by have:=adW e;omega
   subst hge;rw[List.take_length]at hy;simp only[go_sem,r5];exact .mk (ay (eU l m)) (by rw[List.take_length];exact .sl _ _) hy.1 ⟨rfl,rfl⟩
theorem tri{t:Nat}(h:t≤2):t=0∨t=1∨t=2:=ad3
theorem Jl(r:cS)(hr:r.obls.length≤1000000)(t c:Nat)(ht:t≤2)(hc:c≤2)(h:Heap):ai prog 249 [aC r,.i t,.i c] h fun x h' =>x=rsA (nP r t c)∧h' =h:=by
 obtain⟨id,deny,tgt,cond,obls⟩:=r;simp only at hr;have hdp:=fun G=>rV obls hr bp (.inl rfl) G
 have hdd:=fun G=>rV obls hr cM (.inr rfl) G
 have hip:=fun G=>yV bp ad6 G
 have hid:=fun G=>yV cM ad6 G
 simp only[aR,bp,cM,hbit,ay]at hdp hdd hip hid;refine ad2 func249 38 [.cell 6 96] fun hwf=>?_
 simp only[go_sem,aC];intro i3 h3;simp only[go_sem];intro i6 h6;have n63:=aF h6;have n6:=aB h6;have hs:∀x y,Ab.Sub h (upd (upd h i3 x) i6 y):=fun x y=>((Sub.refl h).put h3 x).put n6 y
 have hs2:∀x y z,Ab.Sub h (upd (upd (upd h i3 x) i6 y) i6 z):=fun x y z=>(hs x y).put n6 z
 cases deny
 ·rcases tri ht with rfl|rfl|rfl
  ·exact ai1
  ·exact ajh
  ·rcases tri hc with rfl|rfl|rfl
   ·exact ai1
   ·exact ajh
   ·simp only[go_sem,aj,n63.symm,ay]
    refine(hdp _).pthen ?_;simp only[go_sem];exact .mk (rsA (bp,eU obls bp)) (rK _ bp rfl _) (hs _ _) ⟨rfl,rfl⟩
 ·rcases tri ht with rfl|rfl|rfl
  ·exact ai1
  ·exact aji
  ·rcases tri hc with rfl|rfl|rfl
   ·exact ai1
   ·exact aji
   ·simp only[go_sem,aj,n63.symm,ay]
    refine(hdd _).pthen ?_;simp only[go_sem];exact .mk (rsA (cM,eU obls cM)) (rK _ cM rfl _) (hs _ _) ⟨rfl,rfl⟩
theorem MM(gs:List bt)(t:gj):nu gs t≤2:=(uc (Am gs) t 2).1
theorem LL(gs:List bt)(l:List aO):qX gs l≤2:=by grind [qX]
theorem Jn(r:cS)(hr:EV r)(gs:List bt)(hf:sk gs)(h:Heap):ai prog 206 [aC r,bP gs] h fun x h' =>x=rsA (iI gs r)∧h' =h:=by
 have hob:=(ld hr.2.2.2).1;have hmt:=fun G=>MN r.tgt (CT hr.2.1) gs hf G
 have hcd:=fun G=>OH r.cond hr.2.2.1 gs hf G
 have hef:=fun G=>Jl r ad3 (nu gs r.tgt) (qX gs r.cond) (MM _ _) (LL _ _) G
 simp only[aC,bP]at hmt hcd hef;refine ad2 func206 15 [.cell 4 96] fun hwf=>?_
 simp only[go_sem,aC,bP];intro i2 h2;simp only[go_sem];intro i4 h4;have n42:=aF h4;have n4:=aB h4;obtain⟨H,eH⟩:∃H,upd (upd h i2 (some (.obj [.s r.id,.b r.deny,aT r.tgt,dY r.cond,ay r.obls] 217))) i4 (some (.obj [.v (.complex .f64 0 0),.sl [] .full] 96))=H:=⟨_,rfl⟩;have hH:Ab.Sub h H:=by rw[←eH];exact((Sub.refl h).put h2 _).put n4 _
 have g2:H i2=some (.obj [.s r.id,.b r.deny,aT r.tgt,dY r.cond,ay r.obls] 217):=ahI;have g4:H i4=some (.obj [.v (.complex .f64 0 0),.sl [] .full] 96):=afv;simp only[go_sem];rw[eH];clear eH;refine .calls (hm1 i2 (.obj [.s r.id,.b r.deny,aT r.tgt,dY r.cond,ay r.obls] 217)) [0,1,2,3,5,6,7,4,8,9,10] (.hm1 g2) ad7 rfl ?_;simp only[go_sem,gz];refine(hmt _).pthen ?_;refine⟨.hm1 g2,?_⟩;simp only[go_sem];refine(hcd _).pthen ?_;refine⟨.hm1 g2,?_⟩;simp only[go_sem];refine(hef _).pthen ?_;refine⟨.hm1 g2,?_⟩;simp only[go_sem,rsA,ay,aR,g4];refine⟨.hm1 (by rw[ag _ _ n42.symm];exact g2),?_⟩
 exact .mk _ (.refl _) (hH.put n4 _) ⟨rfl,rfl⟩
theorem BK(l:List jX):Sized 2 (l.map rsA):=bu (f:=rsA) (fun _=>rfl) l
theorem Gq{id:Txt}{set:Bool}{alg:Int}(ha:1≤alg∧alg≤6){tgt:gj}{rules:List cS}{kids:List bF}{obls:List cE}(ho:obls.length≤1000000)(t:Nat)(ht:t=1∨t=2)(parts:List jX)(hp:∀x∈parts,M6 x.1)(hn:parts.length≤32){B:Nat}(hB:B≤10000000)(hpb:∀x∈parts,x.2.length≤B)(q:Perm)(h:Heap):
  ai prog 207 [aL (.mk id set alg tgt rules kids obls),.i t,.sl (parts.map rsA) q] h fun r h' =>r=rsA (qB alg obls t parts)∧h' =h:=by
 have hm6:∀m∈parts.map (·.1),M6 m:=fun m hm=>by obtain⟨x,hx,rfl⟩:=List.mem_map.1 hm;exact hp x hx
 have hc6:M6 (iC alg (parts.map (·.1))):=HI hm6
 have uR:=Wm;have uO:=Wl;have uM:=Wk;have hall:=fun(p:Perm) (G:Heap)=>Ry alg ha (parts.map (·.1)) (by rw[adT];omega) hm6 p G
 simp only[kj]at hall;refine ad2 func207 84 [.cell 6 96] fun hwf=>?_
 simp only[go_sem,aL];intro i3 h3;simp only[go_sem];intro i6 h6;have n63:=aF h6;have n6' :=aB h6;obtain⟨H0,eH⟩:∃H0,upd (upd h i3 (some (.obj [.s id,.b set,.i alg,aT tgt,.sl (rules.map aC) .no,.sl (fc kids) .no,ay obls] 38))) i6 (some (.obj [.v (.complex .f64 0 0),.sl [] .full] 96))=H0:=⟨_,rfl⟩;have hH0:Ab.Sub h H0:=ag0;have g3:H0 i3=some (.obj [.s id,.b set,.i alg,aT tgt,.sl (rules.map aC) .no,.sl (fc kids) .no,ay obls] 38):=by rw[←eH,ag _ _ n63.symm,ah]
 have g6:H0 i6=some (.obj [.v (.complex .f64 0 0),.sl [] .full] 96):=afv;simp only[go_sem,adT];rw[eH];clear eH;refine .intro (fun m ρ H=>∃(i:Nat) (y:AV),Acc U 51 H0 H y (((parts.map (·.1)).take i).map aR)∧i≤parts.length∧m=parts.length - i∧lk ρ 1=some (.i t)∧lk ρ 2=some (.sl (parts.map rsA) q)∧lk ρ 3=some (.ptr i3 0)∧lk ρ 6=some (.ptr i6 0)∧lk ρ 7=some y∧lk ρ 15=some (.sl (parts.map rsA) q)∧lk ρ 16=some (.i parts.length)∧lk ρ 17=some (.i i)) parts.length ?_ ?_
 ·refine⟨0,.sl [] .full,.full (.refl _),ad3,rfl,?_,?_,?_,?_,?_,?_,?_,?_⟩<;>simp only[go_sem]
 ·rintro m ρ H ⟨i,y,hy,hi,rfl,r1,r2,r3,r6,r7,r15,r16,r17⟩
  obtain⟨qy,eqy⟩:=hy.row;subst eqy;simp only[go_sem,r16,r17];refine .intro (fun e=>?_) (fun e=>?_)
  ·have hlt:i<parts.length:=ad0 e
   have w1:=adZ i ad3;have hsn:((parts.map (·.1)).take (i+1)).map aR=((parts.map (·.1)).take i).map aR++ [aR parts[i].1]:=by rw[List.take_succ_eq_append_getElem aep,List.map_append,adU];rfl
   have ix:=fun k=>fC.eq (xs:=parts.map rsA) (sz:=2) i aep aec k
   rw[adU]at ix;obtain⟨x,ex⟩:∃x,parts[i]=x:=⟨_,rfl⟩;rw[ex]at ix hsn;simp only[rsA,aR,ay]at ix;simp only[go_sem,r15,r17,ix];intro i9 h9;simp only[go_sem,r7];refine(hy.sub (.ak h9)).app (zs:=[aR x.1]) (by rw[uM];decide) ad8 (fun k hk=>hk) (by rw[uM];exact bu (f:=aR) (fun _=>rfl) _) (by rw[uM];intro z hz;rw[List.mem_singleton.1 hz];rfl) aem fun y' H' hy' kp=>?_
   simp only[go_sem,r17,w1];refine⟨_,?_,i+1,y',by rw[hsn];exact hy',ad3,rfl,?_,?_,?_,?_,?_,?_,?_,?_⟩
   ·omega
   all_goals simp only[go_sem,r1,r2,r3,r6,r15,r16]
  ·have hge:i=parts.length:=by have:=adW e;omega
   subst hge;have htl:(parts.map (·.1)).take parts.length=parts.map (·.1):=List.take_of_length_le aea
   rw[htl]at hy;have k3:=hy.1 _ _ g3;have k6:=hy.1 _ _ g6;have hsH:=hH0.trans hy.1;have hjp:qB alg obls t parts=if t=0 then(naM,[])else if t=1 then(hY (iC alg (parts.map (·.1))),[])else if iC alg (parts.map (·.1))≠bp∧iC alg (parts.map (·.1))≠cM then(iC alg (parts.map (·.1)),[])
     else(iC alg (parts.map (·.1)),eW alg (iC alg (parts.map (·.1))) parts++eU obls (iC alg (parts.map (·.1)))):=rfl
   have hple:(eW alg (iC alg (parts.map (·.1))) parts).length≤32*B+B:=uy hpb hn
   have hal:=fun G=>hall qy G
   obtain⟨m,em⟩:∃m,iC alg (parts.map (·.1))=m:=⟨_,rfl⟩
   rw[em]at hc6 hjp hal hple;have hin:=fun G=>yV m hc6.m9 G
   have npe:=(nb hc6.m9).npe;have nde:=(nb hc6.m9).nde;simp only[aR]at hal hin;rw[htl]at r7;simp only[go_sem,r3,r7,k3];refine(hal _).pthen ?_;rcases ht with rfl|rfl
   ·simp only[go_sem,r1]
    refine(hin _).pthen ?_;simp only[go_sem,r6,k6];exact .mk (rsA (hY m,[])) (rK [] (hY m) rfl _) (hsH.put n6' _) ⟨by rw[hjp];rfl,rfl⟩
   have k6H:=k6;cases dp:(m==bp)
   case true=>
    have e1:m=bp:=by simpa using dp
    have hne:¬(m≠bp∧m≠cM):=fun hh=>hh.1 e1
    have hdu:=fun G=>rV obls ho m (.inl e1) G
    simp only[ay,aR]at hdu;simp only[go_sem,r1,npe,dp];exact aia
   case false=>
    cases dd:(m==cM)
    case true=>
     have e1:m=cM:=by simpa using dd
     have hne:¬(m≠bp∧m≠cM):=fun hh=>hh.2 e1
     have hdu:=fun G=>rV obls ho m (.inr e1) G
     simp only[ay,aR]at hdu;simp only[go_sem,r1,npe,nde,dp,dd];exact aia
    case false=>
     have e1:m≠bp:=by simpa using dp
     have e2:m≠cM:=by simpa using dd
     simp only[go_sem,r1,r6,npe,nde,dp,dd,k6];exact .mk (rsA (m,[])) (rK [] m rfl _) (hsH.put n6' _) ⟨by rw[hjp,if_neg ad6,if_neg ad6,if_pos ⟨e1,e2⟩],rfl⟩
theorem A5:∀(n d:Nat),d+n=5→∀(p:bF),mJ d p→∀(gs:List bt),sk gs→∀(h:Heap),ai prog 154 [aL p,bP gs] h fun r h' =>r=rsA (fL gs p)∧h' =h
 |0,d,hd,.mk id set alg tgt rules kids obls,hE,gs,hf,h=>by simp only[mJ]at hE;omega
 |n+1,d,hd,.mk id set alg tgt rules kids obls,hE,gs,hf,h=>by
  have ih:=A5 n (d+1) ad3;simp only[mJ,rz]at hE;obtain⟨_,_,ha1,ha2,_,_,hT,hO,hR,hK,hRE,hKE⟩:=hE;have hob:=(ld hO).1;have hmt:=fun G=>MN tgt (CT hT) gs hf G
  have hev:fL gs (.mk id set alg tgt rules kids obls)=if nu gs tgt=0 then(naM,[])else qB alg obls (nu gs tgt) (rules.map (iI gs)++kids.map (fL gs)):=by simp only[fL,tZ]
  have hjo:=fun(ht:nu gs tgt=1∨nu gs tgt=2) (q:Perm) (G:Heap)=>Gq (id:=id) (set:=set) (alg:=alg) ⟨ha1,ha2⟩ (tgt:=tgt) (rules:=rules) (kids:=kids) (obls:=obls) ad3 (nu gs tgt) ht (rules.map (iI gs)++kids.map (fL gs)) (fun x hx=>by
   rcases List.mem_append.1 hx with hx|hx
   ·obtain⟨r,_,rfl⟩:=List.mem_map.1 hx;exact A8 _ _ _
   ·obtain⟨r,_,rfl⟩:=List.mem_map.1 hx;exact xI gs r) aeD (B:=10000000) (Nat.le_refl _) (fun x hx=>by
   rcases List.mem_append.1 hx with hx|hx
   ·obtain⟨r,hr,rfl⟩:=List.mem_map.1 hx
    have h1:=A7 r (nu gs r.tgt) (qX gs r.cond);have h2:=(ld (hRE r hr).2.2.2).1
    show(nP r (nu gs r.tgt) (qX gs r.cond)).2.length≤_
    omega
   ·obtain⟨r,hr,rfl⟩:=List.mem_map.1 hx
    have h1:=Cn gs n (d+1) r ad3 (hKE r hr);have h2:oB n≤oB 4:=by have:n≤4:=ad3;rcases(show n=0∨n=1∨n=2∨n=3∨n=4 by omega)with rfl|rfl|rfl|rfl|rfl<;>decide
    exact Nat.le_trans h1 (Nat.le_trans h2 ad6)) q G
  have hrl:=fun(r:cS) (hr:EV r) (G:Heap)=>Jn r hr gs hf G
  have hml:=MM gs tgt;obtain⟨t,et⟩:∃t,nu gs tgt=t:=⟨_,rfl⟩;rw[et]at hmt hjo hev hml;simp only[aL,bP,aQ,aT,ay]at hmt hjo hrl;have uR:=Wm;refine ad2 func154 50 [.cell 4 96] fun hwf=>?_
  simp only[go_sem,aL,bP,aQ,aT,ay];intro i2 h2;simp only[go_sem];intro i4 h4;have n42:=aF h4;have n4' :=aB h4;obtain⟨H0,eH⟩:∃H0,upd (upd h i2 (some (.obj [.s id,.b set,.i alg,.sl (tgt.map cB) .no,.sl (rules.map aC) .no,.sl (kids.map aL) .no,.sl (obls.map bh) .no] 38))) i4 (some (.obj [.v (.complex .f64 0 0),.sl [] .full] 96))=H0:=⟨_,rfl⟩;have hH0:Ab.Sub h H0:=agZ;have g2:H0 i2=some (.obj [.s id,.b set,.i alg,.sl (tgt.map cB) .no,.sl (rules.map aC) .no,.sl (kids.map aL) .no,.sl (obls.map bh) .no] 38):=ahI;have g4:H0 i4=some (.obj [.v (.complex .f64 0 0),.sl [] .full] 96):=afv;simp only[go_sem,aj,n42.symm];rw[eH];clear eH;refine(hmt _).pthen ?_;cases dt:((t:Int)==0)
  case true=>
   have e0:t=0:=by have:(t:Int)=0:=(by simpa using dt);omega
   simp only[go_sem,dt,g4];exact .mk (rsA (naM,[])) (rK [] naM rfl _) (hH0.put n4' _) ⟨by rw[hev,if_pos e0],rfl⟩
  have ht0:t≠0:=by rintro rfl;simp at dt
  have ht12:t=1∨t=2:=ad3;rw[if_neg ht0]at hev;simp only[go_sem,dt,g2,adT];refine .intro (fun m ρ H=>∃(i:Nat) (y:AV),Acc U 96 H0 H y (((rules.map (iI gs)).take i).map rsA)∧i≤rules.length∧m=rules.length - i∧lk ρ 1=some (.sl (gs.map lQ) .no)∧lk ρ 2=some (.ptr i2 0)∧lk ρ 4=some (.ptr i4 0)∧lk ρ 5=some (.i t)∧lk ρ 6=some y∧lk ρ 19=some (.sl (rules.map aC) .no)∧lk ρ 20=some (.i rules.length)∧lk ρ 21=some (.i i)) rules.length ?_ ?_
  ·refine⟨0,.sl [] .full,.full (.refl _),ad3,rfl,?_,?_,?_,?_,?_,?_,?_,?_⟩<;>simp only[go_sem]
  ·rintro m ρ H ⟨i,y,hy,hi,rfl,r1,r2,r4,r5,r6,r19,r20,r21⟩
   obtain⟨qy,eqy⟩:=hy.row;subst eqy;simp only[go_sem,r20,r21];refine .intro (fun e=>?_) (fun e=>?_)
   ·have hlt:i<rules.length:=ad0 e
    have w1:=adZ i ad3;have hsn:((rules.map (iI gs)).take (i+1)).map rsA=((rules.map (iI gs)).take i).map rsA++ [rsA (iI gs rules[i])]:=by rw[List.take_succ_eq_append_getElem aep,List.map_append,adU];rfl
    have ix:=fun k=>fC.eq (xs:=rules.map aC) (sz:=5) i aep aec k
    rw[adU]at ix;have hre:=hRE _ (adY hlt);obtain⟨x,ex⟩:∃x,rules[i]=x:=⟨_,rfl⟩;rw[ex]at ix hsn hre;have hr1:=hrl x hre;simp only[aC,aT,ay]at ix hr1;simp only[go_sem,r19,r21,ix];intro i8 h8;simp only[go_sem,r1,r6];refine(hr1 _).pthen ?_;simp only[go_sem,rsA,aR,ay];refine(hy.sub (.ak h8)).app (zs:=[rsA (iI gs x)]) (by rw[uR];decide) ad8 (fun k hk=>hk) (by rw[uR];exact BK _) agA aem fun y' H' hy' kp=>?_
    simp only[go_sem,r21,w1];refine⟨_,?_,i+1,y',by rw[hsn];exact hy',ad3,rfl,?_,?_,?_,?_,?_,?_,?_,?_⟩
    ·omega
    all_goals simp only[go_sem,r1,r2,r4,r5,r19,r20]
   ·have hge:i=rules.length:=by have:=adW e;omega
    subst hge;have htl:(rules.map (iI gs)).take rules.length=rules.map (iI gs):=List.take_of_length_le aea;rw[htl]at hy r6;have k2:=hy.1 _ _ g2;simp only[go_sem,r2,k2,adT];refine .intro (fun m ρ H=>∃(i:Nat) (y:AV),Acc U 96 H0 H y ((rules.map (iI gs)++(kids.map (fL gs)).take i).map rsA)∧i≤kids.length∧m=kids.length - i∧lk ρ 1=some (.sl (gs.map lQ) .no)∧lk ρ 2=some (.ptr i2 0)∧lk ρ 4=some (.ptr i4 0)∧lk ρ 5=some (.i t)∧lk ρ 6=some y∧lk ρ 33=some (.sl (kids.map aL) .no)∧lk ρ 34=some (.i kids.length)∧lk ρ 35=some (.i i)) kids.length ?_ ?_
    ·refine⟨0,_,by rw[List.take_zero,List.append_nil];exact hy,ad3,rfl,?_,?_,?_,?_,?_,?_,?_,?_⟩<;>simp only[go_sem,r1,r2,r4,r5,r6]
    ·rintro m ρ2 H2 ⟨i,y,hy,hi,rfl,s1,s2,s4,s5,s6,s33,s34,s35⟩
     obtain⟨qy,eqy⟩:=hy.row;subst eqy;simp only[go_sem,s34,s35];refine .intro (fun e=>?_) (fun e=>?_)
     ·have hlt:i<kids.length:=ad0 e
      have w1:=adZ i ad3;have hsn:(rules.map (iI gs)++(kids.map (fL gs)).take (i+1)).map rsA=(rules.map (iI gs)++(kids.map (fL gs)).take i).map rsA++ [rsA (fL gs kids[i])]:=by rw[List.take_succ_eq_append_getElem aep,←List.append_assoc,List.map_append,adU];rfl
      have ix:=fun k=>fC.eq (xs:=kids.map aL) (sz:=7) i aep (by rw[adU,jG]) k
      rw[adU]at ix;have hke:=hKE _ (adY hlt);obtain⟨x,ex⟩:∃x,kids[i]=x:=⟨_,rfl⟩;rw[ex]at ix hsn hke;have hr1:=ih x hke gs hf;obtain⟨kid,kset,kalg,ktgt,krules,kkids,kobls⟩:=x;simp only[aL,aT,ay,bP,aQ]at ix hr1;simp only[go_sem,s33,s35,ix];intro i10 h10;simp only[go_sem,s1,s6];refine(hr1 _).pthen ?_;simp only[go_sem,rsA,aR,ay];refine(hy.sub (.ak h10)).app (zs:=[rsA (fL gs (.mk kid kset kalg ktgt krules kkids kobls))]) (by rw[uR];decide) ad8 (fun k hk=>hk) (by rw[uR];exact BK _) agA (by simp only[go_sem,adT,List.length_take,List.length_cons,List.length_nil,adX];omega) fun y' H' hy' kp=>?_
      simp only[go_sem,s35,w1];refine⟨_,?_,i+1,y',by rw[hsn];exact hy',ad3,rfl,?_,?_,?_,?_,?_,?_,?_,?_⟩
      ·omega
      all_goals simp only[go_sem,s1,s2,s4,s5,s33,s34]
     ·have hge:i=kids.length:=by have:=adW e;omega
      subst hge;have htl:(kids.map (fL gs)).take kids.length=kids.map (fL gs):=List.take_of_length_le aea;rw[htl]at hy s6;have k2:=hy.1 _ _ g2;have k4:=hy.1 _ _ g4;have hj:=fun G=>hjo ht12 qy G
      rw[←hev]at hj;obtain⟨z,ez⟩:∃z,fL gs (.mk id set alg tgt rules kids obls)=z:=⟨_,rfl⟩;rw[ez]at hj;simp only[go_sem,s2,s5,s6,k2];refine(hj _).pthen ?_;simp only[go_sem,s4,rsA,aR,ay,k4];exact .mk (rsA z) (.refl _) ((hH0.trans hy.1).put n4' _) ⟨by rw[ez];rfl,rfl⟩
theorem DH(p:bF)(hp:gQ p=0)(gs:List bt)(hf:sk gs)(h:Heap):ai prog 98 [aL p,bP gs] h fun r h' =>r= .tup [rsA (fL gs p),.i 0]∧h' =h:=by
 have hd:=fun G=>A5 4 1 rfl p (rL hp) gs hf G
 have hr:=fun G=>uH p G
 rw[hp]at hr;obtain⟨id,set,alg,tgt,rules,kids,obls⟩:=p;refine ad2 func98 13 [.cell 4 96,.tmp 5] fun hwf=>?_
 simp only[go_sem,aL,bP,aT,ay];intro i2 h2;simp only[go_sem];intro i4 h4;have n42:=aF h4;have n4:=aB h4;have hs:∀x y,Ab.Sub h (upd (upd h i2 x) i4 y):=fun x y=>((Sub.refl h).put h2 x).put n4 y
 simp only[go_sem,aj,n42.symm];refine(hr _).pthen ?_;simp only[go_sem,aj,n42.symm];refine(hd _).pthen ?_;simp only[go_sem,rsA,aR,ay];exact afE
end Go.Proofs.YtokahfmoollblaaGreatDoor
namespace Go.Bf
open Go Go.Ab Go.Proofs.YtokahfmoollblaaGreatDoor
variable {a b' m:eN}{s:Txt}{e alg:Int}{r tgt:gj}{l:List bR}{n:Nat}
def rD:OpD:=⟨1,UU,cT,[],[],ax,0,[],[],false⟩
def rep(n:Nat)(t:Txt):Txt:=(List.replicate n t).flatten
def MLe(a b:eN):Prop:=(∀x∈a.met,x∈b.met)∧a.rules≤b.rules
theorem MLe.refl(a:eN):MLe a a:=⟨fun _ h=>h,Nat.le_refl _⟩
theorem MLe.trans{b c:eN}(h1:MLe a b)(h2:MLe b c):MLe a c:=⟨fun x h=>h2.1 x (h1.1 x h),Nat.le_trans h1.2 h2.2⟩
theorem Ij{b:eN}(h:MLe a b)(hm:jr b s=some b'):∃a',jr a s=some a'∧MLe a' b' :=by
 unfold jr at hm⊢;split at hm
 ·rename_i hc
  cases hm;refine⟨_,if_pos ⟨fun hx=>hc.1 (h.1 s hx),hc.2⟩,fun x hx=>?_,h.2⟩
  rcases List.mem_append.1 hx with hx|hx
  ·exact List.mem_append.2 (.inl (h.1 x hx))
  grind
 grind
theorem Ik{b:eN}(hm:jr b s=some b'):MLe b b' :=by
 unfold jr at hm;split at hm
 ·cases hm;exact⟨fun x hx=>List.mem_append.2 (.inl hx),Nat.le_refl _⟩
 grind
theorem oW{w:Went}(h:need e w= .ok m):e=0∧w= .ok m:=by grind [need]
theorem PK{b:eN}{r:cS}(h:MLe a b)(hr:gJ b r= .ok b'):(∃a',gJ a r= .ok a'∧MLe a' b')∧MLe b b' :=by
 unfold gJ at hr⊢;cases hm:jr b r.id with
 |none=>grind
 |some m=>
  rw[hm]at hr;obtain⟨a',ha,hl⟩:=Ij h hm;simp only at hr;split at hr
  ·grind
  ·obtain⟨e1,hr⟩:=oW hr
   obtain⟨e2,hr⟩:=oW hr;obtain⟨e3,hr⟩:=oW hr;cases hr;have hup:=Ik hm;refine⟨⟨⟨a'.met,a'.rules+1⟩,?_,hl.1,by have:=hl.2;simp only;omega⟩,hup.1,by have:=hup.2;simp only;omega⟩
   rw[ha];have:=hl.2;simp only[e1,e2,e3,need,if_true];rw[if_neg ad3]
theorem EX:∀(l:List cS) {a b b' :eN},MLe a b→fG b l= .ok b'→(∃a',fG a l= .ok a'∧MLe a' b')∧MLe b b'
 | [],a,b,b',h,hr=>by cases hr;exact⟨⟨a,rfl,h⟩,.refl _⟩
 |r::l,a,b,b',h,hr=>by
  simp only[fG]at hr⊢;cases hw:gJ b r with
  |bad e=>grind
  |ok m=>rw[hw]at hr;obtain⟨⟨a',ha,hl⟩,hu⟩:=PK h hw;obtain⟨⟨a'',ha',hl'⟩,hu'⟩:=EX l hl hr;exact⟨⟨a'',ad4,hl'⟩,hu.trans hu'⟩
theorem O0{b:eN}{id:Txt}{set:Bool}{nr nk nk' :Nat}{obls:List cE}(h:MLe a b)(hk:nk'≤nk)(hr:fq b id set alg tgt nr nk obls= .ok b'):(∃a',fq a id set alg tgt nr nk' obls= .ok a'∧MLe a' b')∧MLe b b' :=by
 unfold fq at hr⊢;cases hm:jr b id with
 |none=>rw[hm]at hr;cases hr
 |some m=>
  rw[hm]at hr;obtain⟨a',ha,hl⟩:=Ij h hm;simp only at hr;split at hr
  ·cases hr
  ·rename_i h1
   split at hr
   ·cases hr
   ·rename_i h2
    obtain⟨e1,hr⟩:=oW hr;obtain⟨e2,hr⟩:=oW hr;split at hr
    ·cases hr
    ·rename_i h3
     cases hr;refine⟨⟨a',?_,hl⟩,Ik hm⟩;rw[ha];have h2' :¬(set=true∧nr>0∨set=false∧(nk' >0∨alg=4)):=by
      rintro(⟨p,q⟩|⟨p,q|q⟩)
      ·exact h2 (.inl ⟨p,q⟩)
      ·exact h2 (.inr ⟨p,.inl ad3⟩)
      ·exact h2 (.inr ⟨p,.inr q⟩)
     simp only[if_neg h1,if_neg h2',e1,e2,need,if_true];rw[if_neg ad3]
theorem EB(gs:List bt):∀l:List bF,(kT gs l).length≤l.length
 | []=>by simp[kT]
 |k::r=>by have:=EB gs r;simp only[kT];split<;>simp<;>omega
mutual
theorem ED(gs:List bt):∀(p:bF) (d:Nat) {a b b' :eN},MLe a b→lf b d p= .ok b'→(∃a',lf a d (lW gs p)= .ok a'∧MLe a' b')∧MLe b b'
 |.mk id set alg tgt rules kids obls,d,a,b,b',h,hr=>by
  simp only[lf,lW]at hr⊢;split at hr
  ·cases hr
  ·rename_i hd
   rw[if_neg hd];cases hh:fq b id set alg tgt rules.length kids.length obls with
   |bad e=>rw[hh]at hr;cases hr
   |ok m=>
    rw[hh]at hr;simp only at hr;obtain⟨⟨a1,ha1,hl1⟩,hu1⟩:=O0 h (EB gs kids) hh;cases hw:fG m rules with
    |bad e=>rw[hw]at hr;cases hr
    |ok m2=>rw[hw]at hr;simp only at hr;obtain⟨⟨a2,ha2,hl2⟩,hu2⟩:=EX rules hl1 hw;obtain⟨⟨a3,ha3,hl3⟩,hu3⟩:=vu gs kids (d+1) hl2 hr;refine⟨⟨a3,?_,hl3⟩,(hu1.trans hu2).trans hu3⟩;rw[ha1];simp only[ha2];exact ha3
theorem vu(gs:List bt):∀(l:List bF) (d:Nat) {a b b' :eN},MLe a b→iZ b d l= .ok b'→(∃a',iZ a d (kT gs l)= .ok a'∧MLe a' b')∧MLe b b'
 | [],d,a,b,b',h,hr=>by simp only[iZ,kT]at hr⊢;cases hr;exact⟨⟨a,rfl,h⟩,.refl _⟩
 |k::r,d,a,b,b',h,hr=>by
  simp only[iZ]at hr;cases hw:lf b d k with
  |bad e=>rw[hw]at hr;cases hr
  |ok m=>
   rw[hw]at hr;simp only at hr;obtain⟨⟨a1,ha1,hl1⟩,hu1⟩:=ED gs k d h hw;simp only[kT];split
   ·obtain⟨⟨a2,ha2,hl2⟩,hu2⟩:=vu gs r d hl1 hr
    refine⟨⟨a2,?_,hl2⟩,hu1.trans hu2⟩;simp only[iZ,ha1];exact ha2
   ·obtain⟨⟨a2,ha2,hl2⟩,hu2⟩:=vu gs r d (h.trans hu1) hr
    exact⟨⟨a2,ha2,hl2⟩,hu1.trans hu2⟩
end
theorem GP(gs:List bt){p:bF}(h:gQ p=0):gQ (lW gs p)=0:=by
 unfold gQ at*;cases hw:lf ⟨[],0⟩ 1 p with
 |bad e=>have:=uB 4 1 _ _ e rfl hw;rw[hw]at h;exact(this h).elim
 |ok m=>obtain⟨⟨a,ha,_⟩,_⟩:=ED gs p 1 (.refl _) hw;rw[ha];rfl
def Wu:bR:=⟨⟨0,[],false⟩,0,ax⟩
def O7(k:Option bR):AV:=match k with
 |some m=> .tup [cW m,.b true]
 |none=> .tup [cW Wu,.b false]
theorem My{x:List (List bR)}(h:x.length≠1):oU (x::r)=oU r:=by
 match x,h with
 | [],_=>rfl
 | [l],h=>exact(h rfl).elim
 |a::b::c,_=>rfl
theorem Mx(h:(l.find? fun m=>m.op==1 && !m.attr.must)=none):oU ([l]::r)=oU r:=by grind [oU]
theorem Mz{m:bR}(h:(l.find? fun m=>m.op==1 && !m.attr.must)=some m):oU ([l]::r)=some m:=by grind [oU]
theorem EA(gs:List bt):∀l:List bF,kT gs l=(l.filter (tc gs)).map (lW gs)
 | []=>aei
 |k::r=>by
  simp only[kT,List.filter_cons,EA gs r]
  grind
def ixP(gs:List bt)(l:List bF)(n:Nat):List Nat:=(List.range n).filter fun j=>tc gs (l.getD j mo)
theorem D9(gs:List bt)(l:List bF)(h:n<l.length):ixP gs l (n+1)=ixP gs l n++(if tc gs l[n]=true then [n]else []):=by grind [ixP,List.range_succ,List.getD,List.getElem?_eq_getElem]
theorem Ea(gs:List bt)(l:List bF):∀n:Nat,n≤l.length→(ixP gs l n).map (fun j=>l.getD j mo)=(l.take n).filter (tc gs)
 |0,_=>aei
 |n+1,h=>by
  have hlt:n<l.length:=ad3;rw[D9 gs l hlt,List.map_append,Ea gs l n ad3,List.take_succ_eq_append_getElem hlt,List.filter_append,List.filter_cons]
  congr 1
  grind
theorem Ss{gs:List bt}{l:List bF}{j:Nat}(h:j∈ixP gs l n):j<n:=List.mem_range.1 (List.mem_filter.1 h).1
theorem Ic(gs:List bt)(l:List bF)(n:Nat):(ixP gs l n).length≤n:=by grind [ixP,Nat.le_trans,List.length_filter_le]
theorem Mr(gs:List bt)(l:List bF):(ixP gs l l.length).map (fun j=>lW gs (l.getD j mo))=kT gs l:=by rw[EA,←List.take_length (l:=l),←Ea gs l l.length (Nat.le_refl _),List.map_map,List.take_length];rfl
theorem oV(m:bR):cW m= .agg [.i m.attr.cat,.s m.attr.name,.b m.attr.must,.i m.op,.i m.val.kind,.i m.val.n,.s m.val.s]:=rfl
end Go.Bf
namespace Go.Proofs.YtokahfmoollblaaGreatDoor
open Go Go.Ab Go.Bf Tryz
variable {gs:List bt}{p:bF}{h:Heap}{s:an}{k:Nat}{x:AV}{c:aK}
theorem St(t:gj)(ht:Og t)(h:Heap):ai prog 208 [aT t] h fun r h' =>r=O7 (oU t)∧h' =h:=by
 have htl:=ht.1;refine ad2 func208 38 [.cell 2 269,.tmp 3] fun hwf=>?_
 simp only[go_sem,aT];intro i2 h2;simp only[go_sem,adT];have hH0:∀x,Ab.Sub h (upd h i2 x):=fun x=> .ak h2
 refine .intro (fun m ρ H=>Ab.Sub h H∧H i2=some (.obj [.i 0,.s [],.b false,.i 0,.i 0,.i 0,.s []] 269)∧∃i:Nat,i≤t.length∧m=t.length - i∧oU (t.drop i)=oU t∧lk ρ 2=some (.ptr i2 0)∧lk ρ 8=some (.sl (t.map cB) .no)∧lk ρ 9=some (.i t.length)∧lk ρ 10=some (.i i)) t.length ?_ ?_
 ·refine⟨hH0 _,ah ..,0,ad3,rfl,rfl,?_,?_,?_,?_⟩<;>simp only[go_sem]
 ·rintro m ρ H ⟨hs,k2,i,hi,rfl,hk,r2,r8,r9,r10⟩
  simp only[go_sem,r9,r10];refine .intro (fun e=>?_) (fun e=>?_)
  ·have hlt:i<t.length:=ad0 e
   have w1:IntKind.i64.wrap ((i:Int)+1)=((i+1:Nat):Int):=aeg;rw[List.drop_eq_getElem_cons hlt]at hk;have hxl:=(ht.2 _ (adY hlt)).2;have ix:=fun k=>fC.eq (xs:=t.map cB) (sz:=1) i ad4 aec k
   rw[adU]at ix;obtain⟨x,ex⟩:∃x,t[i]=x:=⟨_,rfl⟩;rw[ex]at ix hk hxl;simp only[cB]at ix;cases d1:((x.length:Int) !=1)
   case true=>
    have hx1:x.length≠1:=ad4;rw[My hx1]at hk;simp only[go_sem,r8,r10,ix,adT,d1,w1];refine⟨_,?_,hs,k2,i+1,ad3,rfl,hk,?_,?_,?_,?_⟩
    ·omega
    all_goals simp only[go_sem,r2,r8,r9]
   have hx1:x.length=1:=ad4;obtain⟨l,rfl⟩:=List.length_eq_one_iff.1 hx1;have hll:=hxl l (List.mem_singleton.2 rfl);have iy:=fun k=>fC.eq (xs:=[gm l]) (sz:=1) 0 aea rfl k
   simp only[List.getElem_cons_zero,gm,Int.natCast_zero]at iy;simp only[go_sem,r8,r10,ix,adT,List.length_cons,List.length_nil,List.map_cons,List.map_nil,gm,iy];refine .intro (fun m ρ2 H2=>Ab.Sub h H2∧H2 i2=some (.obj [.i 0,.s [],.b false,.i 0,.i 0,.i 0,.s []] 269)∧∃j:Nat,j≤l.length∧m=l.length - j∧(∀k (h1:k<l.length),k<j→(l[k].op==1 && !l[k].attr.must)=false)∧lk ρ2 2=some (.ptr i2 0)∧lk ρ2 8=some (.sl (t.map cB) .no)∧lk ρ2 9=some (.i t.length)∧lk ρ2 10=some (.i i)∧lk ρ2 19=some (.sl (l.map cW) .no)∧lk ρ2 20=some (.i l.length)∧lk ρ2 21=some (.i j)) l.length ?_ ?_
   ·refine⟨hs,k2,0,ad3,rfl,fun k _ hk=>ad3,?_,?_,?_,?_,?_,?_,?_⟩<;>simp only[go_sem,r2,r8,r9,r10]
   ·rintro m ρ2 H2 ⟨hs2,k2,j,hj,rfl,hc,s2,s8,s9,s10,s19,s20,s21⟩
    simp only[go_sem,s20,s21];refine .intro (fun e=>?_) (fun e=>?_)
    ·have hlt2:j<l.length:=ad0 e
     have w2:IntKind.i64.wrap ((j:Int)+1)=((j+1:Nat):Int):=aeg;have iz:=fun k=>fC.eq (xs:=l.map cW) (sz:=7) j ad4 aec k
     rw[adU]at iz;have hci:=fun(d:(l[j].op==1 && !l[j].attr.must)=false)=>(fun k (h1:k<l.length) (hk:k<j+1)=>(by grind:(l[k].op==1 && !l[k].attr.must)=false))
     have hat:=fun(d:(l[j].op==1 && !l[j].attr.must)=true)=>(List.find?_eq_some_iff_getElem.2 ⟨d,j,hlt2,rfl,fun k hk=>ad4⟩:(l.find? fun m=>m.op==1 && !m.attr.must)=some l[j])
     obtain⟨z,ez⟩:∃z,l[j]=z:=⟨_,rfl⟩;rw[ez]at iz hci hat;simp only[oV]at iz;simp only[go_sem,s19,s21,iz];intro i7 h7;have n72:i7≠i2:=fun e=>ad4
     cases a1:(z.op==1)
     ·exact aiS
     ·cases a2:z.attr.must
      ·have hkk:=hk.symm.trans (Mz (hat ad4))
       simp only[go_sem,s2,a1,aj,n72.symm,k2];exact .mk _ (.refl _) ((hs2.trans (.ak h7)).put h2 _) ⟨by rw[hkk];simp only[O7,oV,a2];rfl,rfl⟩
      ·exact aiS
    ·have hge:j=l.length:=by grind
     subst hge;rw[Mx (List.find?_eq_none.2 fun z hz=>by
      obtain⟨k,hk,rfl⟩:=List.mem_iff_getElem.1 hz
      grind)]at hk
     simp only[go_sem,s10,w1];refine⟨_,?_,hs2,k2,i+1,ad3,rfl,hk,?_,?_,?_,?_⟩
     ·omega
     all_goals simp only[go_sem,s2,s8,s9]
  ·have hge:i=t.length:=by grind
   subst hge;rw[List.drop_length]at hk;simp only[go_sem,r2,k2];exact .mk _ (.refl _) (hs.put h2 _) ⟨by rw[←hk];rfl,rfl⟩
theorem J7(h:oU (th p)=none):tc gs p=true:=by grind [tc]
theorem J8{m:bR}(h:oU (th p)=some m):tc gs p=decide (ko gs m≠0):=by grind [tc]
def um(n:Nat):AV:=.i n
theorem Nf(l:List bF)(hl:l.length≤1000)(ht:∀p∈l,Og (th p))(gs:List bt)(hf:sk gs)(h:Heap):ai prog 155 [.sl (l.map aL) .no,bP gs] h fun r h' =>r= .sl ((ixP gs l l.length).map um) .no∧h' =h:=by
 have hmt:=fun(m:bR) (G:Heap)=>Bt m gs hf G
 simp only[oV,bP]at hmt;have uI:(U 3).sz=1:=aei;refine ad2 func155 37 [.tmp 4] fun hwf=>?_
 simp only[go_sem,bP,adT];refine .intro (fun m ρ H=>∃(i:Nat) (y:AV),Acc U 3 h H y ((ixP gs l i).map um)∧i≤l.length∧m=l.length - i∧lk ρ 1=some (.sl (gs.map lQ) .no)∧lk ρ 5=some y∧lk ρ 10=some (.sl (l.map aL) .no)∧lk ρ 11=some (.i l.length)∧lk ρ 12=some (.i i)) l.length ?_ ?_
 ·refine⟨0,.sl [] .full,.full (.refl _),ad3,rfl,?_,?_,?_,?_,?_⟩<;>simp only[go_sem]
 ·rintro m ρ H ⟨i,y,hy,hi,rfl,r1,r5,r10,r11,r12⟩
  obtain⟨qy,eqy⟩:=hy.row;subst eqy;simp only[go_sem,r11,r12];refine .intro (fun e=>?_) (fun e=>?_)
  ·have hlt:i<l.length:=ad0 e
   have w1:IntKind.i64.wrap ((i:Int)+1)=((i+1:Nat):Int):=aeg;have hsn:=D9 gs l hlt;have hpl:=Ic gs l i;have ix:=fun k=>fC.eq (xs:=l.map aL) (sz:=7) i ad4 (by rw[adU,jG]) k
   rw[adU]at ix;have hft:=ht _ (adY hlt);obtain⟨x,ex⟩:∃x,l[i]=x:=⟨_,rfl⟩;rw[ex]at ix hsn hft;have hky:=fun G=>St (th x) hft G
   have mn:=fun h=>J7 (gs:=gs) (p:=x) h
   have ms:=fun m h=>J8 (gs:=gs) (p:=x) (m:=m) h
   obtain⟨kid,kset,kalg,ktgt,krules,kkids,kobls⟩:=x;simp only[th]at hky hft mn ms;simp only[aL,aT,ay,aQ]at ix;simp only[aT]at hky;simp only[go_sem,r10,r12,ix];intro i7 h7;simp only[go_sem];refine(hky _).pthen ?_;have hkeep:tc gs (.mk kid kset kalg ktgt krules kkids kobls)=true→ixP gs l (i+1)=ixP gs l i++ [i]:=fun e=>ad4
   have hdrop:tc gs (.mk kid kset kalg ktgt krules kkids kobls)=false→ixP gs l (i+1)=ixP gs l i:=fun e=>ad4
   cases hk:oU ktgt with
   |none=>simp only[go_sem,O7,oV];intro i8 h8;simp only[go_sem,r5];exact aiA
   |some m=>
    have hm2:=ms m hk;simp only[go_sem,O7,oV];intro i8 h8;simp only[go_sem,r1];refine(hmt m _).pthen ?_;cases dm:((ko gs m:Int) !=0)
    ·have e0:ko gs m=0:=by grind
     simp only[go_sem,r12,dm,w1];refine⟨_,?_,i+1,_,by rw[hdrop ad4];exact(hy.sub (.ak h7)).sub (.ak h8),ad3,rfl,?_,?_,?_,?_,?_⟩
     ·omega
     all_goals simp only[go_sem,r1,r5,r10,r11]
    ·have e0:ko gs m≠0:=by grind
     simp only[go_sem,r5,dm];exact aiA
  ·have hge:i=l.length:=by grind
   subst hge;simp only[go_sem,r5];exact .mk _ (.sl _ _) hy.1 ⟨rfl,rfl⟩
theorem VZ{id:Txt}{set:Bool}{alg:Int}{tgt:gj}{rules:List cS}{kids:List bF}{obls:List cE}{L:List AV}(hL:L=kids.map aL)(q:Perm):Weak (.agg [.s id,.b set,.i alg,.sl (tgt.map cB) .no,.sl (rules.map aC) .no,.sl L q,.sl (obls.map bh) .no]) (aL (.mk id set alg tgt rules kids obls)):=by
 subst hL;rw[aL,aQ];refine .agg _ _ rfl fun i a b=>?_
 rcases i with _|_|_|_|_|_|_|i
 ·exact afn
 ·exact afn
 ·exact afn
 ·exact afn
 ·exact afn
 ·exact agG
 ·exact afn
 ·simp at a;omega
theorem BC:∀(n d:Nat),d+n=5→∀(p:bF),mJ d p→∀(gs:List bt),sk gs→∀(h:Heap),ai prog 99 [aL p,bP gs] h fun r h' =>r=aL (lW gs p)∧h' =h
 |0,d,hd,.mk id set alg tgt rules kids obls,hE,gs,hf,h=>by simp only[mJ]at hE;omega
 |n+1,d,hd,.mk id set alg tgt rules kids obls,hE,gs,hf,h=>by
  have ih:=BC n (d+1) ad3;simp only[mJ,rz]at hE;obtain⟨_,_,_,_,_,_,hT,hO,hR,hK,hRE,hKE⟩:=hE;have hpk:=fun G=>Nf kids ad3 (fun p hp=>by have h1:=hKE p hp;obtain⟨kid,kset,kalg,ktgt,krules,kkids,kobls⟩:=p;simp only[mJ]at h1;exact CT h1.2.2.2.2.2.2.1) gs hf G
  have hpe:lW gs (.mk id set alg tgt rules kids obls)= .mk id set alg tgt rules (kT gs kids) obls:=aei;have hfull:=Mr gs kids;have hIlt:∀j∈ixP gs kids kids.length,j<kids.length:=fun j hj=>Ss hj
  have hIl:(ixP gs kids kids.length).length≤16:=Nat.le_trans (Ic _ _ _) hK;obtain⟨I,eI⟩:∃I,ixP gs kids kids.length=I:=⟨_,rfl⟩;rw[eI]at hpk hfull hIlt hIl;simp only[bP]at hpk;have uP:(U 38).sz=7:=aei;refine ad2 func99 31 [.cell 4 38] fun hwf=>?_
  simp only[go_sem,aL,bP,aQ,aT,ay];intro i2 h2;simp only[go_sem];intro i4 h4;have n42:=aF h4;have n4' :=aB h4;obtain⟨H0,eH⟩:∃H0,upd (upd h i2 (some (.obj [.s id,.b set,.i alg,.sl (tgt.map cB) .no,.sl (rules.map aC) .no,.sl (kids.map aL) .no,.sl (obls.map bh) .no] 38))) i4 (some (.obj [.s [],.b false,.i 0,.sl [] .full,.sl [] .full,.sl [] .full,.sl [] .full] 38))=H0:=⟨_,rfl⟩;have hH0:Ab.Sub h H0:=agZ;have g2:H0 i2=some (.obj [.s id,.b set,.i alg,.sl (tgt.map cB) .no,.sl (rules.map aC) .no,.sl (kids.map aL) .no,.sl (obls.map bh) .no] 38):=ahI;have g4:H0 i4=some (.obj [.s [],.b false,.i 0,.sl [] .full,.sl [] .full,.sl [] .full,.sl [] .full] 38):=afv;simp only[go_sem,aj,n42.symm];rw[eH];clear eH;refine(hpk _).pthen ?_;simp only[go_sem,adT];refine .intro (fun m ρ H=>∃(i:Nat) (y:AV),Acc U 38 H0 H y (((I.map fun j=>lW gs (kids.getD j mo)).take i).map aL)∧i≤I.length∧m=I.length - i∧lk ρ 1=some (.sl (gs.map lQ) .no)∧lk ρ 2=some (.ptr i2 0)∧lk ρ 4=some (.ptr i4 0)∧lk ρ 5=some y∧lk ρ 11=some (.sl (I.map um) .no)∧lk ρ 12=some (.i I.length)∧lk ρ 13=some (.i i)) I.length ?_ ?_
  ·refine⟨0,.sl [] .full,.full (.refl _),ad3,rfl,?_,?_,?_,?_,?_,?_,?_⟩<;>simp only[go_sem]
  ·rintro m ρ H ⟨i,y,hy,hi,rfl,r1,r2,r4,r5,r11,r12,r13⟩
   obtain⟨qy,eqy⟩:=hy.row;subst eqy;have k2:=hy.1 _ _ g2;simp only[go_sem,r12,r13];refine .intro (fun e=>?_) (fun e=>?_)
   ·have hlt:i<I.length:=ad0 e
    have w1:IntKind.i64.wrap ((i:Int)+1)=((i+1:Nat):Int):=aeg;have hjlt:=hIlt _ (adY hlt);have hsn:((I.map fun j=>lW gs (kids.getD j mo)).take (i+1)).map aL=((I.map fun j=>lW gs (kids.getD j mo)).take i).map aL++ [aL (lW gs (kids.getD I[i] mo))]:=by grind [List.take_succ_eq_append_getElem]
    have ix:=fun k=>fC.eq (xs:=I.map um) (sz:=1) i ad4 aec k
    rw[adU]at ix;obtain⟨j,ej⟩:∃j,I[i]=j:=⟨_,rfl⟩;rw[ej]at ix hsn hjlt;have iy:=fun k=>fC.eq (xs:=kids.map aL) (sz:=7) j ad4 (by rw[adU,jG]) k
    rw[adU]at iy;rw[show kids.getD j mo=kids[j] by grind]at hsn
    have hke:=hKE _ (adY hjlt);obtain⟨x,ex⟩:∃x,kids[j]=x:=⟨_,rfl⟩;rw[ex]at iy hsn hke;have hr1:=ih x hke gs hf;obtain⟨z,ez⟩:∃z,lW gs x=z:=⟨_,rfl⟩;rw[ez]at hr1 hsn;obtain⟨kid,kset,kalg,ktgt,krules,kkids,kobls⟩:=x;obtain⟨zid,zset,zalg,ztgt,zrules,zkids,zobls⟩:=z;simp only[aL,aT,ay,aQ,bP]at iy hr1;simp only[um]at ix;simp only[go_sem,r1,r2,r5,r11,r13,ix,k2,iy];refine(hr1 _).pthen ?_;simp only[go_sem];refine hy.app (zs:=[aL (.mk zid zset zalg ztgt zrules zkids zobls)]) ad3 ad6 (fun k hk=>show k _ from(by simpa only[aL,aT,ay,aQ]using hk)) (by grind [bu,aL,jG]) (by rw[uP];intro z hz;grind [List.mem_singleton,jG]) aem fun y' H' hy' kp=>?_
    simp only[go_sem,r13,w1];refine⟨_,?_,i+1,y',ad4,ad3,rfl,?_,?_,?_,?_,?_,?_,?_⟩
    ·omega
    all_goals simp only[go_sem,r1,r2,r4,r11,r12]
   ·have hge:i=I.length:=by grind
    subst hge;have htl:(I.map fun j=>lW gs (kids.getD j mo)).take I.length=kT gs kids:=by grind [List.take_of_length_le]
    rw[htl]at r5 hy;have k4:=hy.1 _ _ g4;have n24:i2≠i4:=n42.symm;simp only[go_sem,r2,r4,r5,k2,aj,n42,k4];refine .mk (aL (.mk id set alg tgt rules (kT gs kids) obls)) (VZ rfl _) (((hH0.trans hy.1).put h2 _).put n4' _) ⟨aei,rfl⟩
theorem D8(p:bF)(hp:gQ p=0)(gs:List bt)(hf:sk gs)(h:Heap):ai prog 41 [aL p,bP gs] h fun r h' =>r= .tup [rsA (fL gs p),.i 0]∧h' =h:=by
 have hpk:=fun G=>BC 4 1 rfl p (rL hp) gs hf G
 have hev:=fun G=>DH (lW gs p) (GP gs hp) gs hf G
 have hr:=fun G=>uH p G
 rw[hp]at hr;rw[BA]at hev;obtain⟨id,set,alg,tgt,rules,kids,obls⟩:=p;refine ad2 func41 17 [.cell 4 96,.tmp 5] fun hwf=>?_
 simp only[go_sem,aL,bP,aT,ay];intro i2 h2;simp only[go_sem];intro i4 h4;have n42:=aF h4;have n4:=aB h4;have hs:∀x y,Ab.Sub h (upd (upd h i2 x) i4 y):=fun x y=>((Sub.refl h).put h2 x).put n4 y
 simp only[go_sem,aj,n42.symm];refine(hr _).pthen ?_;simp only[go_sem,aj,n42.symm];refine(hpk _).pthen ?_;simp only[go_sem];refine(hev _).pthen ?_;simp only[go_sem,rsA,aR,ay];exact afE
theorem Ms{α:Type}(y:AV)(xs:List AV)(ds:List α)(q:α→Bool)(g:FuncId)(cap:List AV)(h:Heap)(hb:Rd h 7 y xs)(hn:xs.length=ds.length)(hl:xs.length≤1000000000)(hx:∀x∈xs,bD x=true)
  (hp:∀i (h1:i<xs.length) (h2:i<ds.length),ai prog g (xs[i]::cap) h fun r h' =>r= .b (q ds[i])∧h' =h):
  ai prog 212 [y,.fn g cap] h fun r h' =>r= .i (ixD q ds)∧h' =h:=by
 refine ad2 func212 19 [.tmp 4] fun hwf=>?_
 simp only[go_sem,hb.len];refine .intro (fun m ρ h' =>h' =h∧∃i:Nat,i≤xs.length∧m=xs.length - i∧(∀j (hj:j<i) (h2:j<ds.length),q ds[j]=false)∧lk ρ 0=some y∧lk ρ 1=some (.fn g cap)∧lk ρ 7=some (.i xs.length)∧lk ρ 8=some (.i i)) xs.length ?_ ?_
 ·refine⟨rfl,0,ad3,rfl,fun j hj=>ad3,?_,?_,?_,?_⟩<;>simp only[go_sem]
 ·rintro m ρ h' ⟨rfl,i,hi,rfl,hc,r0,r1,r7,r8⟩
  simp only[go_sem,r7,r8];refine .intro (fun e=>?_) (fun e=>?_)
  ·have hlt:i<xs.length:=ad0 e
   have hlt2:i<ds.length:=ad3;have w1:IntKind.i64.wrap ((i:Int)+1)=((i+1:Nat):Int):=aeg;simp only[go_sem,r0,r1,r8];refine hb.idx (e:=132) i rfl hlt aei ad6 fun p hp1=>?_
   have hld:=hp1.all (U:=U) (ty:=132) ad6 aeX afQ;simp only[go_sem,hld];refine(show ai prog g (xs[i]::cap) _ _ from hp i hlt hlt2).pthen ?_
   cases d1:q ds[i]
   ·simp only[go_sem,r8,w1]
    refine⟨_,?_,rfl,i+1,ad3,rfl,fun j hj h2=>?_,?_,?_,?_,?_⟩
    ·omega
    ·grind
    all_goals simp only[go_sem,r0,r1,r7]
   ·simp only[go_sem]
    exact .same (.refl _) ⟨aeL,rfl⟩
  ·have hge:i=xs.length:=by grind
   simp only[go_sem];exact .same (.refl _) ⟨aew,rfl⟩
theorem Mq{α:Type}(y:AV)(xs:List AV)(ds:List α)(q:α→Bool)(g:FuncId)(cap:List AV)(h:Heap)(hb:Rd h 3 y xs)(hn:xs.length=ds.length)(hl:xs.length≤1000000000)(hx:∀x∈xs,bD x=true)
  (hp:∀i (h1:i<xs.length) (h2:i<ds.length),ai prog g (xs[i]::cap) h fun r h' =>r= .b (q ds[i])∧h' =h):
  ai prog 165 [y,.fn g cap] h fun r h' =>r= .i (ixD q ds)∧h' =h:=by
 refine ad2 func165 19 [.tmp 4] fun hwf=>?_
 simp only[go_sem,hb.len];refine .intro (fun m ρ h' =>h' =h∧∃i:Nat,i≤xs.length∧m=xs.length - i∧(∀j (hj:j<i) (h2:j<ds.length),q ds[j]=false)∧lk ρ 0=some y∧lk ρ 1=some (.fn g cap)∧lk ρ 7=some (.i xs.length)∧lk ρ 8=some (.i i)) xs.length ?_ ?_
 ·refine⟨rfl,0,ad3,rfl,fun j hj=>ad3,?_,?_,?_,?_⟩<;>simp only[go_sem]
 ·rintro m ρ h' ⟨rfl,i,hi,rfl,hc,r0,r1,r7,r8⟩
  simp only[go_sem,r7,r8];refine .intro (fun e=>?_) (fun e=>?_)
  ·have hlt:i<xs.length:=ad0 e
   have hlt2:i<ds.length:=ad3;have w1:IntKind.i64.wrap ((i:Int)+1)=((i+1:Nat):Int):=aeg;simp only[go_sem,r0,r1,r8];refine hb.idx (e:=145) i rfl hlt aei ad6 fun p hp1=>?_
   have hld:=hp1.all (U:=U) (ty:=145) ad6 aeX afQ;simp only[go_sem,hld];refine(show ai prog g (xs[i]::cap) _ _ from hp i hlt hlt2).pthen ?_
   cases d1:q ds[i]
   ·simp only[go_sem,r8,w1]
    refine⟨_,?_,rfl,i+1,ad3,rfl,fun j hj h2=>?_,?_,?_,?_,?_⟩
    ·omega
    ·grind
    all_goals simp only[go_sem,r0,r1,r7]
   ·simp only[go_sem]
    exact .same (.refl _) ⟨aeL,rfl⟩
  ·have hge:i=xs.length:=by grind
   simp only[go_sem];exact .same (.refl _) ⟨aew,rfl⟩
theorem JT(y:AV)(ds:List pq)(q:pq→Bool)(g:FuncId)(cap:List AV)(h:Heap)(hb:Rd h 7 y (ds.map gA))(hl:ds.length≤1000000000)
  (hp:∀i (h2:i<ds.length),ai prog g (gA ds[i]::cap) h fun r h' =>r= .b (q ds[i])∧h' =h):
  ai prog 157 [y,.fn g cap] h fun r h' =>r= .b (ds.any q)∧h' =h:=by
 refine ad2 func157 9 [.tmp 4] fun hwf=>?_
 simp only[go_sem];refine(Ms y _ ds q g cap h hb aea ad4 (pE (fun _=>rfl) _) fun i a b=>by rw[adU];exact hp i b).pthen ?_
 simp only[go_sem,u9];exact aeh
theorem JS(y:AV)(ds:List cE)(q:cE→Bool)(g:FuncId)(cap:List AV)(h:Heap)(hb:Rd h 3 y (ds.map bh))(hl:ds.length≤1000000000)
  (hp:∀i (h2:i<ds.length),ai prog g (bh ds[i]::cap) h fun r h' =>r= .b (q ds[i])∧h' =h):
  ai prog 112 [y,.fn g cap] h fun r h' =>r= .b (ds.any q)∧h' =h:=by
 refine ad2 func112 9 [.tmp 4] fun hwf=>?_
 simp only[go_sem];refine(Mq y _ ds q g cap h hb aea ad4 (pE (fun _=>rfl) _) fun i a b=>by rw[adU];exact hp i b).pthen ?_
 simp only[go_sem,u9];exact aeh
theorem Gf(y:AV)(xs:List AV)(ds:List aK)(q:aK→Bool)(g:FuncId)(cap:List AV)(h:Heap)(hb:Rd h 5 y xs)(hn:xs.length=ds.length)(hl:xs.length≤1000000000)(hx:∀x∈xs,bD x=true)
  (hp:∀i (h1:i<xs.length) (h2:i<ds.length),ai prog g (xs[i]::cap) h fun r h' =>r= .b (q ds[i])∧h' =h):
  ai prog 118 [y,.fn g cap] h fun r h' =>r= .b (ds.any q)∧h' =h:=by
 refine ad2 func118 9 [.tmp 4] fun hwf=>?_
 simp only[go_sem];refine(vt y xs ds q g cap h hb hn hl hx hp).pthen ?_;simp only[go_sem,u9];exact aeh
theorem MA(r:pq){k1 k2:Nat}{subj:Txt}(hk1:h k1=some (.obj [.s subj] 9))(hk2:h k2=some (.obj (sL s) 40))(ht:0≤s.tick∧s.tick≤1099511627776)(hr:0≤r.tick∧r.tick≤1099511627776):
  ai prog 158 [gA r,.ptr k1 0,.ptr k2 0] h fun x h' =>x= .b (r.subj==subj && rG s r)∧h' =h:=by
 have w:IntKind.i64.wrap (s.tick - r.tick)=s.tick - r.tick:=aY _ ad3;obtain⟨tick,cs,rv,nt,ro,⟨pid,pset,palg,ptgt,prules,pkids,pobls⟩,ver⟩:=s;simp only[sL]at hk2;simp only at w;refine ad2 func158 21 [.tmp 4] fun hwf=>?_
 simp only[go_sem,gA];intro i3 h3;have n31:i3≠k1:=fun e=>ad4
 have n32:i3≠k2:=fun e=>ad4
 cases d1:(r.subj==subj)
 ·simp only[go_sem,aj,n31.symm,hk1,d1]
  exact .mk _ (.refl _) (.ak h3) ⟨rfl,rfl⟩
 cases d2:r.isOpen
 ·simp only[go_sem,aj,n31.symm,hk1,d1]
  exact .mk _ (.refl _) (.ak h3) ⟨by simp only[rG,d2];rfl,rfl⟩
 ·simp only[go_sem,aj,n31.symm,n32.symm,hk1,hk2,d1,w]
  exact .mk _ (.refl _) (.ak h3) ⟨by simp only[rG,d2];rfl,rfl⟩
theorem O9(s:an)(subj:Txt)(hn:s.reviews.length≤1000000)(ht:0≤s.tick∧s.tick≤1099511627776)(hr:iF s)(h:Heap):ai prog 103 [bN s,.s subj] h fun x h' =>x= .b (MB s subj)∧h' =h:=by
 have hl1:=fun(H:Heap) (k1 k2:Nat) (e1:H k1=some (.obj [.s subj] 9)) (e2:H k2=some (.obj (sL s) 40))=>JT (jR s.reviews) s.reviews (fun r=>r.subj==subj && rG s r) 158 [.ptr k1 0,.ptr k2 0] H (eL gA 7 (fun _=>rfl) H _) ad3 fun i h2=>MA _ e1 e2 ht (hr _ (adY h2))
 have hst:=o6 s;obtain⟨tick,cs,rv,nt,ro,⟨pid,pset,palg,ptgt,prules,pkids,pobls⟩,ver⟩:=s;rw[hst];simp only[sL]at hl1⊢;refine ad2 func103 9 [.tmp 4] fun hwf=>?_
 simp only[go_sem];intro i2 h2;simp only[go_sem];intro i3 h3;have n32:=aF h3;have n3:=aB h3;have hs:∀x y,Ab.Sub h (upd (upd h i2 x) i3 y):=fun x y=>((Sub.refl h).put h2 x).put n3 y
 simp only[go_sem,aj,n32.symm];refine(hl1 _ i3 i2 (ah ..) (by grind [ag,ah])).pthen ?_
 simp only[go_sem];exact afE
theorem I6(s:an)(o:OpD)(m:aU)(hm9:M9 m)(hn:s.reviews.length≤1000000)(hro:s.roles.length≤1000000)(ht:0≤s.tick∧s.tick≤1099511627776)(hr:iF s)(h:Heap):ai prog 43 [bN s,opA o,aR m] h fun x h' =>x= .b (tM s o m)∧h' =h:=by
 have hla:=fun G=>O9 s o.subj hn ht hr G
 have hha:=fun G=>Gi (rdS G s) o.subj Cs ad3
 have hbd:tM s o m=(o.glass && (m==cM||m==naM) && yQ s.roles ⟨o.subj,Cs⟩ && !MB s o.subj):=rfl
 have de:=(nb hm9).de;have na:=(nb hm9).na;have hst:=o6 s;obtain⟨tick,cs,rv,nt,ro,⟨pid,pset,palg,ptgt,prules,pkids,pobls⟩,ver⟩:=s;rw[hst]at hla hha⊢;simp only[sL,Cs]at hla hha hbd⊢;refine ad2 func43 30 [.tmp 6] fun hwf=>?_
 simp only[go_sem,opA,opC,aR];intro i3 h3;simp only[go_sem];intro i4 h4;have n43:=aF h4;have n4:=aB h4;have hs:∀x y,Ab.Sub h (upd (upd h i3 x) i4 y):=fun x y=>((Sub.refl h).put h3 x).put n4 y
 cases dg:o.glass
 ·simp only[go_sem]
  exact .mk _ (.refl _) (hs _ _) ⟨by rw[hbd,dg];rfl,rfl⟩
 cases d1:(m==cM)<;>cases d2:(m==naM)
 case false.false=>simp only[go_sem,de,na,d1,d2];exact .mk _ (.refl _) (hs _ _) ⟨by rw[hbd,dg,d1,d2];rfl,rfl⟩
 all_goals
  simp only[go_sem,aj,n43.symm,de,na,d1,d2];refine(hha _).pthen ?_;cases dh:yQ ro ⟨o.subj,[103,108,97,115,115]⟩
  ·simp only[go_sem]
   exact .mk _ (.refl _) (hs _ _) ⟨by rw[hbd,dg,d1,d2,dh];rfl,rfl⟩
  ·simp only[go_sem,aj,n43.symm]
   refine(hla _).pthen ?_;simp only[go_sem];exact .mk _ (.refl _) (hs _ _) ⟨by rw[hbd,dg,d1,d2,dh];rfl,rfl⟩
theorem JV(x:cE){field:Txt}(hk:h k=some (.obj [.s field] 9)):ai prog 113 [bh x,.ptr k 0] h fun r h' =>r= .b (x.kind==2 && x.arg==field)∧h' =h:=by
 refine ad2 func113 13 [.tmp 3] fun hwf=>?_
 simp only[go_sem,bh];intro i2 h2;have n2:i2≠k:=fun e=>ad4
 cases d1:(x.kind==2)
 all_goals
  simp only[go_sem,aj,n2.symm,hk,d1];exact .mk _ (.refl _) (.ak h2) ⟨rfl,rfl⟩
theorem Mk(l:List cE)(hl:l.length≤1000000000)(field:Txt)(h:Heap):ai prog 47 [ay l,.s field] h fun r h' =>r= .b (j9 l field)∧h' =h:=by
 refine ad2 func47 8 [.tmp 4] fun hwf=>?_
 simp only[go_sem,ay];intro i3 h3;simp only[go_sem];refine(JS (.sl (l.map bh) .no) l (fun x=>x.kind==2 && x.arg==field) _ [.ptr i3 0] _ (eL bh 3 (fun _=>rfl) _ _) hl fun i h2=>JV _ (ah ..)).pthen ?_
 simp only[go_sem];exact .mk _ (.refl _) (.ak h3) ⟨rfl,rfl⟩
theorem M4(hb:RdC h x c):ai prog 119 [x] h fun r h' =>r= .b (decide (256<c.log.length))∧h' =h:=by
 obtain⟨f,l,rfl,hf,hl⟩:=hb;have e:decide ((256:Int)<(c.log.length:Int))=decide (256<c.log.length):=by grind
 refine ad2 func119 7 [.tmp 2] fun hwf=>?_
 simp only[go_sem];intro i1 h1;simp only[go_sem,hl.len,adT,e];exact ael
theorem M7(hb:RdS h x s)(hc:s.cases.length≤1000000):ai prog 51 [x] h fun r h' =>r= .b (sE s)∧h' =h:=by
 obtain⟨y1,y2,y3,y4,rfl,⟨xs,hx,hn,hcs⟩,h2,h3,h4⟩:=hb;have hod:sE s=(decide (256<s.reviews.length)||decide (256<s.notices.length)||s.cases.any fun c=>decide (256<c.log.length)):=rfl
 have e2:decide ((256:Int)<(s.reviews.length:Int))=decide (256<s.reviews.length):=by grind
 have e3:decide ((256:Int)<(s.notices.length:Int))=decide (256<s.notices.length):=by grind
 have hca:=fun(G:Heap) (hG:Ab.Sub h G)=>Gf y1 xs s.cases (fun c=>decide (256<c.log.length)) 119 [] G (hx.sub hG) hn ad3 (Al.agg hn hcs) fun i a b=>M4 ((hcs i a b).sub hG)
 cases hpp:s.policy with
 |mk pid pset palg ptgt prules pkids pobls=>
 refine ad2 func51 18 [.tmp 2] fun hwf=>?_
 simp only[go_sem,gw,aQ,List.cons_append,List.nil_append];intro i1 h1;cases d2:decide (256<s.reviews.length)
 case true=>simp only[go_sem,h2.len,adT,e2,d2];exact .mk _ (.refl _) (.ak h1) ⟨by rw[hod,d2];rfl,rfl⟩
 cases d3:decide (256<s.notices.length)
 case true=>simp only[go_sem,h2.len,h3.len,adT,e2,e3,d2,d3];exact .mk _ (.refl _) (.ak h1) ⟨by rw[hod,d2,d3];rfl,rfl⟩
 simp only[go_sem,h2.len,h3.len,adT,e2,e3,d2,d3];refine(hca _ (.ak h1)).pthen ?_;simp only[go_sem];exact .mk _ (.refl _) (.ak h1) ⟨by rw[hod,d2,d3];rfl,rfl⟩
theorem MI(hb:RdC h x c){o:OpD}(hk:h k=some (.obj (opC o) 46)):ai prog 167 [x,.ptr k 0] h fun r h' =>r= .b (c.id==o.case)∧h' =h:=by
 obtain⟨f,l,rfl,hf,hl⟩:=hb;simp only[opC]at hk;refine ad2 func167 9 [.tmp 3] fun hwf=>?_
 simp only[go_sem];exact aiv
end Go.Proofs.YtokahfmoollblaaGreatDoor
namespace Go.Ab
open Go
theorem OwE.more{tb:TypeId}{g h0 h:Heap}{sz:Nat}{y:AV}{xs:List AV}(hw:OwE tb h0 h sz y xs)(hg:∀id,h0 id=Option.none→h id≠Option.none→g id=Option.none):OwE tb g h sz y xs:=by
 rcases hw with hw|⟨id,e,hw⟩
 ·exact ahY
 ·exact .inr ⟨id,hg _ e hw.none,hw⟩
end Go.Ab
namespace Go.Proofs.YtokahfmoollblaaGreatDoor
open Go Go.Ab Go.Bf Tryz
variable {g h0 h H:Heap}{ys:List AV}{x y:AV}{i0 j k:Nat}{s:an}
theorem fD.more{c:aK}(hm:fD h0 h ys x c)(hg:∀id,h0 id=none→h id≠none→g id=none):fD g h ys x c:=by obtain⟨f,l,e,a,b,c⟩:=hm;exact⟨f,l,e,a.more hg,b.more hg,c⟩
theorem mE.more{cs:List aK}(ho:mE h0 h ys y cs i0)(hg:∀id,h0 id=none→h id≠none→g id=none):mE g h ys y cs i0:=by obtain⟨xs,a,b,c,d⟩:=ho;exact⟨xs,a.more hg,b,c,fun h1 h2=>(d h1 h2).more hg⟩
theorem OwR.more{rs:List gG}(hr:OwR h0 h y rs)(hg:∀id,h0 id=none→h id≠none→g id=none):OwR g h y rs:=by
 rcases hr with hr|hr
 ·exact .inl hr
 ·exact .inr (hr.more hg)
theorem iS.more{y1 y2 y3 y4:AV}(ho:iS h0 h y1 y2 y3 y4 s j)(hg:∀id,h0 id=none→h id≠none→g id=none):iS g h y1 y2 y3 y4 s j:=
 {ho with cs:=ho.cs.more hg,rv:=ho.rv.more hg,nt:=ho.nt.more hg,rl:=ho.rl.more hg}
def GSt(g H:Heap)(k:Nat)(s:an)(j:Nat):Prop:=∃y1 y2 y3 y4,H k=some (.obj (stC s y1 y2 y3 y4) 40)∧iS g H y1 y2 y3 y4 s j∧g k≠none∧∀i b,i≠k→g i=some b→H i=some b
theorem GSt.box(hG:GSt g H k s j){i:Nat}(hi:H i=none)(b:Blk):GSt (upd g i (some b)) (upd H i (some b)) k s j:=by
 obtain⟨y1,y2,y3,y4,hk,ho,hgk,hfr⟩:=hG;refine⟨y1,y2,y3,y4,aeF,(ho.more (g:=upd g i (some b)) fun id h0 hne=>?_).keep fun id _ hne=>ag _ _ fun e=>hne ad4,aeF,fun q c hq hc=>?_⟩
 ·grind [ag]
 grind [ah,ag]
theorem GSt.unbox{i:Nat}{b:Blk}(hG:GSt (upd g i (some b)) H k s j)(hi:i≠k)(hgi:g i=none):GSt g H k s j∧H i=some b:=by
 obtain⟨y1,y2,y3,y4,hk,ho,hgk,hfr⟩:=hG;refine⟨⟨y1,y2,y3,y4,hk,ho.bS fun q hq=>?_,aeF,fun q c hq hc=>hfr q c hq ?_⟩,hfr i b hi (ah ..)⟩
 ·grind [ag]
 grind [ag]
theorem GSt.base(hG:GSt g H k s j):∃G,Ab.Sub G H∧(∀i,G i=none↔g i=none)∧∀i,i≠k→G i=g i:=by
 obtain⟨y1,y2,y3,y4,hk,ho,hgk,hfr⟩:=hG;refine⟨upd g k (H k),fun i b hi=>?_,fun i=>?_,fun i hi=>ag _ _ hi⟩
 ·grind [ah,ag]
 grind [ah,ag]
theorem GSt.rd(hG:GSt g H k s j):∃y1 y2 y3 y4,H k=some (.obj (stC s y1 y2 y3 y4) 40)∧RdS H (.agg (stC s y1 y2 y3 y4)) s:=by obtain⟨y1,y2,y3,y4,hk,ho,_⟩:=hG;exact⟨y1,y2,y3,y4,hk,ho.rd⟩
theorem Et(hG:GSt g H k s j)(o:OpD)(w:Txt)(hk64:i64 o.kind)(hn:s.reviews.length≤1000000000):
  ai prog 45 [.ptr k 0,opA o,.s w] H fun r H' =>GSt g H' k (bW s o w) j:=by
 obtain⟨G,sG,nG,oG⟩:=hG.base;obtain⟨y1,y2,y3,y4,hk,ho,hgk,hfr⟩:=hG;have ho2:iS G H y1 y2 y3 y4 s j:=ho.bS fun i hi=>(nG i).2 hi
 have w1:IntKind.i64.wrap ((s.reviews.length:Int)+1)=(s.reviews.length:Int)+1:=aY _ ad3;obtain⟨pid,pset,palg,ptgt,prules,pkids,pobls,hpp⟩:∃a b c d e f g,s.policy= .mk a b c d e f g:=by cases s.policy;simp
 have hst:∀z,stC (bW s o w) y1 z y3 y4= [.i s.tick,y1,z,y3,y4,.s pid,.b pset,.i palg,aT ptgt,.sl (prules.map aC) .no,.sl (pkids.map aL) .no,ay pobls,.i s.version]:=fun z=>by simp[stC,bW,hpp,gw,aQ]
 have hst0:stC s y1 y2 y3 y4= [.i s.tick,y1,y2,y3,y4,.s pid,.b pset,.i palg,aT ptgt,.sl (prules.map aC) .no,.sl (pkids.map aL) .no,ay pobls,.i s.version]:=ahN;rw[hst0]at hk;refine ad2 func45 34 [] fun hwf=>?_
 simp only[go_sem,opA,opC];intro i4 h4;have n4k:i4≠k:=fun e=>ad4
 simp only[go_sem];obtain⟨K,eK⟩:∃K,upd H i4 (some (.obj [.i o.kind,.s o.subj,.s o.case,.s o.field,.s o.to,.i o.val.kind,.i o.val.n,.s o.val.s,.i o.review,.s o.text,.s o.reason,.b o.glass] 46))=K:=⟨_,rfl⟩;have sK:Ab.Sub H K:=by rw[←eK];exact .ak h4
 have k4:K i4=some (.obj [.i o.kind,.s o.subj,.s o.case,.s o.field,.s o.to,.i o.val.kind,.i o.val.n,.s o.val.s,.i o.review,.s o.text,.s o.reason,.b o.glass] 46):=by rw[←eK,ah]
 have kk:=sK _ _ hk;have hoK:iS G K y1 y2 y3 y4 s j:=ho2.keep fun id _ hne=>by rw[←eK];grind [ag]
 rw[eK];have p4:=(bG (H:=K) (l:=[k,i4]) (show i4∈ [k,i4] by simp)).trans k4
 have pk:=(bG (H:=K) (l:=[k,i4]) (show k∈ [k,i4] by simp)).trans kk
 refine .stage (pick K [k,i4]) [0,1,2,3,4,5,6,7,8,9,10,11,12,13,14,15,16,17,18,19,20,22,21,23,24,25,26,27] [28] bz ad7 ?_;simp only[go_sem,pk,p4,hoK.rv.rd.len,adT,w1];refine(AT o.kind hk64 _).pthen ?_;refine⟨bz,?_⟩;simp only[go_sem];have hap1:Rd K 7 (.sl [gA (BL s o w)] .full) [gA (BL s o w)]:=.sl aeP .full;refine OwE.app (U:=U) (tb:=132) hoK.rv (sG.trans sK) hap1 aei ad6 ad6 aei aea aeB fun id y' K2 hid hor how hoth=>?_
 have hor' :K id=none∨nid y2=some id:=by
  rcases hor with hor|⟨l,c,ey⟩
  ·grind
  ·exact .inr ahu
 have nik:k≠id:=fun e=>hgk ((nG k).1 ad4)
 have ni4:i4≠id:=by
  rcases hor' with hor|hor
  ·grind
  ·exact fun e=>(ho2.rv.nid hor).2.1 ad4
 have m4:=(hoth i4 ni4).trans k4;have mk:=(hoth k nik).trans kk;refine⟨iW fun q hq=>?_,?_⟩
 ·grind
 simp only[go_sem];refine⟨cX,fun _ _ e=>aet,?_⟩
 simp only[go_sem,mk,how.rd.fit,how.rd.cells];refine⟨fun _ _ e=>aet,?_⟩
 refine .same (.refl _) ⟨y1,y',y3,y4,ahS,iS.bS (h0:=G) ?_ fun i hi=>(nG i).1 hi,hgk,fun i b hi hb=>?_⟩
 ·refine hoK.revs (rs:=s.reviews++ [BL s o w]) (.inr ⟨id,hid,by rw[List.map_append];exact how.same (ag _ _ nik.symm)⟩) (fun q hq=>?_) fun q hq hne hz=>?_
  ·have:id=q:=by have:=how.nid;rw[hq]at this;exact(Option.some.inj this).symm
   rw[←this];exact hor'
  grind [ag]
 ·have n2:i≠id:=fun e=>by grind
  rw[ag _ _ hi,hoth i n2];exact sK _ _ (hfr i b hi hb)
end Go.Proofs.YtokahfmoollblaaGreatDoor
namespace Go.Bf
open Go Go.Ab Go.Proofs.YtokahfmoollblaaGreatDoor
theorem Eh{s:an}{o:OpD}{w:Txt}(h:¬(iT s.cases o.case<s.cases.length∧o.kind≠6)):ja s o w=s:=by simp_all [ja,if_neg]
theorem MJ{s:an}{o:OpD}{w:Txt}{j:Nat}(h1:iT s.cases o.case<s.cases.length)(h2:o.kind≠6)(e:iT s.cases o.case=j):ja s o w= {s with cases:=s.cases.modify j fun c=>jD s c o.subj w}:=by simp_all [ja,if_pos]
end Go.Bf
namespace Go.Proofs.YtokahfmoollblaaGreatDoor
open Go Go.Ab Go.Bf Tryz
theorem MK{g H:Heap}{k:Nat}{s:an}{j:Nat}(hG:GSt g H k s j)(o:OpD)(w:Txt)(hc:s.cases.length≤1000000)(hl:∀c∈s.cases,c.log.length≤1000000000)(hj:iT s.cases o.case<s.cases.length→o.kind≠6→j=iT s.cases o.case):
  ai prog 117 [.ptr k 0,opA o,.s w] H fun r H' =>GSt g H' k (ja s o w) j:=by
 obtain⟨G,sG,nG,oG⟩:=hG.base;obtain⟨y1,y2,y3,y4,hk,ho,hgk,hfr⟩:=hG;have ho2:iS G H y1 y2 y3 y4 s j:=ho.bS fun i hi=>(nG i).2 hi
 obtain⟨pid,pset,palg,ptgt,prules,pkids,pobls,hpp⟩:∃a b c d e f g,s.policy= .mk a b c d e f g:=by cases s.policy;exact⟨_,_,_,_,_,_,_,rfl⟩
 have hst0:stC s y1 y2 y3 y4= [.i s.tick,y1,y2,y3,y4,.s pid,.b pset,.i palg,aT ptgt,.sl (prules.map aC) .no,.sl (pkids.map aL) .no,ay pobls,.i s.version]:=ahN;rw[hst0]at hk;refine ad2 func117 44 [] fun hwf=>?_
 simp only[go_sem,opA,opC];intro i4 h4;have n4k:i4≠k:=fun e=>by rw[e,hk]at h4;cases h4
 obtain⟨K,eK⟩:∃K,upd H i4 (some (.obj [.i o.kind,.s o.subj,.s o.case,.s o.field,.s o.to,.i o.val.kind,.i o.val.n,.s o.val.s,.i o.review,.s o.text,.s o.reason,.b o.glass] 46))=K:=⟨_,rfl⟩;have sK:Ab.Sub H K:=by rw[←eK];exact .ak h4
 have k4:K i4=some (.obj [.i o.kind,.s o.subj,.s o.case,.s o.field,.s o.to,.i o.val.kind,.i o.val.n,.s o.val.s,.i o.review,.s o.text,.s o.reason,.b o.glass] 46):=by rw[←eK,ah]
 have kk:=sK _ _ hk;have hoK:iS G K y1 y2 y3 y4 s j:=ho2.keep fun id _ hne=>by rw[←eK];exact ag _ _ fun e=>hne (by rw[e];exact h4)
 have hfin:GSt g K k s j:=⟨y1,y2,y3,y4,by rw[hst0];exact kk,hoK.bS fun i hi=>(nG i).1 hi,hgk,fun i b hi hb=>sK _ _ (hfr i b hi hb)⟩
 have hix:ai prog 150 [y1,.fn 167 [.ptr i4 0]] K fun r h' =>r= .i (ixD (fun c:aK=>c.id==o.case) s.cases)∧h' =K:=by obtain⟨xs,hx,hn,hcs⟩:=hoK.cs.rd;exact vt y1 xs s.cases (fun c=>c.id==o.case) _ [.ptr i4 0] K hx hn ad3 (Al.agg hn hcs) fun i a b=>MI (hcs i a b) k4
 have hcsK:=hoK.cs;have n4G:∀id,G id=none→K id≠none→id≠i4→H id=K id:=fun id _ _ h=>by rw[←eK,ag _ _ h]
 simp only[go_sem,aj,n4k.symm,hk];rw[eK];refine hix.pthen ?_
 by_cases hx:iT s.cases o.case<s.cases.length
 case neg=>
  have e1:ixD (fun c:aK=>c.id==o.case) s.cases= -1:=if_neg hx
  have d1:decide ((-1:Int)<0)=true:=rfl;rw[e1];simp only[go_sem,d1];exact .same (.refl _) (by rw[Eh fun h=>hx h.1];exact hfin)
 have e1:ixD (fun c:aK=>c.id==o.case) s.cases=(iT s.cases o.case:Nat):=if_pos hx
 have d1:decide (((iT s.cases o.case:Nat):Int)<0)=false:=decide_eq_false ad3;rw[e1];cases d6:(o.kind==6)
 case true=>
  have h6:o.kind=6:=by simpa using d6
  simp only[go_sem,d1,k4,d6];exact .same (.refl _) (by rw[Eh fun h=>h.2 h6];exact hfin)
 have h6:o.kind≠6:=by simpa using d6
 have hjj:=hj hx h6;have hlo:=MJ (w:=w) hx h6 hjj.symm;have hjc:j<s.cases.length:=by rw[hjj];exact hx
 rw[←hjj]at d1⊢;rw[hlo];obtain⟨xs,w1,hnx,hlw,hmy⟩:=hcsK;have hjx:j<xs.length:=ad3;obtain⟨f,l,ex,of,ol,hap,hys⟩:=hmy hjx hjc;obtain⟨id1,hg1,o1⟩:=w1.ow agU;have o1' :=o1;obtain⟨cap,rest,ey,hid,hrl,hcap,hsz⟩:=o1';have lA:j*5=(aq (xs.take j)).length:=ae6;have hidK:K id1=some (.obj (aq (xs.take j)++(cm s.cases[j] f l++(aq (xs.drop (j+1))++rest))) 111):=by rw[hid,Cp hjx,ex];simp[cm,AV.cells]
 have n1k:id1≠k:=mA o1 kk ad6;have n14:id1≠i4:=mA o1 k4 ad6;have hll:=hl _ (adY hjc);have p4:=(bG (H:=K) (l:=[k,i4,id1]) (show i4∈ [k,i4,id1] by simp)).trans k4
 have pk:=(bG (H:=K) (l:=[k,i4,id1]) (show k∈ [k,i4,id1] by simp)).trans kk
 have p1:=(bG (H:=K) (l:=[k,i4,id1]) (show id1∈ [k,i4,id1] by simp)).trans hidK
 have hc4:(aq (xs.take j)++(cm s.cases[j] f l++(aq (xs.drop (j+1))++rest)))[j*5+4]? =some l:=by rw[lA,List.getElem?_append_right ad3,Nat.add_sub_cancel_left];rfl
 obtain⟨CS,eCS⟩:∃CS,aq (xs.take j)++(cm s.cases[j] f l++(aq (xs.drop (j+1))++rest))=CS:=⟨_,rfl⟩;rw[eCS]at hc4 p1 hidK;simp only[go_sem,d1,k4,d6,kk];refine o1.idx (U:=U) (e:=111) j rfl hjx nZ ad6 ?_;simp only[go_sem];refine .stage (pick K [k,i4,id1]) [0,1,2,3,4,5,6,7,8,9,10,11,12,13,14,15,16] [17] bz ad7 ?_;simp only[go_sem,pk,p4,p1,hc4];have hap1:Rd K 3 (.sl [gv ⟨s.tick,o.subj,w⟩] .full) [gv ⟨s.tick,o.subj,w⟩]:=.sl aeP .full;refine OwE.app (U:=U) (tb:=189) ol (sG.trans sK) hap1 aed ad6 ad8 aed aea aeB fun id2 y' K2 g2 hor how hoth=>?_
 have hor' :K id2=none∨nid l=some id2:=by exact aiN
 have n2:∀ {q b t},K q=some (.obj b t)→t≠189→q≠id2:=fun {q b t} hq ht e=>by
  rcases hor' with h|h
  ·rw[e,h]at hq;cases hq
  ·exact mA (ol.nid h).2.2 hq ht e.symm
 have m4:=(hoth i4 (n2 k4 ad6)).trans k4;have mk:=(hoth k (n2 kk ad6)).trans kk;have m1:=(hoth id1 (n2 hidK ad6)).trans hidK;refine⟨iW fun q hq=>?_,?_⟩
 ·simp only[List.mem_cons,List.not_mem_nil,or_false]at hq
  rcases hq with rfl|rfl|rfl
  ·rw[mk,kk]
  ·rw[m4,k4]
  ·rw[m1,hidK]
 simp only[go_sem];refine⟨cX,fun _ _ e=>aet,?_⟩
 simp only[go_sem,m1,how.rd.fit,how.rd.cells];have e5:List.take (j*5+4) CS++ [y']++List.drop (j*5+4+1) CS=aq (xs.take j)++(cm s.cases[j] f y' ++(aq (xs.drop (j+1))++rest)):=by
  have:=pW (A:=aq (xs.take j)++ [.s s.cases[j].id,.s s.cases[j].owner,.s s.cases[j].state,f]) (B:=[l]) (C:=aq (xs.drop (j+1))++rest) (X:=[y']) (k:=j*5+4) (m:=1) (by rw[lA];simp) rfl rfl
  exact ajK
 rw[e5];refine⟨by rw[←eCS];simp only[adX,←lA,cm,List.length_cons,List.length_nil];omega,(fun _ _ e=>aet),?_⟩
 obtain⟨F,eF⟩:∃F,upd K2 id1 (some (.obj (aq (xs.take j)++(cm s.cases[j] f y' ++(aq (xs.drop (j+1))++rest))) 111))=F:=⟨_,rfl⟩;have kF:∀q,q≠id1→q≠id2→F q=K q:=fun q a b=>by rw[←eF,ag _ _ a,hoth q b]
 have kF' :∀q,K q≠none→q≠id1→nid l≠some q→F q=K q:=fun q a b c=>kF q b fun e=>by
  rcases hor' with h|h
  ·exact a (by rw[e];exact h)
  ·exact c (by rw[e];exact h)
 have hF1:F id1=some (.obj (aq (xs.take j)++(cm s.cases[j] f y' ++(aq (xs.drop (j+1))++rest))) 111):=by rw[←eF,ah]
 have n12:id1≠id2:=n2 hidK ad6;have hX5:Sized 5 (xs.set j (.agg (cm s.cases[j] f y'))):=fun z hz=>by exact aiV
 have hOw:Ow 111 F 5 id1 y1 (xs.set j (.agg (cm s.cases[j] f y'))):=⟨cap,rest,agi,by rw[hF1,ua hjx];simp[AV.cells],ag8,aga,hX5⟩
 have hl' :OwE 189 G F 3 y' ((s.cases[j].log++ [(⟨s.tick,o.subj,w⟩:u0)]).map gv):=by rw[List.map_append];exact .inr ⟨id2,g2,how.same (by rw[←eF,ag _ _ n12.symm])⟩
 have hny:∀q,nid y' =some q→q=id2:=fun q hq=>by have:=how.nid;rw[hq]at this;exact Option.some.inj this
 have nf1:nid f≠some id1:=fun e=>(hys y1 aea).1 id1 e o1.nid
 have hof:OwE 199 G F 4 f (s.cases[j].fields.map bC):=of.keep fun q e=>kF' q (of.nid e).2.1 (fun e' =>nf1 (by rw[←e'];exact e)) (hap q e)
 have hnid:∀ {y:AV},y∈ [y1,y2,y3,y4]→∀q,nid y=some q→K q≠none:=fun hy q e=>(hoK.mem hy e).2
 have hap2:∀ {y:AV},y∈ [y1,y2,y3,y4]→apart y' y:=fun {y} hy q e1 e2=>by
  have:=hny q e1;subst this;rcases hor' with h|h
  ·exact hnid hy _ e2 h
  ·exact(hys y hy).2 _ h e2
 have hkp:∀ {y:AV},y∈ [y2,y3,y4]→apart y1 y→∀q,nid y=some q→F q=K q:=fun {y} hy ha q e=>by have hy' :y∈ [y1,y2,y3,y4]:=List.mem_cons_of_mem _ hy;refine kF' q (hnid hy' q e) (fun e' =>ha id1 o1.nid (by rw[←e'];exact e)) fun e' =>(hys y hy').2 q e' e
 rw[eF];refine .same (.refl _) ⟨y1,y2,y3,y4,?_,iS.bS (h0:=G) ?_ fun i hi=>(nG i).1 hi,hgk,fun i b hi hb=>?_⟩
 ·rw[kF k n1k.symm (n2 kk ad6),kk]
  simp[stC,hpp,gw,aQ]
 ·refine⟨CH (X:=.agg (cm s.cases[j] f y')) (.inr ⟨id1,hg1,hOw⟩) hnx (fun q h1 h2 hq=>hlw q h1 h2 hq) fun hh=>⟨f,y',rfl,hof,hl',fun q e1 e2=>?_,fun y hy=>⟨(hys y hy).1,hap2 hy⟩⟩,hoK.rv.keep (hkp aea hoK.a12),hoK.nt.keep (hkp aea hoK.a13),hoK.rl.keep (hkp aea hoK.a14),hoK.a12,hoK.a13,hoK.a14,hoK.a23,hoK.a24,hoK.a34⟩
  have:=hny q e2;subst this;rcases hor' with h|h
  ·exact(of.nid e1).2.1 h
  ·exact hap _ e1 h
 ·have hGi:G i=some b:=by rw[oG i hi];exact hb
  rw[kF i (fun e=>by rw[e,hg1]at hGi;cases hGi) (fun e=>by rw[e,g2]at hGi;cases hGi)]
  exact sK _ _ (hfr i b hi hb)
end Go.Proofs.YtokahfmoollblaaGreatDoor
namespace Go.Bf
open Go Go.Ab Go.Proofs.YtokahfmoollblaaGreatDoor
variable {B:Nat}{s:an}{o:OpD}{x:cE}{done:Bool}
def sA(B:Nat)(s:an):Prop:=(∀c∈s.cases,c.log.length≤B)∧s.reviews.length≤B∧s.notices.length≤B
theorem sA.up{C:Nat}(h:sA B s)(hc:B≤C):sA C s:=⟨fun c hcc=>Nat.le_trans (h.1 c hcc) hc,Nat.le_trans h.2.1 hc,Nat.le_trans h.2.2 hc⟩
theorem JK(o:OpD)(done:Bool)(x:cE)(h:sA B s):sA (B+1) (fK o done s x):=by
 unfold fK;split
 ·unfold ja
  split
  ·refine⟨fun c hc=>?_,Nat.le_succ_of_le h.2.1,Nat.le_succ_of_le h.2.2⟩
   rcases mem_modify hc with hc|⟨hi,rfl⟩
   ·exact Nat.le_succ_of_le (h.1 c hc)
   ·have:=h.1 _ (adY hi)
    simp only[jD,adX,List.length_singleton];omega
  ·exact h.up ad3
 ·split
  ·refine⟨fun c hc=>Nat.le_succ_of_le (h.1 c hc),?_,Nat.le_succ_of_le h.2.2⟩
   have:=h.2.1;simp only[bW,adX,List.length_singleton];omega
  ·split
   ·refine⟨fun c hc=>Nat.le_succ_of_le (h.1 c hc),Nat.le_succ_of_le h.2.1,?_⟩
    have:=h.2.2;simp only[adX,List.length_singleton];omega
   ·exact h.up ad3
theorem wG(o:OpD)(done:Bool):∀(l:List cE) {B:Nat} {s:an},sA B s→sA (B+l.length) (dO s o l done)
 | [],B,s,h=>h
 |x::l,B,s,h=>(wG o done l (JK o done x h)).up ad4
theorem Dx(s:an)(o:OpD)(done:Bool){l:List cE}{i:Nat}(h:i<l.length):dO s o (l.take (i+1)) done=fK o done (dO s o (l.take i) done) l[i]:=by grind [dO,List.take_succ_eq_append_getElem]
theorem wJ(o:OpD)(done:Bool)(id:Txt):∀(l:List cE) (s:an),iT (dO s o l done).cases id=iT s.cases id∧(dO s o l done).cases.length=s.cases.length
 | [],s=>⟨rfl,rfl⟩
 |x::l,s=>by obtain⟨a1,a2⟩:=JZ o done s x id;obtain⟨b1,b2⟩:=wJ o done id l (fK o done s x);exact⟨b1.trans a1,b2.trans a2⟩
theorem Jj(h:x.kind=1):fK o true s x=ja s o x.arg:=by unfold fK;grind
theorem FW(h:x.kind=3):fK o done s x=bW s o x.arg:=by simp_all [fK,if_neg,if_pos]
theorem FX(h:x.kind=4):fK o done s x= {s with notices:=s.notices++ [⟨s.tick,o.case,x.arg⟩]}:=by simp_all [fK,if_neg,if_pos]
theorem Dy(h1:¬(x.kind=1∧done=true))(h3:x.kind≠3)(h4:x.kind≠4):fK o done s x=s:=by simp_all [fK,if_neg]
end Go.Bf
namespace Go.Proofs.YtokahfmoollblaaGreatDoor
open Go Go.Ab Go.Bf Tryz
theorem FU{g H:Heap}{k:Nat}{s:an}{j:Nat}(hG:GSt g H k s j)(o:OpD)(hk64:i64 o.kind)(l:List cE)(hll:l.length≤100000000)(done:Bool)(hc:s.cases.length≤1000000)(hgr:sA 1000 s)(hj:done=true→iT s.cases o.case<s.cases.length→o.kind≠6→j=iT s.cases o.case):
  ai prog 50 [.ptr k 0,opA o,ay l,.b done] H fun r H' =>GSt g H' k (dO s o l done) j:=by
 have hkn:H k≠none:=by obtain⟨y1,y2,y3,y4,hk,_⟩:=hG;rw[hk];simp
 refine ad2 func50 60 [] fun hwf=>?_
 simp only[go_sem,opA,opC,ay];intro i5 h5;have n5k:i5≠k:=fun e=>hkn (by rw[←e];exact h5)
 have hg5:g i5=none:=by
  obtain⟨y1,y2,y3,y4,hk,ho,hgk,hfr⟩:=hG;cases hh:g i5 with
  |none=>rfl
  |some b=>have:=hfr i5 b n5k hh;rw[h5]at this;cases this
 have hG5:=hG.box h5 (.obj [.i o.kind,.s o.subj,.s o.case,.s o.field,.s o.to,.i o.val.kind,.i o.val.n,.s o.val.s,.i o.review,.s o.text,.s o.reason,.b o.glass] 46);obtain⟨g5,eg5⟩:∃g5,upd g i5 (some (.obj [.i o.kind,.s o.subj,.s o.case,.s o.field,.s o.to,.i o.val.kind,.i o.val.n,.s o.val.s,.i o.review,.s o.text,.s o.reason,.b o.glass] 46))=g5:=⟨_,rfl⟩;have g55:g5 i5=some (.obj [.i o.kind,.s o.subj,.s o.case,.s o.field,.s o.to,.i o.val.kind,.i o.val.n,.s o.val.s,.i o.review,.s o.text,.s o.reason,.b o.glass] 46):=by rw[←eg5,ah]
 rw[eg5]at hG5;have hback:∀ {H' :Heap} {s' :an},GSt g5 H' k s' j→GSt g H' k s' j:=fun {H' s'} h=>by rw[←eg5]at h;exact(h.unbox n5k hg5).1
 have hgk5:g5 k≠none:=by obtain⟨_,_,_,_,_,_,h,_⟩:=hG5;exact h
 simp only[go_sem,adT];refine .intro (fun m ρ H2=>∃i:Nat,GSt g5 H2 k (dO s o (l.take i) done) j∧i≤l.length∧m=l.length - i∧lk ρ 0=some (.ptr k 0)∧lk ρ 3=some (.b done)∧lk ρ 5=some (.ptr i5 0)∧lk ρ 10=some (.sl (l.map bh) .no)∧lk ρ 11=some (.i l.length)∧lk ρ 12=some (.i i)) l.length ?_ ?_
 ·refine⟨0,hG5,ad3,rfl,?_,?_,?_,?_,?_,?_⟩<;>simp only[go_sem]
 ·rintro m ρ H2 ⟨i,hS,hi,rfl,r0,r3,r5,r10,r11,r12⟩
  simp only[go_sem,r11,r12];refine .intro (fun e=>?_) (fun e=>?_)
  ·have hlt:i<l.length:=ad0 e
   have w1:=adZ i ad3;have hsn:=Dx s o done hlt;have hgi:=wG o done (l.take i) hgr;have hgi:sA 1000000000 (dO s o (l.take i) done):=hgi.up afA;obtain⟨hix,hcl⟩:=wJ o done o.case (l.take i) s;have ix:=fun k=>fC.eq (xs:=l.map bh) (sz:=3) i aep aec k
   rw[adU]at ix;obtain⟨x,ex⟩:∃x,l[i]=x:=⟨_,rfl⟩;rw[ex]at ix hsn;obtain⟨t,et⟩:∃t,dO s o (l.take i) done=t:=⟨_,rfl⟩;rw[et]at hS hsn hgi hix hcl;have hjt:done=true→iT t.cases o.case<t.cases.length→o.kind≠6→j=iT t.cases o.case:=fun a b c=>by rw[hix]at b⊢;rw[hcl]at b;exact hj a b c
   simp only[bh]at ix;simp only[go_sem,r10,r12,ix];intro i9 h9;have kkn:H2 k≠none:=by obtain⟨y1,y2,y3,y4,hk,_⟩:=hS;rw[hk];simp
   have n9k:i9≠k:=fun e=>kkn (by rw[←e];exact h9)
   have hg9:g5 i9=none:=by
    obtain⟨y1,y2,y3,y4,hk,ho,hgk,hfr⟩:=hS;cases hh:g5 i9 with
    |none=>rfl
    |some b=>have:=hfr i9 b n9k hh;rw[h9]at this;cases this
   have n95:i9≠i5:=fun e=>by rw[e,g55]at hg9;cases hg9
   have k5:H2 i5=some (.obj [.i o.kind,.s o.subj,.s o.case,.s o.field,.s o.to,.i o.val.kind,.i o.val.n,.s o.val.s,.i o.review,.s o.text,.s o.reason,.b o.glass] 46):=by obtain⟨_,_,_,_,_,_,_,hfr⟩:=hS;exact hfr i5 _ n5k g55
   have hS9:=hS.box h9 (.obj [.i x.on,.i x.kind,.s x.arg] 145);have hb9:∀ {H' :Heap} {s' :an},GSt (upd g5 i9 (some (.obj [.i x.on,.i x.kind,.s x.arg] 145))) H' k s' j→GSt g5 H' k s' j:=fun {H' s'} h=>(h.unbox n9k hg9).1
   have hlog:=fun(hd:done=true)=>MK hS9 o x.arg (by rw[hcl];exact hc) hgi.1 (hjt hd)
   have hopen:=Et hS9 o x.arg hk64 hgi.2.1;simp only[opA,opC]at hlog hopen;cases a1:(x.kind==1)
   case true=>
    have e1:x.kind=1:=by simpa using a1
    have a3:(x.kind==3)=false:=by rw[e1];rfl
    have a4:(x.kind==4)=false:=by rw[e1];rfl
    cases done
    ·simp only[go_sem,r3,r12,a1,a3,a4,w1]
     refine⟨_,?_,i+1,by rw[hsn,Dy (fun h=>by cases h.2) (by rw[e1];decide) (by rw[e1];decide)];exact hb9 hS9,ad3,rfl,?_,?_,?_,?_,?_,?_⟩
     ·omega
     all_goals simp only[go_sem,r0,r3,r5,r10,r11]
    ·simp only[go_sem,r0,r3,r5,a1,aj,n95.symm,k5]
     refine(hlog rfl).mono fun r H3 h3=>?_
     simp only[go_sem,r12,w1];refine⟨_,?_,i+1,by rw[hsn,Jj e1];exact hb9 h3,ad3,rfl,?_,?_,?_,?_,?_,?_⟩
     ·omega
     all_goals simp only[go_sem,r0,r3,r5,r10,r11]
   have e1:¬(x.kind=1∧done=true):=fun h=>by rw[h.1]at a1;cases a1
   cases a3:(x.kind==3)
   case true=>
    have e3:x.kind=3:=by simpa using a3
    simp only[go_sem,r0,r5,a1,a3,aj,n95.symm,k5];refine hopen.mono fun r H3 h3=>?_
    simp only[go_sem,r12,w1];refine⟨_,?_,i+1,by rw[hsn,FW e3];exact hb9 h3,ad3,rfl,?_,?_,?_,?_,?_,?_⟩
    ·omega
    all_goals simp only[go_sem,r0,r3,r5,r10,r11]
   have e3:x.kind≠3:=by simpa using a3
   cases a4:(x.kind==4)
   case false=>
    have e4:x.kind≠4:=by simpa using a4
    simp only[go_sem,r12,a1,a3,a4,w1];refine⟨_,?_,i+1,by rw[hsn,Dy e1 e3 e4];exact hb9 hS9,ad3,rfl,?_,?_,?_,?_,?_,?_⟩
    ·omega
    all_goals simp only[go_sem,r0,r3,r5,r10,r11]
   have e4:x.kind=4:=by simpa using a4
   rw[FX e4]at hsn;obtain⟨G,sG,nG,oG⟩:=hS9.base;obtain⟨y1,y2,y3,y4,kk,ho,hgk,hfr⟩:=hS9;obtain⟨K,eK⟩:∃K,upd H2 i9 (some (.obj [.i x.on,.i x.kind,.s x.arg] 145))=K:=⟨_,rfl⟩;have k9:K i9=some (.obj [.i x.on,.i x.kind,.s x.arg] 145):=by rw[←eK,ah]
   have k5' :K i5=some (.obj [.i o.kind,.s o.subj,.s o.case,.s o.field,.s o.to,.i o.val.kind,.i o.val.n,.s o.val.s,.i o.review,.s o.text,.s o.reason,.b o.glass] 46):=by rw[←eK,ag _ _ n95.symm];exact k5
   rw[eK]at sG kk ho hfr;have hoK:iS G K y1 y2 y3 y4 t j:=ho.bS fun i hi=>(nG i).2 hi
   obtain⟨pid,pset,palg,ptgt,prules,pkids,pobls,hpp⟩:∃a b c d e f g,t.policy= .mk a b c d e f g:=by cases t.policy;exact⟨_,_,_,_,_,_,_,rfl⟩
   have hst:∀z (n:List C2),stC {t with notices:=n} y1 y2 z y4= [.i t.tick,y1,y2,z,y4,.s pid,.b pset,.i palg,aT ptgt,.sl (prules.map aC) .no,.sl (pkids.map aL) .no,ay pobls,.i t.version]:=fun z n=>ahN
   have hst0:stC t y1 y2 y3 y4= [.i t.tick,y1,y2,y3,y4,.s pid,.b pset,.i palg,aT ptgt,.sl (prules.map aC) .no,.sl (pkids.map aL) .no,ay pobls,.i t.version]:=ahN;rw[hst0]at kk;have p9:=(bG (H:=K) (l:=[k,i5,i9]) (show i9∈ [k,i5,i9] by simp)).trans k9
   have p5:=(bG (H:=K) (l:=[k,i5,i9]) (show i5∈ [k,i5,i9] by simp)).trans k5'
   have pk:=(bG (H:=K) (l:=[k,i5,i9]) (show k∈ [k,i5,i9] by simp)).trans kk
   simp only[go_sem,a1,a3,a4];rw[eK];refine .stage (pick K [k,i5,i9]) [0,1,2,3,4,5,6,7,8,9,10,11,12,13,14,15,16,17] [18] bz ad7 ?_;simp only[go_sem,r0,r5,pk,p5,p9];have hap1:Rd K 3 (.sl [kr ⟨t.tick,o.case,x.arg⟩] .full) [kr ⟨t.tick,o.case,x.arg⟩]:=.sl aeP .full;have hnl:=hgi.2.2;refine OwE.app (U:=U) (tb:=135) hoK.nt sG hap1 aed ad6 ad8 aed aea aeB fun id y' K2 hid hor how hoth=>?_
   have hor' :K id=none∨nid y3=some id:=by exact aiN
   have n2:∀ {q b t},K q=some (.obj b t)→t≠135→q≠id:=fun {q b t} hq ht e=>by
    rcases hor' with h|h
    ·rw[e,h]at hq;cases hq
    ·exact mA (hoK.nt.nid h).2.2 hq ht e.symm
   have m9:=(hoth i9 (n2 k9 ad6)).trans k9;have m5:=(hoth i5 (n2 k5' ad6)).trans k5';have nik:=n2 kk ad6;have mk:=(hoth k nik).trans kk;refine⟨iW fun q hq=>?_,?_⟩
   ·simp only[List.mem_cons,List.not_mem_nil,or_false]at hq
    rcases hq with rfl|rfl|rfl
    ·rw[mk,kk]
    ·rw[m5,k5']
    ·rw[m9,k9]
   simp only[go_sem];refine⟨cX,fun _ _ e=>aet,?_⟩
   simp only[go_sem,r12,mk,how.rd.fit,how.rd.cells];refine⟨fun _ _ e=>aet,?_⟩
   simp only[go_sem,w1];obtain⟨F,eF⟩:∃F,upd K2 k (some (.obj [.i t.tick,y1,y2,y',y4,.s pid,.b pset,.i palg,aT ptgt,.sl (prules.map aC) .no,.sl (pkids.map aL) .no,ay pobls,.i t.version] 40))=F:=⟨_,rfl⟩;have Fk:F k=(some (.obj [.i t.tick,y1,y2,y',y4,.s pid,.b pset,.i palg,aT ptgt,.sl (prules.map aC) .no,.sl (pkids.map aL) .no,ay pobls,.i t.version] 40)):=by rw[←eF,ah]
   have Fo:∀q,q≠k→F q=K2 q:=fun q hq=>by rw[←eF,ag _ _ hq]
   have hoz:OwE 135 G F 3 y' ((t.notices++ [(⟨t.tick,o.case,x.arg⟩:C2)]).map kr):=by rw[List.map_append];exact .inr ⟨id,hid,how.same (Fo id nik.symm)⟩
   have hop:iS G F y1 y2 y' y4 {t with notices:=t.notices++ [⟨t.tick,o.case,x.arg⟩]} j:=by
    refine iS.nots (h:=K) (h' :=F) hoK hoz (fun q hq=>?_) fun q hq hne hz=>?_
    ·have:id=q:=by have:=how.nid;rw[hq]at this;exact(Option.some.inj this).symm
     rw[←this];exact hor'
    ·have n1:q≠k:=fun e=>hgk ((nG k).1 (by rw[←e];exact hq))
     have n2:q≠id:=fun e=>by
      rcases hor' with h|h
      ·exact hne (by rw[e];exact h)
      ·exact hz (by rw[e];exact h)
     rw[Fo q n1,hoth q n2]
   have hgs:GSt (upd g5 i9 (some (.obj [.i x.on,.i x.kind,.s x.arg] 145))) F k {t with notices:=t.notices++ [⟨t.tick,o.case,x.arg⟩]} j:=by
    refine⟨y1,y2,y',y4,by rw[Fk,hst],iS.bS hop fun i hi=>(nG i).1 hi,hgk,fun i b hi hb=>?_⟩
    have n2:i≠id:=fun e=>by have:=(nG id).1 hid;rw[←e,hb]at this;cases this
    rw[Fo i hi,hoth i n2];exact hfr i b hi hb
   rw[←eF]at hgs;refine⟨_,?_,i+1,by rw[hsn];exact hb9 hgs,ad3,rfl,?_,?_,?_,?_,?_,?_⟩
   ·omega
   all_goals simp only[go_sem,r0,r3,r5,r10,r11]
  ·have hge:i=l.length:=by have:=adW e;omega
   subst hge;rw[List.take_length]at hS;simp only[go_sem];exact .same (.refl _) (hback hS)
theorem OX(s:an)(hf:Few s)(h:Heap):ai prog 44 [bN s] h fun r h' =>∃y1 y2 y3,r= .agg (stC s y1 y2 y3 (dW s.roles))∧iS h h' y1 y2 y3 (dW s.roles) s s.cases.length∧Ab.Sub h h' :=by
 have hst:=o6 s;have hsc:∀y1 y2 y3,stC s y1 y2 y3 (dW s.roles)=stC s y1 y2 y3 (dW s.roles):=fun _ _ _=>rfl
 have hfc:=hf.cases;have hfg:=hf.log;have hfr:=hf.reviews;have hfn:=hf.notices;obtain⟨tick,cs,rv,nt,ro,⟨pid,pset,palg,ptgt,prules,pkids,pobls⟩,ver⟩:=s;simp only at hfc hfg hfr hfn;rw[hst];simp only[sL,fO,jR,ku,dW,aQ];refine ad2 func44 35 [.cell 2 40] fun hwf=>?_
 simp only[go_sem];intro i1 h1;simp only[go_sem];intro i2 h2;have n21:=aF h2;have n2:=aB h2;simp only[go_sem];obtain⟨H,eH⟩:∃H,upd (upd h i1 (some (.obj [.i tick,.sl (cs.map cq) .no,.sl (rv.map gA) .no,.sl (nt.map kr) .no,.sl (ro.map dw) .no,.s pid,.b pset,.i palg,aT ptgt,.sl (prules.map aC) .no,.sl (pkids.map aL) .no,ay pobls,.i ver] 40))) i2 (some (.obj [.i 0,.sl [] .full,.sl [] .full,.sl [] .full,.sl [] .full,.s [],.b false,.i 0,.sl [] .full,.sl [] .full,.sl [] .full,.sl [] .full,.i 0] 40))=H:=⟨_,rfl⟩;have hH:Ab.Sub h H:=ae1;have g1:H i1=some (.obj [.i tick,.sl (cs.map cq) .no,.sl (rv.map gA) .no,.sl (nt.map kr) .no,.sl (ro.map dw) .no,.s pid,.b pset,.i palg,aT ptgt,.sl (prules.map aC) .no,.sl (pkids.map aL) .no,ay pobls,.i ver] 40):=afD;have g2:H i2=some (.obj [.i 0,.sl [] .full,.sl [] .full,.sl [] .full,.sl [] .full,.s [],.b false,.i 0,.sl [] .full,.sl [] .full,.sl [] .full,.sl [] .full,.i 0] 40):=afv;rw[eH];clear eH;refine .stage (hm1 i1 (.obj [.i tick,.sl (cs.map cq) .no,.sl (rv.map gA) .no,.sl (nt.map kr) .no,.sl (ro.map dw) .no,.s pid,.b pset,.i palg,aT ptgt,.sl (prules.map aC) .no,.sl (pkids.map aL) .no,ay pobls,.i ver] 40)) [0,1,3,4,6,7,2,9,5,8] [10,11,12,13,14] (.hm1 g1) ad7 ?_;simp only[go_sem,gz];refine(wu _ (rv.map gA) H (eL gA 7 (fun _=>rfl) _ _) ad4).mono fun z2 H1 ⟨o2,s1⟩=>?_
 refine⟨.hm1 (s1 _ _ g1),?_⟩;simp only[go_sem];refine(wq _ (nt.map kr) H1 (eL kr 3 (fun _=>rfl) _ _) ad4).mono fun z3 H2 ⟨o3,s2⟩=>?_
 refine⟨.hm1 (s2 _ _ (s1 _ _ g1)),?_⟩;simp only[go_sem];refine(AX _ (cs.map cq) H2 (eL cq 5 (fun _=>rfl) _ _) ad4).mono fun z1 H3 ⟨o1,s3⟩=>?_
 have s03:Ab.Sub H H3:=s1.trans (s2.trans s3);have q1' :=s03 _ _ g1;have q2' :=s03 _ _ g2;refine⟨.hm1 q1',cX,(fun _ _ e=>aet),?_⟩
 simp only[go_sem,q1',o1.rd.fit,o1.rd.cells,o2.rd.fit,o2.rd.cells,o3.rd.fit,o3.rd.cells];refine⟨fun _ _ e=>aet,fun _ _ e=>aet,fun _ _ e=>aet,?_⟩
 obtain⟨M,eM⟩:∃M,upd H3 i1 (some (.obj [.i tick,z1,z2,z3,.sl (ro.map dw) .no,.s pid,.b pset,.i palg,aT ptgt,.sl (prules.map aC) .no,.sl (pkids.map aL) .no,ay pobls,.i ver] 40))=M:=⟨_,rfl⟩;have oM:∀q,q≠i1→M q=H3 q:=fun q hq=>by rw[←eM,ag _ _ hq]
 have m1:M i1=some (.obj [.i tick,z1,z2,z3,.sl (ro.map dw) .no,.s pid,.b pset,.i palg,aT ptgt,.sl (prules.map aC) .no,.sl (pkids.map aL) .no,ay pobls,.i ver] 40):=by rw[←eM,ah]
 have m2:=(oM i2 n21).trans q2';have hM:Ab.Sub h M:=by rw[←eM];exact(hH.trans s03).put h1 _
 have new:∀ {tb:TypeId} {z:AV} {xs:List AV} {n:Nat} {g:Heap},OwE tb g H3 n z xs→Ab.Sub H g→OwE tb h M n z xs:=fun w hg=>(w.less (hH.trans hg)).keep fun id e=>oM id (cP (w.nid e).1 (hg _ _ g1))
 have w1:=new o1 (s1.trans s2);have w2:=new (o2.sub (s2.trans s3)) (.refl _);have w3:=new (o3.sub s3) s1;have a12:apart z1 z2:=(eJ o1 (o2.there s2.some)).symm;have a13:apart z1 z3:=(eJ o1 (o3.there fun k hk=>hk)).symm
 have a23:apart z2 z3:=eJ o3 (o2.there fun k hk=>hk)
 simp only[go_sem,o1.rd.len,adT];rw[eM];have h12:i1≠i2:=n21.symm;refine .intro (fun m ρ G=>∃i:Nat,Ab.Sub M G∧i≤cs.length∧m=cs.length - i∧lk ρ 1=some (.ptr i1 0)∧lk ρ 2=some (.ptr i2 0)∧lk ρ 18=some z1∧lk ρ 19=some (.i cs.length)∧lk ρ 20=some (.i i)) cs.length ?_ ?_
 ·refine⟨0,.refl _,ad3,rfl,?_,?_,?_,?_,?_⟩<;>simp only[go_sem]
 ·rintro m ρ G ⟨i,hs,hi,rfl,r1,r2,r18,r19,r20⟩
  have v1:=w1.sub hs;simp only[go_sem,r19,r20];refine .intro (fun e=>?_) (fun e=>?_)
  ·have hlt:i<cs.length:=ad0 e
   have w1' :IntKind.i64.wrap ((i:Int)+1)=((i+1:Nat):Int):=aeg;have hfl:=hfg _ (adY hlt);have hxi:(cs.map cq)[i]'ad4=cq cs[i]:=adU ..;simp only[go_sem,r18,r20];refine v1.rd.idx (U:=U) (e:=111) i rfl ad4 nZ ad6 fun p hp1=>?_
   have hld:=hp1.all (U:=U) (ty:=111) ad6 (by rw[nZ,hxi];rfl) (by simp only[go_sem];rw[hxi];rfl)
   obtain⟨c,ec⟩:∃c,cs[i]=c:=⟨_,rfl⟩;rw[hxi,ec]at hld;rw[ec]at hfl hxi;simp only[cq,nO,gL,sZ]at hld;simp only[go_sem,hld];intro i4 h4;have k1:=hs _ _ m1;have n41:i4≠i1:=cP h4 k1;obtain⟨G4,eG4⟩:∃G4,upd G i4 (some (.obj [.s c.id,.s c.owner,.s c.state,.sl (c.fields.map bC) .no,.sl (c.log.map gv) .no] 111))=G4:=⟨_,rfl⟩;have sG:Ab.Sub G G4:=ahi;have p1:=sG _ _ k1;have p4:G4 i4=some (.obj [.s c.id,.s c.owner,.s c.state,.sl (c.fields.map bC) .no,.sl (c.log.map gv) .no] 111):=by rw[←eG4,ah]
   simp only[go_sem];rw[eG4];refine .stage (hm2 i1 (.obj [.i tick,z1,z2,z3,.sl (ro.map dw) .no,.s pid,.b pset,.i palg,aT ptgt,.sl (prules.map aC) .no,.sl (pkids.map aL) .no,ay pobls,.i ver] 40) i4 (.obj [.s c.id,.s c.owner,.s c.state,.sl (c.fields.map bC) .no,.sl (c.log.map gv) .no] 111)) [0,1,2,3,4,5,6,7] [8] (.hm2 p1 p4) ad7 ?_;simp only[go_sem,r1,pR _ _ n41.symm,pS];refine(xo _ (c.log.map gv) G4 (eL gv 3 (fun _=>rfl) _ _) ad4 (bn (fun _=>rfl) _)).pthen ?_
   refine⟨.hm2 p1 p4,?_⟩;simp only[go_sem];obtain⟨id1,hg1,u1⟩:=(v1.sub sG).ow ad4;refine u1.idx (U:=U) (e:=111) i rfl ad4 nZ ad6 ?_;simp only[go_sem];refine⟨cX,(fun _ _ e=>aet),?_⟩
   have u1' :=u1;obtain⟨cap,rest,ey,hid,hr,hcap,hsz⟩:=u1';have hbd:i*5+5≤(aq (cs.map cq)++rest).length:=by grind [adX,aZ,adT]
   have e5:List.take (i*5+4) (aq (cs.map cq)++rest)++ [.sl (c.log.map gv) .no]++List.drop (i*5+4+1) (aq (cs.map cq)++rest)=aq (cs.map cq)++rest:=by refine(kG hsz i ad4 4 [.sl (c.log.map gv) .no] (adS rfl)).trans ?_;rw[oZ];rw[List.getElem?_eq_getElem ad4,hxi];rfl
   simp only[go_sem,r20,hid];rw[e5,tC hid];refine⟨ad3,(fun _ _ e=>aet),?_⟩
   simp only[go_sem,w1'];refine⟨_,?_,i+1,hs.trans sG,ad3,rfl,?_,?_,?_,?_,?_⟩
   ·omega
   all_goals simp only[go_sem,r1,r2,r18,r19]
  ·have hge:i=cs.length:=by grind
   have k1:=hs _ _ m1;have k2:=hs _ _ m2;have n21' :i2≠i1:=n21;simp only[go_sem,r1,r2,k1,k2];have kp:∀b q,h q=none→M q≠none→q≠i2→upd G i2 b q=M q:=fun b q a c d=>by
    rw[ag _ _ d];cases hh:M q with
    |none=>grind
    |some b=>exact hs _ _ hh
   have ne2:∀ {tb:TypeId} {z:AV} {xs:List AV} {n:Nat},OwE tb h M n z xs→tb≠40→∀q,nid z=some q→q≠i2:=fun w ht q e=>mA (w.nid e).2.2 m2 ht.symm
   refine .mk _ (.refl _) (.refl _) ⟨z1,z2,z3,by simp[stC,gw,aQ]<;>rfl,⟨⟨cs.map cq,w1.keep fun q e=>kp _ q (w1.nid e).1 (w1.nid e).2.1 (ne2 w1 ad6 q e),aea,fun j a b _=>adU ..,fun a b=>absurd b (Nat.lt_irrefl _)⟩,w2.keep fun q e=>kp _ q (w2.nid e).1 (w2.nid e).2.1 (ne2 w2 ad6 q e),w3.keep fun q e=>kp _ q (w3.nid e).1 (w3.nid e).2.1 (ne2 w3 ad6 q e),.inl rfl,a12,a13,fun q _ e=>aet,a23,fun q _ e=>aet,fun q _ e=>aet⟩,(hM.trans hs).put n2 _⟩
end Go.Proofs.YtokahfmoollblaaGreatDoor
namespace Go.Bf
open Go Go.Ab Go.Proofs.YtokahfmoollblaaGreatDoor
def kH(r:jW):List AV:=[.i r.err,aR r.mark,.b r.glass,.i r.val.kind,.i r.val.n,.s r.val.s,.b r.hidden,.i r.at_]
def tP(d:pn):List AV:=opC d.op++ [.i d.version,aR d.mark,.b d.glass,ay d.obls]
def og:List AV:=[.i 0,.v (.complex .f64 0 0),.b false,.i 0,.i 0,.s [],.b false,.i 0]
def j8(x:an×jW×pn×Int):AV:=.tup [bN x.1,.agg (kH x.2.1),.agg (tP x.2.2.1),.i x.2.2.2]
theorem Bc{cs ds:List aK}(h:ds.map (·.id)=cs.map (·.id))(id:Txt):findD ds id=findD cs id:=by
 have e:∀l:List aK,findD l id=(l.map (·.id)).findIdx fun x=>geB x id:=fun l=>by rw[List.findIdx_map];rfl
 rw[e,e,h]
theorem Mh(id:Txt):geB id id=true:=by
 have:Op.bytesLess id id=false:=by simpa[lt]using lt_irrefl id
 simp[geB,this]
theorem Ji{s:an}{o:OpD}(hr:bQ s o=0):findD (ew aS s o).cases o.case=findD s.cases o.case:=by
 unfold ew;rw[if_pos hr];unfold doD
 by_cases k1:o.kind=1
 ·simp only[k1,if_true]
  obtain⟨f,ef⟩:∃f,findD s.cases o.case=f:=⟨_,rfl⟩;have hf:f≤s.cases.length:=by rw[←ef];exact List.findIdx_le_length
  rw[ef];refine(List.findIdx_eq ad4).2 ⟨?_,fun j hj=>?_⟩
  ·have:((List.take f s.cases++ [jD s ⟨o.case,o.subj,jQ,[],[]⟩ o.subj [110,101,119]]++List.drop f s.cases)[f]?)=some (jD s ⟨o.case,o.subj,jQ,[],[]⟩ o.subj [110,101,119]):=by grind
   rw[(List.getElem_eq_iff _).2 this];exact Mh _
  ·have hj2:j<s.cases.length:=by omega
   have:((List.take f s.cases++ [jD s ⟨o.case,o.subj,jQ,[],[]⟩ o.subj [110,101,119]]++List.drop f s.cases)[j]?)=some s.cases[j]:=by grind
   rw[(List.getElem_eq_iff _).2 this];have h3:j<s.cases.findIdx fun c=>geB c.id o.case:=by grind [findD]
   simpa using List.not_of_lt_findIdx h3
 ·by_cases k3:o.kind=3
  ·simp only[k3,show¬(3:Int)=1 by decide,if_false,if_true]
   exact Bc (kZ (f:=fun c=>jD s {c with fields:=fo c.fields o.field o.val} o.subj [119,114,105,116,101]) (g:=fun c:aK=>c.id) fun c=>rfl) _
  ·by_cases k4:o.kind=4
   ·simp only[k4,show¬(4:Int)=1 by decide,show¬(4:Int)=3 by decide,if_false,if_true]
    exact Bc (kZ (f:=fun c=>jD s {c with state:=o.to} o.subj o.to) (g:=fun c:aK=>c.id) fun c=>rfl) _
   grind
theorem OP{k:Nat}{s:an}{o:OpD}(h:dM k s)(hr:bQ s o=0)(hx:iT (ew aS s o).cases o.case<(ew aS s o).cases.length):findD s.cases o.case=iT (ew aS s o).cases o.case:=by rw[←Ji hr];exact Gm (qq o h).asc hx
theorem Kk{t:Txt}(h:(aS t).2.1=0):(aS t).2.2=0:=by
 unfold aS at h⊢;cases hl:sX t with
 |bad e a=>rw[hl]at h;simp only at h;have:=(ze hl).1;omega
 |ok ts=>
  simp only[zv]at h⊢
  grind
end Go.Bf
namespace Go.Proofs.YtokahfmoollblaaGreatDoor
open Go Go.Ab Go.Bf Tryz
variable {g h H:Heap}{S s:an}{k j:Nat}
theorem Kn(c:aK):cO (cq c)=true:=by simp[cq,nO,cO,gI,gL,sZ,bn (f:=bC) (fun _=>rfl),bn (f:=gv) (fun _=>rfl)]
theorem Sj(s:an):Frz g h (bN s) (bN s):=by
 have:=vm (g:=g) (h:=h) (s:=s) (y1:=fO s.cases) (y2:=jR s.reviews) (y3:=ku s.notices) (y4:=dW s.roles) (.pure (by grind [fO,cO,bn,Kn])) (.pure (by simp only[jR,cO];exact bn (fun _=>rfl) _)) (.pure (by simp only[ku,cO];exact bn (fun _=>rfl) _)) (.pure (by simp only[dW,cO];exact bn (fun _=>rfl) _))
 exact aeE
theorem Mf(l:List cE)(q:Perm):Frz g h (.sl (l.map bh) q) (ay l):=.sl _ _ _ rfl ad3 fun i h1 h2 j h3 h4=>by refine .pure ?_;have:cO (l.map bh)[i]=true:=aec;exact nW this _ aea
theorem Be{x:AV}(r:jW)(d:pn)(e:Int)(a:Frz g h x (bN S))(q:Perm):Frz g h (.tup [x,.agg (kH r),.agg (opC d.op++ [.i d.version,aR d.mark,.b d.glass,.sl (d.obls.map bh) q]),.i e]) (j8 (S,r,d,e)):=by
 refine .tup _ _ rfl fun i h1 h2=>?_
 rcases i with _|_|_|_|i
 ·exact a
 ·exact aen
 ·refine .agg _ _ aei fun j h3 h4=>?_
  rcases j with _|_|_|_|_|_|_|_|_|_|_|_|_|_|_|_|j
  ·exact aen
  ·exact aen
  ·exact aen
  ·exact aen
  ·exact aen
  ·exact aen
  ·exact aen
  ·exact aen
  ·exact aen
  ·exact aen
  ·exact aen
  ·exact aen
  ·exact aen
  ·exact aen
  ·exact aen
  ·exact Mf d.obls q
  ·simp[opC]at h3;omega
 ·exact aen
 grind
theorem GSt.put(hG:GSt g H k s j){i:Nat}(hi:i≠k)(hgi:g i≠none)(b:Blk):GSt (upd g i (some b)) (upd H i (some b)) k s j:=by
 obtain⟨y1,y2,y3,y4,hk,ho,hgk,hfr⟩:=hG;refine⟨y1,y2,y3,y4,aeF,(ho.more (g:=upd g i (some b)) fun q hq _=>aeF).keep fun q hq _=>ag _ _ fun e=>?_,aeF,fun q c hq hc=>?_⟩
 ·grind [ah]
 grind [ah,ag]
theorem GSt.at(hG:GSt g H k s j){i:Nat}{b:Blk}(hi:i≠k)(hb:g i=some b):H i=some b:=by
 obtain⟨_,_,_,_,_,_,_,hfr⟩:=hG
 grind
theorem GSt.sub{f:Heap}(hG:GSt g H k s j)(hs:Ab.Sub f g)(hk:f k=none):Ab.Sub f H:=fun i b hi=>by obtain⟨_,_,_,_,_,_,_,hfr⟩:=hG;exact hfr i b ad4 (hs i b hi)
theorem GSt.same{H':Heap}(hG:GSt g H k s j)(hs:Ab.Sub H H'):GSt g H' k s j:=by
 obtain⟨y1,y2,y3,y4,hk,ho,hgk,hfr⟩:=hG;exact⟨y1,y2,y3,y4,hs _ _ hk,ho.keep fun q _ hne=>by
  cases hh:H q with
  |none=>grind
  |some b=>exact hs _ _ hh,hgk,fun i b hi hb=>hs _ _ (hfr i b hi hb)⟩
theorem rP{pid:Txt}{pset:Bool}{palg:Int}{ptgt:gj}{prules:List cS}{pkids:List bF}{pobls:List cE}(hpp:s.policy= .mk pid pset palg ptgt prules pkids pobls)(y1 y2 y3 y4:AV):stC s y1 y2 y3 y4= [.i s.tick,y1,y2,y3,y4,.s pid,.b pset,.i palg,.sl (ptgt.map cB) .no,.sl (prules.map aC) .no,.sl (pkids.map aL) .no,.sl (pobls.map bh) .no,.i s.version]:=by simp[stC,hpp,gw,aQ,aT,ay]
theorem Ni(p:bF):∃a b c d e f g,p= .mk a b c d e f g:=by cases p;simp
theorem jA(s:an)(hG:fM k s)(hk:k≤1000)(o:OpD)(ho:kW o)(h:Heap)(he:kP h):ai prog 10 [bN s,opA o] h fun r h' =>r=j8 (aI s o)∧h' =h:=
 ai.freeze fun g hg _=>by
 replace he:=he.sub hg;obtain⟨pid,pset,palg,ptgt,prules,pkids,pobls,hpp⟩:∃a b c d e f g,s.policy= .mk a b c d e f g:=by cases s.policy;exact⟨_,_,_,_,_,_,_,rfl⟩
 have hst:bN s= .agg [.i s.tick,.sl (s.cases.map cq) .no,.sl (s.reviews.map gA) .no,.sl (s.notices.map kr) .no,.sl (s.roles.map dw) .no,.s pid,.b pset,.i palg,.sl (ptgt.map cB) .no,.sl (prules.map aC) .no,.sl (pkids.map aL) .no,.sl (pobls.map bh) .no,.i s.version]:=by simp[bN,gw,hpp,fO,jR,ku,dW,aQ,aT,ay]
 rw[hst];refine ai.of_wp hU func10 rfl ad7 131 rfl [.cell 4 40,.cell 5 53,.cell 6 55,.tmp 7] rfl (adS rfl) ?_;refine .one hU hm ?_;simp only[go_sem,opA,opC];intro i2 h2;simp only[go_sem];obtain⟨H2,e2⟩:∃H2,upd g i2 (some (.obj [.i s.tick,.sl (s.cases.map cq) .no,.sl (s.reviews.map gA) .no,.sl (s.notices.map kr) .no,.sl (s.roles.map dw) .no,.s pid,.b pset,.i palg,.sl (ptgt.map cB) .no,.sl (prules.map aC) .no,.sl (pkids.map aL) .no,.sl (pobls.map bh) .no,.i s.version] 40))=H2:=⟨_,rfl⟩;have s2:Ab.Sub g H2:=by rw[←e2];exact .ak h2
 have b2:H2 i2=some (.obj [.i s.tick,.sl (s.cases.map cq) .no,.sl (s.reviews.map gA) .no,.sl (s.notices.map kr) .no,.sl (s.roles.map dw) .no,.s pid,.b pset,.i palg,.sl (ptgt.map cB) .no,.sl (prules.map aC) .no,.sl (pkids.map aL) .no,.sl (pobls.map bh) .no,.i s.version] 40):=by rw[←e2,ah]
 have q2:g i2=none:=h2;have sg:Ab.Sub g H2:=s2;rw[e2];clear e2;intro i3 h3;simp only[go_sem];obtain⟨H3,e3⟩:∃H3,upd H2 i3 (some (.obj [.i o.kind,.s o.subj,.s o.case,.s o.field,.s o.to,.i o.val.kind,.i o.val.n,.s o.val.s,.i o.review,.s o.text,.s o.reason,.b o.glass] 46))=H3:=⟨_,rfl⟩;have s3:Ab.Sub H2 H3:=by rw[←e3];exact .ak h3
 have n3_2:i3≠i2:=fun e=>by rw[e,b2]at h3;cases h3
 replace b2:=s3 _ _ b2;have b3:H3 i3=some (.obj [.i o.kind,.s o.subj,.s o.case,.s o.field,.s o.to,.i o.val.kind,.i o.val.n,.s o.val.s,.i o.review,.s o.text,.s o.reason,.b o.glass] 46):=by rw[←e3,ah]
 have q3:g i3=none:=sg.none h3;have sg:Ab.Sub g H3:=sg.trans s3;rw[e3];clear e3;intro i4 h4;simp only[go_sem];obtain⟨H4,e4⟩:∃H4,upd H3 i4 (some (.obj [.i 0,.sl [] .full,.sl [] .full,.sl [] .full,.sl [] .full,.s [],.b false,.i 0,.sl [] .full,.sl [] .full,.sl [] .full,.sl [] .full,.i 0] 40))=H4:=⟨_,rfl⟩;have s4:Ab.Sub H3 H4:=by rw[←e4];exact .ak h4
 have n4_2:i4≠i2:=fun e=>by rw[e,b2]at h4;cases h4
 have n4_3:i4≠i3:=fun e=>by rw[e,b3]at h4;cases h4
 replace b2:=s4 _ _ b2;replace b3:=s4 _ _ b3;have b4:H4 i4=some (.obj [.i 0,.sl [] .full,.sl [] .full,.sl [] .full,.sl [] .full,.s [],.b false,.i 0,.sl [] .full,.sl [] .full,.sl [] .full,.sl [] .full,.i 0] 40):=by rw[←e4,ah]
 have q4:g i4=none:=sg.none h4;have sg:Ab.Sub g H4:=sg.trans s4;rw[e4];clear e4;intro i5 h5;simp only[go_sem];obtain⟨H5,e5⟩:∃H5,upd H4 i5 (some (.obj [.i 0,.v (.complex .f64 0 0),.b false,.i 0,.i 0,.s [],.b false,.i 0] 53))=H5:=⟨_,rfl⟩;have s5:Ab.Sub H4 H5:=by rw[←e5];exact .ak h5
 have n5_2:i5≠i2:=fun e=>by rw[e,b2]at h5;cases h5
 have n5_3:i5≠i3:=fun e=>by rw[e,b3]at h5;cases h5
 have n5_4:i5≠i4:=fun e=>by rw[e,b4]at h5;cases h5
 replace b2:=s5 _ _ b2;replace b3:=s5 _ _ b3;replace b4:=s5 _ _ b4;have b5:H5 i5=some (.obj [.i 0,.v (.complex .f64 0 0),.b false,.i 0,.i 0,.s [],.b false,.i 0] 53):=by rw[←e5,ah]
 have q5:g i5=none:=sg.none h5;have sg:Ab.Sub g H5:=sg.trans s5;rw[e5];clear e5;intro i6 h6;simp only[go_sem];obtain⟨H6,e6⟩:∃H6,upd H5 i6 (some (.obj [.i 0,.s [],.s [],.s [],.s [],.i 0,.i 0,.s [],.i 0,.s [],.s [],.b false,.i 0,.v (.complex .f64 0 0),.b false,.sl [] .full] 55))=H6:=⟨_,rfl⟩;have s6:Ab.Sub H5 H6:=by rw[←e6];exact .ak h6
 have n6_2:i6≠i2:=fun e=>by rw[e,b2]at h6;cases h6
 have n6_3:i6≠i3:=fun e=>by rw[e,b3]at h6;cases h6
 have n6_4:i6≠i4:=fun e=>by rw[e,b4]at h6;cases h6
 have n6_5:i6≠i5:=fun e=>by rw[e,b5]at h6;cases h6
 replace b2:=s6 _ _ b2;replace b3:=s6 _ _ b3;replace b4:=s6 _ _ b4;replace b5:=s6 _ _ b5;have b6:H6 i6=some (.obj [.i 0,.s [],.s [],.s [],.s [],.i 0,.i 0,.s [],.i 0,.s [],.s [],.b false,.i 0,.v (.complex .f64 0 0),.b false,.sl [] .full] 55):=by rw[←e6,ah]
 have q6:g i6=none:=sg.none h6;have sg:Ab.Sub g H6:=sg.trans s6;rw[e6];clear e6;refine WP.ND hU hm 0 (fun(_:Nat) (ρ:Env) (H' :Heap)=>∃(e a:Int),Ab.Sub g H'∧H' i2=some (.obj [.i s.tick,.sl (s.cases.map cq) .no,.sl (s.reviews.map gA) .no,.sl (s.notices.map kr) .no,.sl (s.roles.map dw) .no,.s pid,.b pset,.i palg,.sl (ptgt.map cB) .no,.sl (prules.map aC) .no,.sl (pkids.map aL) .no,.sl (pobls.map bh) .no,.i s.version] 40)∧H' i4=some (.obj [.i 0,.sl [] .full,.sl [] .full,.sl [] .full,.sl [] .full,.s [],.b false,.i 0,.sl [] .full,.sl [] .full,.sl [] .full,.sl [] .full,.i 0] 40)∧H' i5=some (.obj [.i 0,.v (.complex .f64 0 0),.b false,.i 0,.i 0,.s [],.b false,.i 0] 53)∧H' i6=some (.obj [.i 0,.s [],.s [],.s [],.s [],.i 0,.i 0,.s [],.i 0,.s [],.s [],.b false,.i 0,.v (.complex .f64 0 0),.b false,.sl [] .full] 55)∧lk ρ 2=some (.ptr i2 0)∧lk ρ 4=some (.ptr i4 0)∧lk ρ 5=some (.ptr i5 0)∧lk ρ 6=some (.ptr i6 0)∧lk ρ 12=some (.i e)∧lk ρ 13=some (.i a)∧aI s o=(s,⟨e,naM,false,ax,false,a⟩,xX,e)) rfl ?_ ?_
 ·rintro m ρ H' ⟨e,a,sg',b2,b4,b5,b6,r2,r4,r5,r6,r12,r13,hgd⟩
  refine .vc hU hm ?_;simp only[go_sem,r2,r4,r5,r6,r12,r13,b2,b4,b5,b6,aj,n5_4,n5_4.symm,n6_4,n6_4.symm,n6_5,n6_5.symm];refine .mk _ (.refl _) (.refl _) ⟨((sg'.put q4 _).put q5 _).put q6 _,_,?_,rfl⟩;rw[hgd];exact Be (S:=s) ⟨e,naM,false,ax,false,a⟩ xX e (by rw[←hst];exact Sj s) .full
 intro _;refine .one hU hm ?_;simp only[go_sem];intro i8 h8;simp only[go_sem];obtain⟨H8,e8⟩:∃H8,upd H6 i8 (some (.obj [.v (.complex .f64 0 0),.sl [] .full] 96))=H8:=⟨_,rfl⟩;have s8:Ab.Sub H6 H8:=by rw[←e8];exact .ak h8
 have n8_2:i8≠i2:=fun e=>by rw[e,b2]at h8;cases h8
 have n8_3:i8≠i3:=fun e=>by rw[e,b3]at h8;cases h8
 have n8_4:i8≠i4:=fun e=>by rw[e,b4]at h8;cases h8
 have n8_5:i8≠i5:=fun e=>by rw[e,b5]at h8;cases h8
 have n8_6:i8≠i6:=fun e=>by rw[e,b6]at h8;cases h8
 replace b2:=s8 _ _ b2;replace b3:=s8 _ _ b3;replace b4:=s8 _ _ b4;replace b5:=s8 _ _ b5;replace b6:=s8 _ _ b6;have b8:H8 i8=some (.obj [.v (.complex .f64 0 0),.sl [] .full] 96):=by rw[←e8,ah]
 have q8:g i8=none:=sg.none h8;have sg:Ab.Sub g H8:=sg.trans s8;rw[e8];clear e8;refine .one hU hm ?_;simp only[go_sem];intro i9 h9;simp only[go_sem];obtain⟨H9,e9⟩:∃H9,upd H8 i9 (some (.obj [.i 0,.v (.complex .f64 0 0),.b false,.i 0,.i 0,.s [],.b false,.i 0] 53))=H9:=⟨_,rfl⟩;have s9:Ab.Sub H8 H9:=by rw[←e9];exact .ak h9
 have n9_2:i9≠i2:=fun e=>by rw[e,b2]at h9;cases h9
 have n9_3:i9≠i3:=fun e=>by rw[e,b3]at h9;cases h9
 have n9_4:i9≠i4:=fun e=>by rw[e,b4]at h9;cases h9
 have n9_5:i9≠i5:=fun e=>by rw[e,b5]at h9;cases h9
 have n9_6:i9≠i6:=fun e=>by rw[e,b6]at h9;cases h9
 have n9_8:i9≠i8:=fun e=>by rw[e,b8]at h9;cases h9
 replace b2:=s9 _ _ b2;replace b3:=s9 _ _ b3;replace b4:=s9 _ _ b4;replace b5:=s9 _ _ b5;replace b6:=s9 _ _ b6;replace b8:=s9 _ _ b8;have b9:H9 i9=some (.obj [.i 0,.v (.complex .f64 0 0),.b false,.i 0,.i 0,.s [],.b false,.i 0] 53):=by rw[←e9,ah]
 have q9:g i9=none:=sg.none h9;have sg:Ab.Sub g H9:=sg.trans s9;rw[e9];clear e9;refine .one hU hm ?_;simp only[go_sem];intro i10 h10;simp only[go_sem];obtain⟨H10,e10⟩:∃H10,upd H9 i10 (some (.obj [.i 0,.sl [] .full,.sl [] .full,.sl [] .full,.sl [] .full,.s [],.b false,.i 0,.sl [] .full,.sl [] .full,.sl [] .full,.sl [] .full,.i 0] 40))=H10:=⟨_,rfl⟩;have s10:Ab.Sub H9 H10:=by rw[←e10];exact .ak h10
 have n10_2:i10≠i2:=fun e=>by rw[e,b2]at h10;cases h10
 have n10_3:i10≠i3:=fun e=>by rw[e,b3]at h10;cases h10
 have n10_4:i10≠i4:=fun e=>by rw[e,b4]at h10;cases h10
 have n10_5:i10≠i5:=fun e=>by rw[e,b5]at h10;cases h10
 have n10_6:i10≠i6:=fun e=>by rw[e,b6]at h10;cases h10
 have n10_8:i10≠i8:=fun e=>by rw[e,b8]at h10;cases h10
 have n10_9:i10≠i9:=fun e=>by rw[e,b9]at h10;cases h10
 replace b2:=s10 _ _ b2;replace b3:=s10 _ _ b3;replace b4:=s10 _ _ b4;replace b5:=s10 _ _ b5;replace b6:=s10 _ _ b6;replace b8:=s10 _ _ b8;replace b9:=s10 _ _ b9;have b10:H10 i10=some (.obj [.i 0,.sl [] .full,.sl [] .full,.sl [] .full,.sl [] .full,.s [],.b false,.i 0,.sl [] .full,.sl [] .full,.sl [] .full,.sl [] .full,.i 0] 40):=by rw[←e10,ah]
 have q10:g i10=none:=sg.none h10;have sg:Ab.Sub g H10:=sg.trans s10;rw[e10];clear e10;refine .one hU hm ?_;simp only[go_sem];have hrd:=fun G=>ET (rdS G s) o hG.few ho.2.2.2 hG.Ho
 have hpa:=fun(G:Heap) (hs:Ab.Sub g G)=>zw o.text G (he.sub hs)
 rw[hst]at hrd;simp only[opA,opC]at hrd;refine .one hU hm ?_;simp only[go_sem,b2,b3];refine(hrd _).pthen ?_;simp only[go_sem];refine .cut (fun ρ H' =>H' =H10∧lk ρ 2=some (.ptr i2 0)∧lk ρ 3=some (.ptr i3 0)∧lk ρ 4=some (.ptr i4 0)∧lk ρ 5=some (.ptr i5 0)∧lk ρ 6=some (.ptr i6 0)∧lk ρ 8=some (.ptr i8 0)∧lk ρ 9=some (.ptr i9 0)∧lk ρ 10=some (.ptr i10 0)∧lk ρ 11=some (.b false)∧lk ρ 12=some (.v (.int .i64 (kE s o).1))∧lk ρ 13=some (.v (.int .i64 (kE s o).2))) ?_ ?_
 ·refine .vc hU hm ?_
  cases dr:(bQ s o==0)
  ·have er:bQ s o≠0:=by simpa using dr
   have ep:kE s o=(bQ s o,0):=by unfold kE;rw[if_neg fun hh=>er hh.1]
   simp only[go_sem,dr];refine⟨rfl,?_,?_,?_,?_,?_,?_,?_,?_,?_,?_,?_⟩<;>simp only[go_sem,ep]
  have er:bQ s o=0:=by simpa using dr
  cases d7:(o.kind==7)
  ·have e7:o.kind≠7:=by simpa using d7
   have ep:kE s o=(bQ s o,0):=by unfold kE;rw[if_neg fun hh=>e7 hh.2]
   simp only[go_sem,b3,dr,d7];refine⟨rfl,?_,?_,?_,?_,?_,?_,?_,?_,?_,?_,?_⟩<;>simp only[go_sem,ep]
  ·have e7:o.kind=7:=by simpa using d7
   have ep:kE s o=((aS o.text).2.1,(aS o.text).2.2):=by unfold kE;rw[if_pos ⟨er,e7⟩]
   simp only[go_sem,b3,dr,d7];refine(hpa _ sg).pthen ?_;obtain⟨⟨pp,e,a⟩,epp⟩:∃x,aS o.text=x:=⟨_,rfl⟩;rw[epp]at ep;simp only[go_sem,kD,epp];refine⟨rfl,?_,?_,?_,?_,?_,?_,?_,?_,?_,?_,?_⟩<;>simp only[go_sem,ep]
 rintro ρ H' ⟨rfl,r2,r3,r4,r5,r6,r8,r9,r10,r11,r12,r13⟩
 refine .one hU hm ?_;cases de:((kE s o).1 !=0)
 case true=>
  have ee:(kE s o).1≠0:=by simpa using de
  simp only[go_sem,r2,r4,r5,r6,r12,r13,de];exact⟨0,(kE s o).1,(kE s o).2,sg,b2,b4,b5,b6,rfl,rfl,by unfold aI;rw[if_pos ee]⟩
 have ee:(kE s o).1=0:=by simpa using de
 simp only[go_sem,r12,de];obtain⟨hr0,hform,hpar⟩:=uC ee;have hfg:=Lr (I2 hG.todM hform);have hask:=fun G=>RD (rdS G s) o hG.few ho.1
 have hdec:=fun G=>D8 s.policy hG.pol (fN s o) hfg G
 have hm6:=xI (fN s o) s.policy;have hol:=DK (fN s o) hG.mJ;have hmk:gM s o=fL (fN s o) s.policy:=rfl;obtain⟨⟨m,ob⟩,em⟩:∃x,fL (fN s o) s.policy=x:=⟨_,rfl⟩;rw[em]at hdec hm6 hol hmk;simp only at hm6 hol;rw[hpp]at hdec;simp only[aL,aT,ay,aQ,bP,rsA,aR]at hdec;rw[hst]at hask;simp only[opA,opC,bP]at hask;have p2:=(bG (H:=H') (l:=[i2,i3]) (show i2∈ [i2,i3] by simp)).trans b2
 have p3:=(bG (H:=H') (l:=[i2,i3]) (show i3∈ [i2,i3] by simp)).trans b3
 refine .one hU hm ?_;simp only[go_sem];refine .calls (pick H' [i2,i3]) [0,1,2,3,4,5,6,7,8,9,10] bz ad7 rfl ?_;simp only[go_sem,r2,r3,p2,p3];refine(hask _).pthen ?_;refine⟨bz,?_⟩;simp only[go_sem];refine(hdec _).pthen ?_;refine⟨bz,?_⟩;simp only[go_sem,r8,b8];refine⟨bz.put (by simp[pick,n8_2,n8_3]) _,?_⟩
 obtain⟨H11,eH11⟩:∃H11,upd H' i8 (some (.obj [.v (.complex .f64 (hbit m.1) (hbit m.2)),.sl (ob.map bh) .no] 96))=H11:=⟨_,rfl⟩;replace b2:H11 i2=some (.obj [.i s.tick,.sl (s.cases.map cq) .no,.sl (s.reviews.map gA) .no,.sl (s.notices.map kr) .no,.sl (s.roles.map dw) .no,.s pid,.b pset,.i palg,.sl (ptgt.map cB) .no,.sl (prules.map aC) .no,.sl (pkids.map aL) .no,.sl (pobls.map bh) .no,.i s.version] 40):=by rw[←eH11,ag _ _ n8_2.symm];exact b2
 replace b3:H11 i3=some (.obj [.i o.kind,.s o.subj,.s o.case,.s o.field,.s o.to,.i o.val.kind,.i o.val.n,.s o.val.s,.i o.review,.s o.text,.s o.reason,.b o.glass] 46):=by rw[←eH11,ag _ _ n8_3.symm];exact b3
 replace b4:H11 i4=some (.obj [.i 0,.sl [] .full,.sl [] .full,.sl [] .full,.sl [] .full,.s [],.b false,.i 0,.sl [] .full,.sl [] .full,.sl [] .full,.sl [] .full,.i 0] 40):=by rw[←eH11,ag _ _ n8_4.symm];exact b4
 replace b5:H11 i5=some (.obj [.i 0,.v (.complex .f64 0 0),.b false,.i 0,.i 0,.s [],.b false,.i 0] 53):=by rw[←eH11,ag _ _ n8_5.symm];exact b5
 replace b6:H11 i6=some (.obj [.i 0,.s [],.s [],.s [],.s [],.i 0,.i 0,.s [],.i 0,.s [],.s [],.b false,.i 0,.v (.complex .f64 0 0),.b false,.sl [] .full] 55):=by rw[←eH11,ag _ _ n8_6.symm];exact b6
 replace b9:H11 i9=some (.obj [.i 0,.v (.complex .f64 0 0),.b false,.i 0,.i 0,.s [],.b false,.i 0] 53):=by rw[←eH11,ag _ _ n9_8];exact b9
 replace b10:H11 i10=some (.obj [.i 0,.sl [] .full,.sl [] .full,.sl [] .full,.sl [] .full,.s [],.b false,.i 0,.sl [] .full,.sl [] .full,.sl [] .full,.sl [] .full,.i 0] 40):=by rw[←eH11,ag _ _ n10_8];exact b10
 replace b8:H11 i8=some (.obj [.v (.complex .f64 (hbit m.1) (hbit m.2)),.sl (ob.map bh) .no] 96):=by rw[←eH11,ah]
 replace sg:Ab.Sub g H11:=by rw[←eH11];exact sg.put q8 _
 rw[eH11];clear eH11;have hbr:=fun G=>I6 s o m hm6.m9 (by have:=hG.nr;omega) (by have:=hG.roles;omega) hG.tick hG.ticks G
 rw[hst]at hbr;simp only[opA,opC,aR]at hbr;obtain⟨gl,egl⟩:∃gl,tM s o m=gl:=⟨_,rfl⟩;have hgl:fP s o=gl:=by unfold fP;rw[hmk];exact egl
 rw[egl]at hbr;have p2:=(bG (H:=H11) (l:=[i2,i3,i8]) (show i2∈ [i2,i3,i8] by simp)).trans b2
 have p3:=(bG (H:=H11) (l:=[i2,i3,i8]) (show i3∈ [i2,i3,i8] by simp)).trans b3
 have p8:=(bG (H:=H11) (l:=[i2,i3,i8]) (show i8∈ [i2,i3,i8] by simp)).trans b8
 refine .one hU hm ?_;simp only[go_sem];refine .stage (pick H11 [i2,i3,i8]) [0,1,2,3,4,5,7,6] [8,9,10] bz ad7 ?_;simp only[go_sem,r2,r3,r8,r9,p2,p3,p8];refine(hbr _).pthen ?_;refine⟨bz,cX,fun _ _ e=>aet,?_⟩
 simp only[go_sem,r9,b9];refine⟨fun _ _ e=>aet,fun _ _ e=>aet,?_⟩
 obtain⟨H12,eH12⟩:∃H12,upd H11 i9 (some (.obj [.i 0,.v (.complex .f64 (hbit m.1) (hbit m.2)),.b gl,.i 0,.i 0,.s [],.b false,.i 0] 53))=H12:=⟨_,rfl⟩;replace b2:H12 i2=some (.obj [.i s.tick,.sl (s.cases.map cq) .no,.sl (s.reviews.map gA) .no,.sl (s.notices.map kr) .no,.sl (s.roles.map dw) .no,.s pid,.b pset,.i palg,.sl (ptgt.map cB) .no,.sl (prules.map aC) .no,.sl (pkids.map aL) .no,.sl (pobls.map bh) .no,.i s.version] 40):=by rw[←eH12,ag _ _ n9_2.symm];exact b2
 replace b3:H12 i3=some (.obj [.i o.kind,.s o.subj,.s o.case,.s o.field,.s o.to,.i o.val.kind,.i o.val.n,.s o.val.s,.i o.review,.s o.text,.s o.reason,.b o.glass] 46):=by rw[←eH12,ag _ _ n9_3.symm];exact b3
 replace b4:H12 i4=some (.obj [.i 0,.sl [] .full,.sl [] .full,.sl [] .full,.sl [] .full,.s [],.b false,.i 0,.sl [] .full,.sl [] .full,.sl [] .full,.sl [] .full,.i 0] 40):=by rw[←eH12,ag _ _ n9_4.symm];exact b4
 replace b5:H12 i5=some (.obj [.i 0,.v (.complex .f64 0 0),.b false,.i 0,.i 0,.s [],.b false,.i 0] 53):=by rw[←eH12,ag _ _ n9_5.symm];exact b5
 replace b6:H12 i6=some (.obj [.i 0,.s [],.s [],.s [],.s [],.i 0,.i 0,.s [],.i 0,.s [],.s [],.b false,.i 0,.v (.complex .f64 0 0),.b false,.sl [] .full] 55):=by rw[←eH12,ag _ _ n9_6.symm];exact b6
 replace b8:H12 i8=some (.obj [.v (.complex .f64 (hbit m.1) (hbit m.2)),.sl (ob.map bh) .no] 96):=by rw[←eH12,ag _ _ n9_8.symm];exact b8
 replace b10:H12 i10=some (.obj [.i 0,.sl [] .full,.sl [] .full,.sl [] .full,.sl [] .full,.s [],.b false,.i 0,.sl [] .full,.sl [] .full,.sl [] .full,.sl [] .full,.i 0] 40):=by rw[←eH12,ag _ _ n10_9];exact b10
 replace b9:H12 i9=some (.obj [.i 0,.v (.complex .f64 (hbit m.1) (hbit m.2)),.b gl,.i 0,.i 0,.s [],.b false,.i 0] 53):=by rw[←eH12,ah]
 replace sg:Ab.Sub g H12:=by rw[←eH12];exact sg.put q9 _
 rw[eH12];clear eH12;obtain⟨dn,edn⟩:∃dn,(decide (m=bp)||gl)=dn:=⟨_,rfl⟩
 have hdn:tQ s o=dn:=by unfold tQ;rw[hmk,hgl];exact edn
 have pe:=(nb hm6.m9).pe;refine .cut (fun ρ H' =>H' =H12∧lk ρ 2=some (.ptr i2 0)∧lk ρ 3=some (.ptr i3 0)∧lk ρ 4=some (.ptr i4 0)∧lk ρ 5=some (.ptr i5 0)∧lk ρ 6=some (.ptr i6 0)∧lk ρ 8=some (.ptr i8 0)∧lk ρ 9=some (.ptr i9 0)∧lk ρ 10=some (.ptr i10 0)∧lk ρ 11=some (.b dn)∧lk ρ 13=some (.v (.int .i64 (kE s o).2))) ?_ ?_
 ·refine .vc hU hm ?_
  cases dp:(m==bp)
  ·have e1:decide (m=bp)=false:=decide_eq_false (by simpa using dp)
   rw[e1,Bool.false_or]at edn;simp only[go_sem,r8,r9,b8,b9,pe,dp];refine⟨rfl,?_,?_,?_,?_,?_,?_,?_,?_,?_,?_⟩<;>simp only[go_sem,r2,r3,r4,r5,r6,r8,r9,r10,r13,edn]
  ·have e1:decide (m=bp)=true:=decide_eq_true (by simpa using dp)
   rw[e1,Bool.true_or]at edn;simp only[go_sem,r8,b8,pe,dp];refine⟨rfl,?_,?_,?_,?_,?_,?_,?_,?_,?_,?_⟩<;>simp only[go_sem,r2,r3,r4,r5,r6,r8,r9,r10,r13,edn]
 clear r2 r3 r4 r5 r6 r8 r9 r10 r11 r12 r13
 rintro ρ H' ⟨rfl,r2,r3,r4,r5,r6,r8,r9,r10,r11,r13⟩
 have how:=fun G=>OX s hG.few G
 rw[hst]at how;refine .one hU hm ?_;simp only[go_sem,r2,b2];refine(how _).mono fun r H13 ⟨y1,y2,y3,er,hown,hs13⟩=>?_
 subst er;rw[rP hpp];simp only[dW];simp only[go_sem,r10,hs13 _ _ b10];obtain⟨H14,e14⟩:∃H14,upd H13 i10 (some (.obj [.i s.tick,y1,y2,y3,.sl (s.roles.map dw) .no,.s pid,.b pset,.i palg,.sl (ptgt.map cB) .no,.sl (prules.map aC) .no,.sl (pkids.map aL) .no,.sl (pobls.map bh) .no,.i s.version] 40))=H14:=⟨_,rfl⟩;have hS:GSt H' H14 i10 s s.cases.length:=⟨y1,y2,y3,dW s.roles,by rw[←e14,ah,rP hpp];rfl,hown.keep (fun q hq _=>by rw[←e14];exact ag _ _ fun e=>by rw[e,b10]at hq;cases hq),by rw[b10];simp,fun i b hi hb=>by rw[←e14,ag _ _ hi];exact hs13 _ _ hb⟩
 rw[e14];clear e14;have sGB:=sg;have hroom:s.reviews.length≤1000:=hG.nrev;refine .cut (fun ρ H2=>GSt H' H2 i10 (if gl=true then bW s o o.reason else s) s.cases.length∧lk ρ 2=some (.ptr i2 0)∧lk ρ 3=some (.ptr i3 0)∧lk ρ 4=some (.ptr i4 0)∧lk ρ 5=some (.ptr i5 0)∧lk ρ 6=some (.ptr i6 0)∧lk ρ 8=some (.ptr i8 0)∧lk ρ 9=some (.ptr i9 0)∧lk ρ 10=some (.ptr i10 0)∧lk ρ 11=some (.b dn)∧lk ρ 13=some (.v (.int .i64 (kE s o).2))) ?_ ?_
 ·refine .vc hU hm ?_
  have c9:=hS.at n10_9.symm b9;have c3:=hS.at n10_3.symm b3;have hop:=Et hS o o.reason ho.1 ad3;simp only[opA,opC]at hop;cases gl
  ·simp only[go_sem,r9,c9]
   refine⟨hS,?_,?_,?_,?_,?_,?_,?_,?_,?_,?_⟩<;>simp only[go_sem,r2,r3,r4,r5,r6,r8,r9,r10,r11,r13]
  ·simp only[go_sem,r3,r9,r10,c9,c3]
   refine hop.mono fun r H3 h3=>?_
   simp only[go_sem];refine⟨h3,?_,?_,?_,?_,?_,?_,?_,?_,?_,?_⟩<;>simp only[go_sem,r2,r3,r4,r5,r6,r8,r9,r10,r11,r13]
 clear hS r2 r3 r4 r5 r6 r8 r9 r10 r11 r13
 rintro ρ H2 ⟨hS,r2,r3,r4,r5,r6,r8,r9,r10,r11,r13⟩
 have hbd:dF s o=dO (if dn=true then ew aS (if gl=true then bW s o o.reason else s) o else(if gl=true then bW s o o.reason else s)) o ob dn:=by unfold dF;rw[hgl,hdn,hmk]
 have hO1:dM k (if gl=true then bW s o o.reason else s):=by
  split
  ·exact CG o _ hG.todM (by have:=hG.nr;omega)
  ·exact hG.todM
 have hc1:(if gl=true then bW s o o.reason else s).cases=s.cases:=by split<;>rfl
 have hp1:(if gl=true then bW s o o.reason else s).policy= .mk pid pset palg ptgt prules pkids pobls:=by split<;>exact hpp
 have hg1:sA 999 (if gl=true then bW s o o.reason else s):=by
  have h1:=hG.nr;have h2:=hG.nn;have h3:=fun c hc=>(hG.case c hc).log2
  split
  ·exact⟨fun c hc=>by have:=h3 c hc;omega,by simp only[bW,adX,List.length_singleton];omega,by simp only[bW];omega⟩
  ·exact⟨fun c hc=>by have:=h3 c hc;omega,ad3,ad3⟩
 have hr1:bQ (if gl=true then bW s o o.reason else s) o=0:=by
  split
  ·rename_i hgt
   have hgo:=yM hform (DW (hgl.trans hgt));rw[←hr0];unfold bQ;have k5:o.kind≠5:=ad3;have k6:o.kind≠6:=ad3;have k8:o.kind≠8:=ad3;simp only[k5,k6,k8,if_false];rfl
  ·exact hr0
 obtain⟨s1,es1⟩:∃s1,(if gl=true then bW s o o.reason else s)=s1:=⟨_,rfl⟩
 rw[es1]at hS hbd hO1 hc1 hp1 hg1 hr1;have hre:oD s o=⟨if dn=true then 0 else 12,m,gl,if(dn && o.kind==2 && !j9 ob o.field)=true then eV (bx s.cases o.case).fields o.field else ax,dn && o.kind==2 && j9 ob o.field,0⟩:=by unfold oD;rw[hgl,hdn,hmk]
 have hve:=hO1.ver;have b9n:H' i9≠none:=by rw[b9];simp
 refine .cut (fun ρ H3=>lk ρ 2=some (.ptr i2 0)∧lk ρ 3=some (.ptr i3 0)∧lk ρ 4=some (.ptr i4 0)∧lk ρ 5=some (.ptr i5 0)∧lk ρ 6=some (.ptr i6 0)∧lk ρ 8=some (.ptr i8 0)∧lk ρ 9=some (.ptr i9 0)∧lk ρ 10=some (.ptr i10 0)∧lk ρ 11=some (.b dn)∧lk ρ 13=some (.v (.int .i64 (kE s o).2))∧∃(GB:Heap) (j:Nat),GSt GB H3 i10 (if dn=true then ew aS s1 o else s1) j∧Ab.Sub g GB∧(dn=true→iT (if dn=true then ew aS s1 o else s1).cases o.case<(if dn=true then ew aS s1 o else s1).cases.length→o.kind≠6→j=iT (if dn=true then ew aS s1 o else s1).cases o.case)∧GB i2=some (.obj [.i s.tick,.sl (s.cases.map cq) .no,.sl (s.reviews.map gA) .no,.sl (s.notices.map kr) .no,.sl (s.roles.map dw) .no,.s pid,.b pset,.i palg,.sl (ptgt.map cB) .no,.sl (prules.map aC) .no,.sl (pkids.map aL) .no,.sl (pobls.map bh) .no,.i s.version] 40)∧GB i3=some (.obj [.i o.kind,.s o.subj,.s o.case,.s o.field,.s o.to,.i o.val.kind,.i o.val.n,.s o.val.s,.i o.review,.s o.text,.s o.reason,.b o.glass] 46)∧GB i4=some (.obj [.i 0,.sl [] .full,.sl [] .full,.sl [] .full,.sl [] .full,.s [],.b false,.i 0,.sl [] .full,.sl [] .full,.sl [] .full,.sl [] .full,.i 0] 40)∧GB i5=some (.obj [.i 0,.v (.complex .f64 0 0),.b false,.i 0,.i 0,.s [],.b false,.i 0] 53)∧GB i6=some (.obj [.i 0,.s [],.s [],.s [],.s [],.i 0,.i 0,.s [],.i 0,.s [],.s [],.b false,.i 0,.v (.complex .f64 0 0),.b false,.sl [] .full] 55)∧GB i8=some (.obj [.v (.complex .f64 (hbit m.1) (hbit m.2)),.sl (ob.map bh) .no] 96)∧GB i9=some (.obj [.i (if dn=true then 0 else 12),.v (.complex .f64 (hbit m.1) (hbit m.2)),.b gl,.v (.int .i64 (if(dn && o.kind==2 && !j9 ob o.field)=true then eV (bx s.cases o.case).fields o.field else ax).kind),.v (.int .i64 (if(dn && o.kind==2 && !j9 ob o.field)=true then eV (bx s.cases o.case).fields o.field else ax).n),.s (if(dn && o.kind==2 && !j9 ob o.field)=true then eV (bx s.cases o.case).fields o.field else ax).s,.b (dn && o.kind==2 && j9 ob o.field),.i 0] 53)) ?_ ?_
 ·refine .vc hU hm ?_
  have c9:=hS.at n10_9.symm b9;have c3:=hS.at n10_3.symm b3;have c8:=hS.at n10_8.symm b8;have c2:=hS.at n10_2.symm b2;cases dn
  ·simp only[go_sem,r9,r11,c9]
   refine⟨?_,?_,?_,?_,?_,?_,?_,?_,?_,?_,upd H' i9 _,s.cases.length,hS.put n10_9.symm b9n _,sGB.put q9 _,fun e=>aet,aha,ahb,ahc,ahd,ahe,ahf,ah ..⟩<;>simp only[go_sem,r2,r3,r4,r5,r6,r8,r9,r10,r11,r13]
  ·obtain⟨z1,z2,z3,z4,hk10,hrd⟩:=hS.rd
   have sH2:Ab.Sub g H2:=hS.sub sGB q10;have hdo:=LW hrd o hO1.few hO1.mJ ho.2.2.2 hO1.Ho ⟨hve.1,ad3⟩ (he.sub sH2);have hjj:=fun hx (_:o.kind≠6)=>OP (o:=o) hO1 hr1 hx
   rw[rP hp1]at hk10 hdo;simp only[opA,opC]at hdo;simp only[go_sem,r3,r10,r11,hk10,c3];refine hdo.mono fun r H3 ⟨hs3,j,hOS,hj⟩=>?_
   have hj:=hj hr1;obtain⟨x1,x2,x3,x4,er,hOP⟩:=hOS.parts;subst er;obtain⟨did,dset,dalg,dtgt,drules,dkids,dobls,hpd⟩:=Ni (ew aS s1 o).policy;rw[rP hpd];have k10:=hs3 _ _ hk10;obtain⟨H4,e4⟩:∃H4,upd H3 i10 (some (.obj [.v (.int .i64 (ew aS s1 o).tick),x1,x2,x3,x4,.s did,.b dset,.i dalg,.sl (dtgt.map cB) .no,.sl (drules.map aC) .no,.sl (dkids.map aL) .no,.sl (dobls.map bh) .no,.v (.int .i64 (ew aS s1 o).version)] 40))=H4:=⟨_,rfl⟩;have hS4:GSt H' H4 i10 (ew aS s1 o) j:=by
    obtain⟨_,_,_,_,_,_,hgk,hfr⟩:=hS;refine⟨x1,x2,x3,x4,by rw[←e4,ah,rP hpd],(hOP.keep fun q hq _=>by rw[←e4];exact ag _ _ fun e=>by rw[e,hk10]at hq;cases hq).bS fun q hq=>?_,hgk,fun i b hi hb=>by rw[←e4,ag _ _ hi];exact hs3 _ _ (hfr i b hi hb)⟩
    cases hh:H' q with
    |none=>rfl
    |some b=>
     by_cases e:q=i10
     ·rw[e,hk10]at hq;cases hq
     ·rw[hfr q b e hh]at hq;cases hq
   have d9:=hS4.at n10_9.symm b9;have d3:=hS4.at n10_3.symm b3;have d8:=hS4.at n10_8.symm b8;have d2:=hS4.at n10_2.symm b2;have hjx:true=true→iT (ew aS s1 o).cases o.case<(ew aS s1 o).cases.length→o.kind≠6→j=iT (ew aS s1 o).cases o.case:=fun _ hx h6=>hj.trans (hjj hx h6)
   have hhi:=fun G=>Mk ob ad3 o.field G
   simp only[ay]at hhi;have hca:=fun G=>Ci (rdS G s) o.case hG.few
   rw[hst]at hca;have hcf:(bx s.cases o.case).fields.length≤1000000000:=by
    unfold bx;split
    ·by_cases hlt:findD s.cases o.case<s.cases.length
     ·rw[show s.cases.getD (findD s.cases o.case) o9=s.cases[findD s.cases o.case] by simp[List.getD,List.getElem?_eq_getElem hlt]]
      have:=(hG.case _ (adY hlt)).nfields;omega
     ·rw[show s.cases.getD (findD s.cases o.case) o9=o9 by simp[List.getD,List.getElem?_eq_none (Nat.le_of_not_lt hlt)]]
      exact af5
    ·exact af5
   have hfd:=fun G=>DL (rdC G (bx s.cases o.case)) o.field hcf
   simp only[cq,nO,gL,sZ]at hca hfd;simp only[go_sem,r3,r10,k10];rw[e4];clear e4;cases d7:(o.kind==2)
   ·simp only[go_sem,r3,r9,d9,d3,d7,n9_3.symm]
    refine⟨?_,?_,?_,?_,?_,?_,?_,?_,?_,?_,upd H' i9 _,j,hS4.put n10_9.symm b9n _,sGB.put q9 _,(fun _=>hjx rfl),aha,ahb,ahc,ahd,ahe,ahf,ah ..⟩<;>simp only[go_sem,r2,r3,r4,r5,r6,r8,r9,r10,r11,r13]
   ·simp only[go_sem,r3,r8,d3,d8,d7]
    refine(hhi _).pthen ?_;cases hh:j9 ob o.field
    ·simp only[go_sem,r2,r3,r9,d9,d3,d2,d7,n9_2.symm,n9_3.symm]
     refine(hca _).pthen ?_;simp only[go_sem];intro i14 h14;have t9:i14≠i9:=fun e=>by rw[e,ah]at h14;cases h14
     have t3:i14≠i3:=fun e=>by rw[e,ag _ _ n9_3.symm,d3]at h14;cases h14
     simp only[go_sem,r3,d3,n9_3.symm,t3.symm];refine(hfd _).pthen ?_;simp only[go_sem,r9,t9.symm,aV];refine⟨?_,?_,?_,?_,?_,?_,?_,?_,?_,?_,upd (upd H' i9 _) i9 _,j,((hS4.put n10_9.symm b9n _).same (.ak h14)).put n10_9.symm (by rw[ah];simp) _,(sGB.put q9 _).put q9 _,(fun _=>hjx rfl),by rw[ag _ _ n9_2.symm,ag _ _ n9_2.symm];exact b2,by rw[ag _ _ n9_3.symm,ag _ _ n9_3.symm];exact b3,by rw[ag _ _ n9_4.symm,ag _ _ n9_4.symm];exact b4,by rw[ag _ _ n9_5.symm,ag _ _ n9_5.symm];exact b5,by rw[ag _ _ n9_6.symm,ag _ _ n9_6.symm];exact b6,by rw[ag _ _ n9_8.symm,ag _ _ n9_8.symm];exact b8,ah ..⟩<;>simp only[go_sem,r2,r3,r4,r5,r6,r8,r9,r10,r11,r13]
    ·simp only[go_sem,r3,r9,d9,d3,d7,n9_3.symm]
     refine⟨?_,?_,?_,?_,?_,?_,?_,?_,?_,?_,upd H' i9 _,j,hS4.put n10_9.symm b9n _,sGB.put q9 _,(fun _=>hjx rfl),aha,ahb,ahc,ahd,ahe,ahf,ah ..⟩<;>simp only[go_sem,r2,r3,r4,r5,r6,r8,r9,r10,r11,r13]
 clear hS b2 b3 b4 b5 b6 b8 b9 b10 r2 r3 r4 r5 r6 r8 r9 r10 r11 r13
 rintro ρ H3 ⟨r2,r3,r4,r5,r6,r8,r9,r10,r11,r13,GB,j,hS,sG2,hjx,b2,b3,b4,b5,b6,b8,b9⟩
 have hO2:dM (k+1) (if dn=true then ew aS s1 o else s1):=by
  split
  ·exact qq o hO1
  ·exact {hO1 with ver:=⟨hO1.ver.1,by have:=hO1.ver.2;omega⟩}
 obtain⟨s2,es2⟩:∃s2,(if dn=true then ew aS s1 o else s1)=s2:=⟨_,rfl⟩
 rw[es2]at hS hjx hbd hO2;have hdu:=FU hS o ho.1 ob ad3 dn (by have:=hO2.ncases;omega) ⟨fun c hc=>by have:=(hO2.case c hc).log2;omega,hO2.nrev,hO2.nnot⟩ hjx
 rw[←hbd]at hdu;simp only[opA,opC,ay]at hdu;have c3:=hS.at n10_3.symm b3;have c8:=hS.at n10_8.symm b8;refine .one hU hm ?_;simp only[go_sem,r3,r8,r10,r11,c3,c8];refine hdu.mono fun r H4 h4=>?_
 simp only[go_sem];clear c3 c8 hdu hS;have hat:(kE s o).2=0:=by
  unfold kE at ee⊢;split
  ·rename_i hc;rw[if_pos hc]at ee;exact Kk ee
  ·rfl
 have hbl:(dF s o).cases.length≤1000000:=by rw[hbd,yy];have:=hO2.ncases;omega
 obtain⟨x1,x2,x3,x4,k10,hOP,_,_⟩:=id h4;have hov:=M7 hOP.rd hbl;obtain⟨did,dset,dalg,dtgt,drules,dkids,dobls,hpd⟩:=Ni (dF s o).policy;have hfz:∀H5,(∀q,GB q=none→H5 q=H4 q)→Frz g H5 (.agg (stC (dF s o) x1 x2 x3 x4)) (bN (dF s o)):=fun H5 hq=>((hOP.keep fun q hg _=>hq q hg).bS fun q hg=>by
  cases hh:g q with
  |none=>rfl
  |some b=>rw[sG2 _ _ hh]at hg;cases hg).frz
 rw[rP hpd]at k10 hov hfz;have c2:=h4.at n10_2.symm b2;have c3:=h4.at n10_3.symm b3;have c4:=h4.at n10_4.symm b4;have c5:=h4.at n10_5.symm b5;have c6:=h4.at n10_6.symm b6;have c8:=h4.at n10_8.symm b8;have c9:=h4.at n10_9.symm b9;have sg4:Ab.Sub g H4:=h4.sub sG2 q10;refine .one hU hm ?_;simp only[go_sem,r10,k10];refine hov.pthen ?_;cases dov:sE (dF s o)
 case true=>simp only[go_sem,r2,r4,r5,r6,r13];exact⟨0,6,0,sg4,c2,c4,c5,c6,rfl,by rw[hat],by unfold aI;rw[if_neg (by rw[ee];simp),if_pos dov]⟩
 have hgd:aI s o=(dF s o,⟨if dn=true then 0 else 12,m,gl,if(dn && o.kind==2 && !j9 ob o.field)=true then eV (bx s.cases o.case).fields o.field else ax,dn && o.kind==2 && j9 ob o.field,0⟩,⟨o,s.version,m,gl,ob⟩,0):=by unfold aI;rw[if_neg (by rw[ee];simp),if_neg (by rw[dov];decide),hre,hmk,hgl]
 simp only[go_sem];have p2:=(bG (H:=H4) (l:=[i2,i3,i8,i9,i10]) (show i2∈ [i2,i3,i8,i9,i10] by simp)).trans c2
 have p3:=(bG (H:=H4) (l:=[i2,i3,i8,i9,i10]) (show i3∈ [i2,i3,i8,i9,i10] by simp)).trans c3
 have p8:=(bG (H:=H4) (l:=[i2,i3,i8,i9,i10]) (show i8∈ [i2,i3,i8,i9,i10] by simp)).trans c8
 have p9:=(bG (H:=H4) (l:=[i2,i3,i8,i9,i10]) (show i9∈ [i2,i3,i8,i9,i10] by simp)).trans c9
 have p10:=(bG (H:=H4) (l:=[i2,i3,i8,i9,i10]) (show i10∈ [i2,i3,i8,i9,i10] by simp)).trans k10
 have t4:pick H4 [i2,i3,i8,i9,i10] i4=none:=by simp[pick,n4_2,n4_3,n8_4.symm,n9_4.symm,n10_4.symm]
 have t5:pick H4 [i2,i3,i8,i9,i10] i5=none:=by simp[pick,n5_2,n5_3,n8_5.symm,n9_5.symm,n10_5.symm]
 have t6:pick H4 [i2,i3,i8,i9,i10] i6=none:=by simp[pick,n6_2,n6_3,n8_6.symm,n9_6.symm,n10_6.symm]
 refine .one hU hm ?_;simp only[go_sem];refine .calls (pick H4 [i2,i3,i8,i9,i10]) [0,1,2,3,4,5,6,7,8,9,10,11,12,13,14,15] bz ad7 rfl ?_;simp only[go_sem,r2,r3,r4,r5,r6,r8,r9,r10,p2,p3,p8,p9,p10,c4,c5,c6,n5_4,n5_4.symm,n6_4,n6_4.symm,n6_5,n6_5.symm];refine⟨bz.put t4 _,(bz.put t4 _).put t5 _,((bz.put t4 _).put t5 _).put t6 _,?_⟩;refine .mk _ (.refl _) (.refl _) ⟨((sg4.put q4 _).put q5 _).put q6 _,_,?_,rfl⟩;rw[hgd,←rP hpd];exact Be (S:=dF s o) ⟨if dn=true then 0 else 12,m,gl,if(dn && o.kind==2 && !j9 ob o.field)=true then eV (bx s.cases o.case).fields o.field else ax,dn && o.kind==2 && j9 ob o.field,0⟩ ⟨o,s.version,m,gl,ob⟩ 0 (by
  rw[rP hpd];exact hfz _ fun q hq=>by
   have x6:q≠i6:=fun e=>by rw[e,b6]at hq;cases hq
   have x5:q≠i5:=fun e=>by rw[e,b5]at hq;cases hq
   have x4:q≠i4:=fun e=>by rw[e,b4]at hq;cases hq
   rw[ag _ _ x6,ag _ _ x5,ag _ _ x4]) .no
end Go.Proofs.YtokahfmoollblaaGreatDoor
namespace Go.Ab
open Go
theorem Qb(n:Nat)(hn:n<18446744073709551616):IntKind.u64.wrap (n:Int)=n:=Ra .u64 n rfl ahJ
theorem Wt(n:Int):IntKind.u64.wrap n=((n % 18446744073709551616).toNat:Int):=by grind [Int.emod_nonneg,Int,IntKind.wrap,IntKind.signed,IntKind.bits]
theorem Rb(n:Nat):IntKind.u64.wrap (n:Int)=((n % 18446744073709551616:Nat):Int):=by rfl
theorem FF(a b:Nat)(f:BitVec 64→BitVec 64→BitVec 64):IntKind.u64.wrap (((f (BitVec.ofInt IntKind.u64.bits (a:Int)) (BitVec.ofInt IntKind.u64.bits (b:Int))).toNat:Nat):Int)=((f (BitVec.ofNat 64 a) (BitVec.ofNat 64 b)).toNat:Int):=by exact Qb _ (f _ _).isLt
theorem Px(a b k:Nat)(ha:a<2 ^ k)(hlt:a+b*2 ^ k<18446744073709551616):(BitVec.ofNat 64 a|||BitVec.ofNat 64 (b*2 ^ k)).toNat=a+b*2 ^ k:=by exact aiZ
theorem Pq(n:Nat)(hn:n<18446744073709551616):(BitVec.ofNat 64 18446744073709551615 ^^^ BitVec.ofNat 64 n).toNat=18446744073709551615 - n:=by
 have e:BitVec.ofNat 64 18446744073709551615 ^^^ BitVec.ofNat 64 n= ~~~ BitVec.ofNat 64 n:=by rfl
 rw[e,BitVec.toNat_not,BitVec.toNat_ofNat,Nat.mod_eq_of_lt ad3]
section
variable {U : TypeId → TI} {ty : TypeId} {K : AV → Prop}
@[go_sem high] theorem XJ(n:Nat)(hn:n<18446744073709551616):unA .xor (.v (.int .u64 (n:Int))) K=K (.v (.int .u64 ((18446744073709551615 - n:Nat):Int))):=by
 have h:=(FF 18446744073709551615 n (· ^^^ ·)).trans (congrArg (fun z:Nat=>(z:Int)) (Pq n hn))
 exact(xV ..).trans (congrArg (fun z=>K (.v (.int .u64 z))) h)
@[go_sem high] theorem Xi(n:Int)(h1: -9223372036854775808≤n)(h2:n≤9223372036854775807):unA .xor (.i n) K=K (.i (-n - 1)):=by
 have e:(BitVec.ofInt 64 (-1) ^^^ BitVec.ofInt 64 n)= ~~~ BitVec.ofInt 64 n:=by rfl
 have e2:(((BitVec.ofInt 64 (-1) ^^^ BitVec.ofInt 64 n).toNat:Nat):Int)=(-n - 1) % 18446744073709551616:=by grind [BitVec.toNat_not,BitVec.ofInt,BitVec.toNat_ofInt]
 have h:IntKind.i64.wrap (((BitVec.ofInt 64 (-1) ^^^ BitVec.ofInt 64 n).toNat:Nat):Int)= -n - 1:=by grind [IntKind.wrap,IntKind.signed,IntKind.bits]
 exact(xV ..).trans (congrArg (fun z=>K (.i z)) h)
theorem u64_and(n k:Nat)(hn:n<18446744073709551616)(hk:k≤63):cw U .and ty (.v (.int .u64 (n:Int))) (.v (.int .u64 ((2 ^ k - 1:Nat):Int))) K=K (.v (.int .u64 ((n % 2 ^ k:Nat):Int))):=by
 have h63:2 ^ k≤2 ^ 63:=Nat.pow_le_pow_right ad6 hk;have e:(BitVec.ofNat 64 n &&& BitVec.ofNat 64 (2 ^ k - 1)).toNat=n % 2 ^ k:=by grind [BitVec.toNat_and,BitVec.toNat_ofNat,Nat.mod_eq_of_lt,Nat.and_two_pow_sub_one_eq_mod]
 have h:=(FF n (2 ^ k - 1) (· &&& ·)).trans (congrArg (fun z:Nat=>(z:Int)) e)
 exact(Lv ..).trans (congrArg (fun z=>K (.v (.int .u64 z))) h)
@[go_sem high] theorem u64_or(a b k:Nat)(ha:a<2 ^ k)(hlt:a+b*2 ^ k<18446744073709551616):cw U .or ty (.v (.int .u64 (a:Int))) (.v (.int .u64 ((b*2 ^ k:Nat):Int))) K=K (.v (.int .u64 ((a+b*2 ^ k:Nat):Int))):=by
 have h:=(FF a (b*2 ^ k) (· ||| ·)).trans (congrArg (fun z:Nat=>(z:Int)) (Px a b k ha hlt))
 exact(UX ..).trans (congrArg (fun z=>K (.v (.int .u64 z))) h)
theorem CV(n k:Nat)(kk:IntKind)(hk:k≤63):cw U .shr ty (.v (.int .u64 (n:Int))) (.v (.int kk (k:Int))) K=K (.v (.int .u64 ((n / 2 ^ k:Nat):Int))):=by grind [Lw,min,Int,IntKind.bits,Int.fdiv_eq_ediv_of_nonneg,Int.le_of_lt,Int.pow_pos]
@[go_sem high] theorem P6(n k:Nat)(kk:IntKind)(hk:k≤63):cw U .shl ty (.v (.int .u64 (n:Int))) (.v (.int kk (k:Int))) K=K (.v (.int .u64 ((n*2 ^ k % 18446744073709551616:Nat):Int))):=by
 rw[Qr];have:min (k:Int).toNat IntKind.u64.bits=k:=ahJ;rw[this,show((n:Int)*2 ^ k)=((n*2 ^ k:Nat):Int) by simp,Rb]
 exact propext ⟨fun h=>h.2,fun h=>⟨Int.natCast_nonneg k,h⟩⟩
@[go_sem high] theorem Wc(m:Nat):cw U .shl ty (.v (.int .u64 (m:Int))) (.v (.int .u64 1)) K=K (.v (.int .u64 ((m*2 % 18446744073709551616:Nat):Int))):=P6 m 1 .u64 ad6
@[go_sem high] theorem Wd(m:Nat):cw U .shr ty (.v (.int .u64 (m:Int))) (.v (.int .u64 1)) K=K (.v (.int .u64 ((m / 2:Nat):Int))):=CV m 1 .u64 ad6
@[go_sem high] theorem We(m:Nat):cw U .shr ty (.v (.int .u64 (m:Int))) (.v (.int .u64 7)) K=K (.v (.int .u64 ((m / 128:Nat):Int))):=CV m 7 .u64 ad6
@[go_sem high] theorem Wg(m:Nat):cw U .shr ty (.v (.int .u64 (m:Int))) (.v (.int .u64 8)) K=K (.v (.int .u64 ((m / 256:Nat):Int))):=CV m 8 .u64 ad6
@[go_sem high] theorem Wb(m:Nat)(hm:m<18446744073709551616):cw U .and ty (.v (.int .u64 (m:Int))) (.v (.int .u64 1)) K=K (.v (.int .u64 ((m % 2:Nat):Int))):=u64_and m 1 hm ad6
@[go_sem high] theorem Tf(m:Nat)(hm:m<18446744073709551616):cw U .and ty (.v (.int .u64 (m:Int))) (.v (.int .u64 127)) K=K (.v (.int .u64 ((m % 128:Nat):Int))):=u64_and m 7 hm ad6
@[go_sem high] theorem Tg(m:Nat)(hm:m<18446744073709551616):cw U .and ty (.v (.int .u64 (m:Int))) (.v (.int .u64 255)) K=K (.v (.int .u64 ((m % 256:Nat):Int))):=u64_and m 8 hm ad6
@[go_sem high] theorem KR(m:Nat)(hm:m<128):cw U .or ty (.v (.int .u64 (m:Int))) (.v (.int .u64 128)) K=K (.v (.int .u64 ((m+128:Nat):Int))):=u64_or m 1 7 hm ad3
theorem wu8(n:Nat):IntKind.u8.wrap (n:Int)=((UInt8.ofNat n).toNat:Int):=by rfl
@[go_sem high] theorem UC(c:UInt8):cw U .and ty (.v (.int .u8 (c.toNat:Int))) (.v (.int .u8 127)) K=K (.v (.int .u8 ((c.toNat % 128:Nat):Int))):=by
 have hc:=c.toNat_lt;have e:(BitVec.ofNat 8 c.toNat &&& BitVec.ofNat 8 127).toNat=c.toNat % 128:=by rw[BitVec.toNat_and,BitVec.toNat_ofNat,BitVec.toNat_ofNat,Nat.mod_eq_of_lt ad3,Nat.mod_eq_of_lt ad3];exact Nat.and_two_pow_sub_one_eq_mod c.toNat 7
 have h:IntKind.u8.wrap (((BitVec.ofInt IntKind.u8.bits (c.toNat:Int) &&& BitVec.ofInt IntKind.u8.bits 127).toNat:Nat):Int)=((c.toNat % 128:Nat):Int):=by grind [IntKind.wrap,IntKind.signed,IntKind.bits]
 exact(Lv ..).trans (congrArg (fun z=>K (.v (.int .u8 z))) h)
end
end Go.Ab
namespace Go.Proofs.YtokahfmoollblaaGreatDoor
open Go Go.Ab Go.Bf Tryz
variable {g h h0 H h':Heap}{y R:AV}{l p:Txt}{f:FuncId}{args cs:List AV}{Q:AV→Heap→Prop}{s s':RS}{a k n:Nat}{lo hi most:Int}{o:OpD}{ds:List pn}{sp S spl spj:List Nat}{d:D}{P:Program}{ρ:Env}{e e1:cI}
abbrev lM(h h' :Heap)(y:AV)(l:Txt):Prop:=Acc U 5 h h' y (l.map aN)
theorem u5n:(U 5).sz≠0:=ad6
theorem YL:(U 5).bytes≠0:=ad6
theorem lM.frz(ha:lM g h y l):Frz g h y (.sl (l.map aN) .no):=by
 obtain⟨q,rfl⟩:=Acc.row ha;refine .sl _ _ _ rfl ad3 fun i h1 h2 j h3 h4=> .keep _ ?_
 simp only[adU,aN,AV.cells,List.getElem_singleton];exact agh
theorem lM.pure(hf:∀g,Ab.Sub h g→ai prog f args g fun r h' =>lM g h' r l):ai prog f args h fun r h' =>r= .sl (l.map aN) .no∧h' =h:=
 ai.freeze fun g hg _=>(hf g hg).mono fun r h' hr=>⟨hr.1,_,lM.frz hr,rfl⟩
theorem lM.app{v:AV}{m:Txt}(ha:lM g h y l)(hsrc:∀k:List AV→Prop,k (m.map aN)→iP U 5 h v k)(hlen:l.length+m.length≤140737488355328)
  (hk:∀y' h',lM g h' y' (l++m)→Q y' h'):apK U h y v Q (.slice 5):=
 Acc.app ha u5n YL hsrc (by grind [u5,jK]) (by grind [u5,jK]) (by grind [Te]) fun y' h' hy _=>hk y' h' ad4
theorem AY(y:AV)(l:Txt)(h:Heap)(hb:By h y l)(hl:l.length≤140737488355328):
  ai prog 55 [y] h fun r h' =>lM h h' r l:=by
 refine ad2 func55 8 [.tmp 2] fun hwf=>?_
 simp only[go_sem];refine hb.SF fun b hbn=>?_
 simp only[go_sem];refine nF.intro (fun e=>?_) (fun e=>?_)
 ·have hl0:l= []:=Classical.byContradiction fun hh=>by grind
  subst hl0;simp only[go_sem];exact .same (.refl _) (Acc.full (.refl _))
 ·simp only[go_sem]
  rw[hb.src u5];simp only[go_sem];refine⟨ad3,fun hn=>?_,fun hn=>?_⟩
  ·have hl0:l= []:=by simp_all
   subst hl0;simp only[go_sem];exact .same (.refl _) (Acc.full (.refl _))
  ·refine .own fun id hid=>?_
   simp only[go_sem];exact .same (.refl _) ⟨(Ab.Sub.refl h).new hid _,.inr ⟨id,hid,rfl,by rw[ah,u5,adT]⟩⟩
theorem Tq(n:Int)(hn:i64 n):∃m:Nat,IntKind.u64.wrap n=(m:Int)∧m<18446744073709551616∧(0≤n→m*2 % 18446744073709551616=zig n)∧(n<0→18446744073709551615 - m*2 % 18446744073709551616=zig n):=by
 unfold i64 at hn;refine⟨(n % 18446744073709551616).toNat,Wt n,ad3,fun h=>?_,fun h=>?_⟩<;>unfold zig
 ·grind
 grind
theorem Io(y:AV)(l:Txt)(n:Int)(h:Heap)(hb:By h y l)(hl:l.length≤1000000)(hn:i64 n):
  ai prog 182 [y,.i n] h fun r h' =>lM h h' r (l++iU n):=by
 obtain⟨m,hm0,hm2,hm3,hm4⟩:=Tq n hn;have hz:=N8 hn;have hz64:=Ft hn;refine ai.of_wp hU func182 rfl aei 32 rfl [.tmp 4] rfl (adS rfl) ?_;refine .cut (fun ρ g=>g=h∧lk ρ 0=some y∧lk ρ 1=some (.i n)) (.vc hU hm ?_) ?_
 ·simp only[go_sem]
  refine⟨rfl,?_,?_⟩<;>simp only[go_sem]
 rintro ρ g ⟨rfl,r0,r1⟩
 refine .cut (fun ρ g' =>g' =g∧lk ρ 0=some y∧lk ρ 1=some (.i n)∧lk ρ 5=some (.v (.int .u64 ((m*2 % 18446744073709551616:Nat):Int)))) (.vc hU hm ?_) ?_
 ·simp only[go_sem,r0,r1,hm0]
  refine⟨rfl,?_,?_,?_⟩<;>simp only[go_sem,r0,r1]
 clear r0 r1
 rintro ρ g' ⟨rfl,r0,r1,r5⟩
 refine .cut (fun ρ g=>g=g'∧lk ρ 0=some y∧lk ρ 5=some (.v (.int .u64 ((zig n:Nat):Int)))) (.vc hU hm ?_) ?_
 ·cases d1:decide (n<0)
  ·have h0:=adW d1
   simp only[go_sem,r0,r1,r5,d1,hm3 ad3];rw[←hm3 ad3]at*;refine⟨rfl,?_,?_⟩<;>simp only[go_sem,r0,r5]
  ·have h0:=adV d1
   simp only[go_sem,r0,r1,r5,d1,hm4 h0,show m*2 % 18446744073709551616<18446744073709551616 from ad3]
   refine⟨rfl,?_,?_⟩<;>simp only[go_sem,r0]
 clear r0 r1 r5 hm3 hm4
 rintro ρ g ⟨rfl,r0,r5⟩
 refine .vc hU hm ?_;simp only[go_sem,r0,r5];refine(AY y l g hb ad3).mono fun r h1 ha=>?_
 simp only[go_sem,r0,r5];refine .intro (fun k ρ h' =>∃(v:Nat) (o:Txt) (z:AV),lM g h' z (l++o)∧o++o8 k v=iU n∧v<128 ^ k∧v<18446744073709551616∧0<k∧o.length≤10∧lk ρ 5=some (.v (.int .u64 (v:Int)))∧lk ρ 6=some z) 10 ?_ ?_
 ·refine⟨zig n,[],r,ad4,rfl,hz,hz64,ad6,aea,?_,?_⟩<;>simp only[go_sem,r5]
 clear r0 r5
 rintro k ρ h' ⟨v,o,z,ha,ho,hv,hv64,hk,hol,r5,r6⟩
 obtain⟨k,rfl⟩:∃j,k=j+1:=⟨k - 1,ad3⟩;have hlo:=congrArg List.length ho;rw[adX]at hlo;have hnl:=iV n;cases d1:decide ((128:Int)≤(v:Int))
 ·have h0:=adW d1
  have e:o8 (k+1) v= [UInt8.ofNat v]:=by unfold o8;grind
  simp only[go_sem,r5,r6,d1,wu8];refine lM.app ha (m:=[UInt8.ofNat v]) (fun _ hk=>hk) ad4 fun z' h2 ha' =>?_
  simp only[go_sem];refine .same (.refl _) ?_;rw[←ho,e,←List.append_assoc];exact ha'
 ·have h0:=adV d1
  have e:o8 (k+1) v=UInt8.ofNat (v % 128+128)::o8 k (v / 128):=by conv=>lhs;unfold o8;rw[if_neg ad3]
  rw[e]at hlo ho;simp only[List.length_cons]at hlo;have hk1:0<k:=by grind
  simp only[go_sem,r5,r6,d1,hv64,KR _ (Nat.mod_lt v (show 128>0 by decide)),wu8]
  refine lM.app ha (m:=[UInt8.ofNat (v % 128+128)]) (fun _ hk=>hk) ad4 fun z' h2 ha' =>?_
  simp only[go_sem,r5];refine⟨k,ad3,v / 128,o++ [UInt8.ofNat (v % 128+128)],z',?_,?_,?_,ad3,hk1,?_,?_,?_⟩
  ·grind
  ·grind
  ·omega
  ·grind
  ·rfl
  rfl
theorem CD(y:AV)(l:Txt)(n:Int)(h:Heap)(hb:By h y l)(hl:l.length≤1000000)(hn:i64 n):
  ai prog 182 [y,.i n] h fun r h' =>r= .sl ((l++iU n).map aN) .no∧h' =h:=
 lM.pure fun g hg=>Io y l n g (hb.sub hg) hl hn
theorem NL(y:AV)(l s:Txt)(h:Heap)(hb:By h y l)(hl:l.length≤1000000)(hs:s.length≤1000000):
  ai prog 183 [y,.s s] h fun r h' =>lM h h' r (l++dI s):=by
 have hn:i64 (s.length:Int):=⟨ad3,ad3⟩;refine ad2 func183 11 [.tmp 4] fun hwf=>?_
 simp only[go_sem];refine(Io y l s.length h hb hl hn).mono fun r h' ha=>?_
 simp only[go_sem];have hnl:=iV s.length;refine lM.app ha (m:=s) (fun _ hk=>(S1 ..).mpr ⟨aei,u5,hk⟩) ad4 fun z' h2 ha' =>?_
 simp only[go_sem];refine .same (.refl _) ?_;unfold dI;rw[←List.append_assoc];exact ha'
theorem xU(y:AV)(l s:Txt)(h:Heap)(hb:By h y l)(hl:l.length≤1000000)(hs:s.length≤1000000):
  ai prog 183 [y,.s s] h fun r h' =>r= .sl ((l++dI s).map aN) .no∧h' =h:=
 lM.pure fun g hg=>NL y l s g (hb.sub hg) hl hs
theorem Ix(y:AV)(l:Txt)(v:bB)(h:Heap)(hb:By h y l)(hl:l.length≤900000)(hk:i64 v.kind)(hn:i64 v.n)(hs:v.s.length≤1000000):
  ai prog 184 [y,aV v] h fun r h' =>r= .sl ((l++oH v).map aN) .no∧h' =h:=by
 have hnl:=iV v.kind;have hl2:(l++iU v.kind).length≤1000000:=ad4;refine ad2 func184 20 [.tmp 4] fun hwf=>?_
 simp only[go_sem,aV];intro id hid;simp only[go_sem];refine(CD y l v.kind _ (hb.new hid) ad3 hk).pthen ?_;simp only[go_sem];refine(zZ v.kind _).pthen ?_;simp only[go_sem];cases d1:(v.kind==3||v.kind==5)
 ·have e:¬(v.kind=3∨v.kind=5):=by grind
  simp only[go_sem];refine(CD (.sl ((l++iU v.kind).map aN) .no) (l++iU v.kind) v.n _ (.sl _ _) hl2 hn).pthen ?_;simp only[go_sem];refine .mk _ (.refl _) (.ak hid) ⟨?_,rfl⟩;unfold oH;rw[if_neg e,List.append_assoc];rfl
 ·have e:v.kind=3∨v.kind=5:=by grind
  simp only[go_sem];refine(xU (.sl ((l++iU v.kind).map aN) .no) (l++iU v.kind) v.s _ (.sl _ _) hl2 hs).pthen ?_;simp only[go_sem];refine .mk _ (.refl _) (.ak hid) ⟨?_,rfl⟩;unfold oH;rw[if_pos e,List.append_assoc];rfl
theorem Ff(b:Bool)(h:Heap):ai prog 179 [.b b] h fun r h' =>r=aV (dR b)∧h' =h:=by
 refine ad2 func179 8 [.cell 2 44] fun hwf=>?_
 simp only[go_sem];intro i1 h1;simp only[go_sem];intro i2 h2;have hne:=aF h2;have n2:=aB h2;cases b
 ·exact ajx
 ·exact ajx
def RO(s:RS):Blk:=.obj [.sl (s.b.map aN) .no,.i (s.at_:Int),.b s.bad] 314
def WfR(s:RS):Prop:=s.at_≤s.b.length∧s.b.length≤1000000
def RC(f:FuncId)(args:List AV)(s:RS)(R:AV)(s' :RS):Prop:=∀(h:Heap) (id:Nat),h id=some (RO s)→ai prog f (.ptr id 0::args) h fun r h' =>r=R∧h' =upd h id (some (RO s'))
theorem RC.go(hc:RC f args s R s'){id:Nat}(hid:h id=some (RO s))(k:Q R (upd h id (some (RO s')))):ai prog f (.ptr id 0::args) h Q:=
 (hc h id hid).mono fun r h' ⟨e1,e2⟩=>agD
theorem zF(h:WfR s):WfR (mB s a):=by
 unfold mB;split
 ·rename_i hc
  exact⟨by have:=h.1;show a≤s.b.length;omega,h.2⟩
 omega
theorem zG:∀(f i u:Nat) (l:Txt),(rI f i u l).2≤i+l.length∧((rI f i u l).2=0∨i<(rI f i u l).2)
 |0,_,_,_=>⟨Nat.zero_le _,.inl rfl⟩
 |_+1,_,_,[]=>⟨Nat.zero_le _,.inl rfl⟩
 |f+1,i,u,c::r=>by
  unfold rI;split
  ·omega
  ·split
   ·simp
   ·obtain⟨h1,h2⟩:=zG f (i+1) (u+c.toNat % 128*128 ^ i) r
    grind
theorem mq(h:WfR s):WfR (rIn s lo hi).2:=by
 unfold rIn;split
 ·exact h
 ·simp only
  split
  ·exact zF h
  ·have:=(zG 10 0 0 (s.b.drop s.at_)).1
   exact⟨ad4,h.2⟩
theorem pL(s:RS)(a:Nat):RC 227 [.i (a:Int)] s (.tup []) (mB s a):=fun h id hid=>by
 refine ad2 func227 28 [] fun hwf=>?_
 have g:=hid;have d0:decide ((0:Int)≤(a:Int))=true:=decide_eq_true ad3;unfold RO at g;cases d1:s.bad
 ·rw[d1]at g
  cases d2:decide ((a:Int)≤(s.at_:Int))
  ·have h2:=adW d2
   simp only[go_sem,g,d0,d2];exact .mk _ (.refl _) (.refl _) ⟨rfl,by simp_all [mB,if_neg,bL]⟩
  ·have h2:=adV d2
   simp only[go_sem,g,d0,d2];exact .mk _ (.refl _) (.refl _) ⟨rfl,by rw[mB,if_pos ⟨d1,ad3⟩];rfl⟩
 ·rw[d1]at g
  simp only[go_sem,g];exact .mk _ (.refl _) (.refl _) ⟨rfl,by simp_all [mB,if_neg,bL]⟩
theorem Lt(s:RS):RC 228 [] s (.i (s.at_:Int)) s:=fun h id hid=>by
 refine ad2 func228 7 [.tmp 2] fun hwf=>?_
 have g:=hid;unfold RO at g;simp only[go_sem,g];exact agJ
theorem Aj(s:RS):RC 230 [] s (.i (if s.bad then 7 else 0)) s:=fun h id hid=>by
 refine ad2 func230 7 [.tmp 2] fun hwf=>?_
 have g:=hid;unfold RO at g;cases d1:s.bad<;>rw[d1]at g<;>simp only[go_sem,g]<;>exact .mk _ (.refl _) (.refl _) ⟨rfl,(bL hid).symm⟩
theorem Se(s:RS):RC 180 [] s (.i (if Kq s then 0 else 7)) s:=fun h id hid=>by
 refine ad2 func180 15 [.tmp 2] fun hwf=>?_
 have g:=hid;unfold RO at g;cases d1:decide ((s.at_:Int)<(s.b.length:Int))
 ·have h1:=adW d1
  simp only[go_sem,g,adT,d1];refine⟨.of ad7,?_⟩;refine(Aj s).go hid ?_;rw[bL hid];simp only[go_sem];refine .mk _ (.refl _) (.refl _) ⟨?_,rfl⟩;unfold Kq;rw[decide_eq_true (show s.b.length≤s.at_ by omega)]
  cases s.bad<;>rfl
 ·have h1:=adV d1
  simp only[go_sem,g,adT,d1];refine⟨.of ad7,?_⟩;refine .mk _ (.refl _) (.refl _) ⟨?_,(bL hid).symm⟩;unfold Kq;rw[decide_eq_false (show¬s.b.length≤s.at_ by omega)]
  rfl
theorem PG(y:AV)(l:Txt)(h:Heap)(hb:By h y l)(hl:l.length≤1000000):
  ai prog 174 [y] h fun r h' =>∃id,h id=none∧r= .ptr id 0∧h' =upd h id (some (RO ⟨l,0,false⟩)):=by
 refine ad2 func174 7 [.tmp 2] fun hwf=>?_
 simp only[go_sem];refine(lM.pure fun g hg=>AY y l g (hb.sub hg) ad3).pthen ?_
 simp only[go_sem];intro id hid;simp only[go_sem];exact .mk _ (.refl _) (.refl _) ⟨id,hid,rfl,rfl⟩
theorem Kc(s:RS)(hw:WfR s)(h:Heap)(id:Nat)(hid:h id=some (RO s)):
  ai prog 266 [.ptr id 0] h fun r h' =>r= .tup [.v (.int .i64 (rI 10 0 0 (s.b.drop s.at_)).1),.i ((rI 10 0 0 (s.b.drop s.at_)).2:Nat)]∧h' =h:=by
 refine ad2 func266 74 [.tmp 2,.tmp 3] fun hwf=>?_
 have hw1:=hw.1;have hw2:=hw.2;have g:=hid;unfold RO at g;simp only[go_sem];generalize hx:rI 10 0 0 (s.b.drop s.at_)=x;refine .intro (fun k ρ h' =>h' =h∧∃(i u:Nat),k+i=10∧rI k i u (s.b.drop (s.at_+i))=x∧u<128 ^ i∧lk ρ 0=some (.ptr id 0)∧lk ρ 4=some (.v (.int .u64 (u:Int)))∧lk ρ 5=some (.i (i:Int))) 10 ?_ ?_
 ·refine⟨rfl,0,0,rfl,hx,ad6,?_,?_,?_⟩<;>simp only[go_sem]
  all_goals rfl
 rintro k ρ h' ⟨rfl,i,u,hki,hr,hu,r0,r4,r5⟩
 rcases k with _|k
 ·have d1:decide ((i:Int)<10)=false:=decide_eq_false ad3
  simp only[go_sem,r0,r4,r5,d1];exact⟨.of ad7,.mk _ (.refl _) (.refl _) ⟨af8,rfl⟩⟩
 have d1:decide ((i:Int)<10)=true:=decide_eq_true ad3;have w1:IntKind.i64.wrap ((s.at_:Int)+(i:Int))=((s.at_+i:Nat):Int):=aeA;have w2:=adZ i ad3
 by_cases hc:s.at_+i<s.b.length
 case neg=>have d2:decide (((s.at_+i:Nat):Int)<(s.b.length:Int))=false:=decide_eq_false ad3;simp only[go_sem,r0,r4,r5,d1,g,w1,adT,d2];rw[List.drop_eq_nil_of_le ad3]at hr;exact⟨.of ad7,.mk _ (.refl _) (.refl _) ⟨af8,rfl⟩⟩
 have d2:decide (((s.at_+i:Nat):Int)<(s.b.length:Int))=true:=decide_eq_true ad3;rw[List.drop_eq_getElem_cons hc]at hr;generalize hcc:s.b[s.at_+i]=c at hr;simp only[go_sem,r0,r4,r5,d1,g,w1,adT,d2];refine⟨.of ad7,.of ad7,?_⟩;refine .at (s.at_+i) (by simpa using hc) aec ?_
 simp only[go_sem,r0,r4,r5,adU,hcc,aN];have hclt:=c.toNat_lt;have pw:(2:Nat) ^ (7*i)=128 ^ i:=by rw[Nat.pow_mul]
 have p9:(128:Nat) ^ 9=9223372036854775808:=ad6;unfold rI at hr
 by_cases hb:(i=9∧1<c.toNat)∨(0<i∧c.toNat=0)
 ·rw[if_pos hb]at hr
  by_cases h9:i=9∧1<c.toNat
  ·have d3:((i:Int)==9)=true:=by simp;omega
   have d4:decide ((1:Int)<(c.toNat:Int))=true:=decide_eq_true ad3;simp only[go_sem,r0,r4,r5,d3,d4];exact .mk _ (.refl _) (.refl _) ⟨af8,rfl⟩
  ·have hb:0<i∧c.toNat=0:=by omega
   have d4:decide ((1:Int)<(c.toNat:Int))=false:=decide_eq_false ad3;have d5:decide ((0:Int)<(i:Int))=true:=decide_eq_true ad3;have d6:((c.toNat:Int)==0)=true:=aeD;cases d3:((i:Int)==9)<;>simp only[go_sem,r0,r4,r5,d3,d4,d5,d6]<;>exact .mk _ (.refl _) (.refl _) ⟨af8,rfl⟩
 rw[if_neg hb]at hr;have hi9:i≤9:=ad3;have hle:c.toNat % 128*128 ^ i+u<18446744073709551616:=by
  by_cases e9:i=9
  ·subst e9
   rw[p9]at hu⊢;omega
  ·have h1:(128:Nat) ^ i≤128 ^ 8:=Nat.pow_le_pow_right ad6 ad3
   have h2:(128:Nat) ^ 8=72057594037927936:=ad6;exact ajY
 have w3:IntKind.u64.wrap ((c.toNat % 128:Nat):Int)=((c.toNat % 128:Nat):Int):=Qb _ ad3;have w4:IntKind.i64.wrap ((7:Int)*(i:Int))=((7*i:Nat):Int):=aeA;have w5:IntKind.u64.wrap ((7*i:Nat):Int)=((7*i:Nat):Int):=Qb _ ad3;have h63:7*i≤63:=ad3;have hu' :u<2 ^ (7*i):=by rw[pw];exact hu
 have hor:u+c.toNat % 128*2 ^ (7*i)<18446744073709551616:=by rw[pw];omega
 have wS:c.toNat % 128*2 ^ (7*i) % 18446744073709551616=c.toNat % 128*2 ^ (7*i):=Nat.mod_eq_of_lt ad3;have three:(i=9∧c.toNat≤1∧c.toNat≠0)∨(i<9∧0<i∧c.toNat≠0)∨i=0:=ad3;cases d7:decide ((c.toNat:Int)<128)
 ·have h7:=adW d7
  rw[if_neg ad3]at hr;have hnew:u+c.toNat % 128*2 ^ (7*i)<128 ^ (i+1):=by rw[pw,Nat.pow_succ];exact ajY
  rw[←pw,Nat.add_assoc]at hr;generalize hU' :u+c.toNat % 128*2 ^ (7*i)=u' at hr hnew hor;rcases three with⟨t1,t2,t3⟩|⟨t1,t2,t3⟩|t1
  ·have d3:((i:Int)==9)=true:=by simp;omega
   have d4:decide ((1:Int)<(c.toNat:Int))=false:=decide_eq_false ad3;have d5:decide ((0:Int)<(i:Int))=true:=decide_eq_true ad3;have d6:((c.toNat:Int)==0)=false:=aeD;simp only[go_sem,r0,r4,r5,d3,d4,d5,d6,w3,w4,w5,h63,wS,hu',hU',hor,d7,w2];refine⟨k,ad3,rfl,i+1,u',ad3,hr,hnew,?_,?_,?_⟩<;>simp only[go_sem,r0]
  ·have d3:((i:Int)==9)=false:=by simp;omega
   have d5:decide ((0:Int)<(i:Int))=true:=decide_eq_true ad3;have d6:((c.toNat:Int)==0)=false:=aeD;simp only[go_sem,r0,r4,r5,d3,d5,d6,w3,w4,w5,h63,wS,hu',hU',hor,d7,w2];refine⟨k,ad3,rfl,i+1,u',ad3,hr,hnew,?_,?_,?_⟩<;>simp only[go_sem,r0]
  ·have d3:((i:Int)==9)=false:=by simp;omega
   have d5:decide ((0:Int)<(i:Int))=false:=decide_eq_false ad3;simp only[go_sem,r0,r4,r5,d3,d5,w3,w4,w5,h63,wS,hu',hU',hor,d7,w2];refine⟨k,ad3,rfl,i+1,u',ad3,hr,hnew,?_,?_,?_⟩<;>simp only[go_sem,r0]
 ·have h7:=adV d7
  rw[if_pos ad3]at hr;have ec:c.toNat % 128=c.toNat:=ad3;rw[←pw]at hr;have hU0:u+c.toNat*2 ^ (7*i)=u+c.toNat % 128*2 ^ (7*i):=by rw[ec]
  rw[hU0]at hr;generalize hU' :u+c.toNat % 128*2 ^ (7*i)=u' at hr hor;have w6:IntKind.i64.wrap ((u' / 2:Nat):Int)=((u' / 2:Nat):Int):=aY _ ad3;have b1:(-9223372036854775808:Int)≤((u' / 2:Nat):Int):=ad3;have b2:((u' / 2:Nat):Int)≤9223372036854775807:=ad3;have un:unzig u' =if u' % 2=1 then -((u' / 2:Nat):Int) - 1 else((u' / 2:Nat):Int):=rfl
  cases d8:(((u' % 2:Nat):Int)==1)
  ·have h8:¬u' % 2=1:=by intro hh;rw[hh]at d8;cases d8
   rw[if_neg h8]at un;rw[un]at hr;rcases three with⟨t1,t2,t3⟩|⟨t1,t2,t3⟩|t1
   ·have d3:((i:Int)==9)=true:=by simp;omega
    have d4:decide ((1:Int)<(c.toNat:Int))=false:=decide_eq_false ad3;have d5:decide ((0:Int)<(i:Int))=true:=decide_eq_true ad3;have d6:((c.toNat:Int)==0)=false:=aeD;simp only[go_sem,r0,r4,r5,d3,d4,d5,d6,w3,w4,w5,h63,wS,hu',hU',hor,d7,w6,d8,w2];exact .mk _ (.refl _) (.refl _) ⟨af8,rfl⟩
   ·have d3:((i:Int)==9)=false:=by simp;omega
    have d5:decide ((0:Int)<(i:Int))=true:=decide_eq_true ad3;have d6:((c.toNat:Int)==0)=false:=aeD;simp only[go_sem,r0,r4,r5,d3,d5,d6,w3,w4,w5,h63,wS,hu',hU',hor,d7,w6,d8,w2];exact .mk _ (.refl _) (.refl _) ⟨af8,rfl⟩
   ·have d3:((i:Int)==9)=false:=by simp;omega
    have d5:decide ((0:Int)<(i:Int))=false:=decide_eq_false ad3;simp only[go_sem,r0,r4,r5,d3,d5,w3,w4,w5,h63,wS,hu',hU',hor,d7,w6,d8,w2];exact .mk _ (.refl _) (.refl _) ⟨af8,rfl⟩
  ·have h8:u' % 2=1:=by have:=eq_of_beq d8;omega
   rw[if_pos h8]at un;rw[un]at hr;rcases three with⟨t1,t2,t3⟩|⟨t1,t2,t3⟩|t1
   ·have d3:((i:Int)==9)=true:=by simp;omega
    have d4:decide ((1:Int)<(c.toNat:Int))=false:=decide_eq_false ad3;have d5:decide ((0:Int)<(i:Int))=true:=decide_eq_true ad3;have d6:((c.toNat:Int)==0)=false:=aeD;simp only[go_sem,r0,r4,r5,d3,d4,d5,d6,w3,w4,w5,h63,wS,hu',hU',hor,d7,w6,d8,b1,b2,w2];exact .mk _ (.refl _) (.refl _) ⟨af8,rfl⟩
   ·have d3:((i:Int)==9)=false:=by simp;omega
    have d5:decide ((0:Int)<(i:Int))=true:=decide_eq_true ad3;have d6:((c.toNat:Int)==0)=false:=aeD;simp only[go_sem,r0,r4,r5,d3,d5,d6,w3,w4,w5,h63,wS,hu',hU',hor,d7,w6,d8,b1,b2,w2];exact .mk _ (.refl _) (.refl _) ⟨af8,rfl⟩
   ·have d3:((i:Int)==9)=false:=by simp;omega
    have d5:decide ((0:Int)<(i:Int))=false:=decide_eq_false ad3;simp only[go_sem,r0,r4,r5,d3,d5,w3,w4,w5,h63,wS,hu',hU',hor,d7,w6,d8,b1,b2,w2];exact .mk _ (.refl _) (.refl _) ⟨af8,rfl⟩
theorem RC.step(hc:RC f args s R s'){id:Nat}(hid:h id=some (RO s))
  (k:∀h2,h2=upd h id (some (RO s'))→h2 id=some (RO s')→(∀b,upd h2 id b=upd h id b)→Q R h2):ai prog f (.ptr id 0::args) h Q:=
 hc.go hid (k _ rfl (ah ..) fun b=>by grind [ah,ag])
theorem D5(s:RS)(hw:WfR s)(lo hi:Int):RC 226 [.i lo,.i hi] s (.v (.int .i64 (rIn s lo hi).1)) (rIn s lo hi).2:=fun h id hid=>by
 have hw1:=hw.1;have hw2:=hw.2;refine ad2 func226 45 [.tmp 6] fun hwf=>?_
 have g:=hid;unfold RO at g;cases d1:s.bad
 case true=>rw[d1]at g;simp only[go_sem,g];exact .mk _ (.refl _) (.refl _) ⟨by rw[rIn,if_pos d1];rfl,by rw[rIn,if_pos d1,bL hid]⟩
 have e:rIn s lo hi=(let x:=rI 10 0 0 (s.b.drop s.at_);if x.2=0∨x.1<lo∨hi<x.1 then(0,mB s s.at_)else(x.1,{s with at_:=s.at_+x.2})):=by simp_all [rIn,if_neg]
 rw[d1]at g;simp only[go_sem,g];refine(Kc s hw h id hid).pthen ?_;have hlen:=(zG 10 0 0 (s.b.drop s.at_)).1;rw[List.length_drop]at hlen;generalize rI 10 0 0 (s.b.drop s.at_)=x at e hlen⊢;obtain⟨n,z⟩:=x;simp only at e hlen⊢
 by_cases hb:z=0∨n<lo∨hi<n
 ·rw[if_pos hb]at e
  rw[e];have fin:∀P:Prop,P→P:=fun _ p=>p
  rcases Decidable.em (z=0)with c1|c1
  ·have d2:((z:Int)==0)=true:=by grind
   simp only[go_sem,g,d2];refine(pL s s.at_).go hid ?_;exact aiM
  have d2:((z:Int)==0)=false:=ad4;rcases Decidable.em (n<lo)with c2|c2
  ·simp only[go_sem,g,d2,decide_eq_true c2]
   refine(pL s s.at_).go hid ?_;exact aiM
  ·simp only[go_sem,g,d2,decide_eq_false c2,decide_eq_true (show hi<n by omega)]
   refine(pL s s.at_).go hid ?_;exact aiM
 ·rw[if_neg hb]at e
  rw[e];have d2:((z:Int)==0)=false:=ad4;have w1:IntKind.i64.wrap ((s.at_:Int)+(z:Int))=((s.at_+z:Nat):Int):=aeg;simp only[go_sem,g,d2,decide_eq_false (show¬n<lo by omega),decide_eq_false (show¬hi<n by omega),w1]
  exact .mk _ (.refl _) (.refl _) ⟨rfl,by grind [RO]⟩
theorem Gj(s:RS)(hw:WfR s):RC 175 [] s (.v (.int .i64 (gF s).1)) (gF s).2:=fun h id hid=>by
 refine ad2 func175 5 [.tmp 2] fun hwf=>?_
 simp only[go_sem];refine(D5 s hw _ _).go hid ?_;exact aiM
theorem CJ(hw:WfR s)(h0:lo≤0)(h1:0≤hi):lo≤(rIn s lo hi).1∧(rIn s lo hi).1≤hi:=by grind [rIn]
theorem gV(hw:WfR s)(hm:0≤most):WfR (bY s most).2:=by
 have h1:=mq (lo:=0) (hi:=most) hw;have h2:=CJ (lo:=0) (hi:=most) hw (Int.le_refl 0) hm;unfold bY;simp only;split
 ·exact zF h1
 ·exact⟨ad4,h1.2⟩
theorem qt(s:RS)(hw:WfR s)(most:Int)(hmo:0≤most):RC 176 [.i most] s (.s (bY s most).1) (bY s most).2:=fun h id hid=>by
 have hx:=mq (lo:=0) (hi:=most) hw;have hx2:=CJ (lo:=0) (hi:=most) hw (Int.le_refl 0) hmo;refine ad2 func176 59 [.tmp 4] fun hwf=>?_
 have g:=hid;unfold RO at g;simp only[go_sem,g];refine(D5 s hw 0 most).step hid ?_;have e:bY s most=(let x:=rIn s 0 most;if x.2.bad∨(x.2.b.length:Int) - x.2.at_<x.1 then([],mB x.2 s.at_)else((x.2.b.drop x.2.at_).take x.1.toNat,{x.2 with at_:=x.2.at_+x.1.toNat})):=rfl
 generalize rIn s 0 most=x at e hx hx2⊢;obtain⟨n,t⟩:=x;simp only at e hx hx2⊢;obtain⟨m,rfl⟩:=Int.eq_ofNat_of_zero_le hx2.1;have ht1:=hx.1;have ht2:=hx.2;intro h2 eh2 hid2 hup;have g2:=hid2;unfold RO at g2;have w1:IntKind.i64.wrap ((t.b.length:Int) - (t.at_:Int))=(t.b.length:Int) - (t.at_:Int):=aY _ ad3;clear eh2 hid g
 by_cases hb:t.bad=true∨(t.b.length:Int) - t.at_<((m:Nat):Int)
 ·rw[if_pos hb]at e
  rw[e];cases d1:t.bad<;>rw[d1]at g2
  ·have hb:(t.b.length:Int) - t.at_<((m:Nat):Int):=by grind
   simp only[go_sem,g2,w1,adT,decide_eq_true hb];exact ajc
  ·simp only[go_sem,g2]
   exact ajc
 ·rw[if_neg hb]at e
  rw[e];have d1:t.bad=false:=by grind
  rw[d1]at g2;have hle:t.at_+m≤t.b.length:=ad3;have w2:IntKind.i64.wrap ((t.at_:Int)+(m:Int))=((t.at_+m:Nat):Int):=aeg;have w3:IntKind.i64.wrap (((t.at_+m:Nat):Int) - (m:Int))=(t.at_:Int):=aeg;simp only[go_sem,g2,w1,adT,decide_eq_false (show¬(t.b.length:Int) - t.at_<((m:Nat):Int) by omega)]
  refine⟨.of ad7,?_⟩;simp only[go_sem,g2,w2,w3,adT];exact⟨.of ad7,ad3,ad3,ad3,.mk _ (.refl _) (.refl _) ⟨by rw[show t.at_+m - t.at_=m by omega];rfl,by grind [RO]⟩⟩
structure RAt (h0:Heap) (id:Nat) (h:Heap) (s:RS):Prop where
 here:h id=some (RO s)
 sub:∀j b,j≠id→h0 j=some b→h j=some b
theorem RAt.start{id:Nat}(hid:h id=some (RO s)):RAt h id h s:=⟨hid,fun _ _ _ e=>e⟩
theorem RAt.fin{id:Nat}(hr:RAt h0 id h s):Ab.Sub (upd h0 id (some (RO s))) h:=fun j b e=>by
 by_cases hj:j=id
 ·subst hj;rw[ah]at e;rw[hr.here,e]
 ·rw[ag _ _ hj]at e;exact hr.sub j b hj e
theorem RAt.ne{id i:Nat}(hr:RAt h0 id h s)(hi:h i=none):i≠id:=fun e=>by rw[e,hr.here]at hi;grind
theorem RAt.none{id i:Nat}(hr:RAt h0 id h s)(hi:h i=Option.none):h0 i=Option.none:=by
 cases e:h0 i with
 |none=>rfl
 |some b=>rw[hr.sub i b (hr.ne hi) e]at hi;omega
theorem RAt.put{id i:Nat}{b:Option Blk}(hr:RAt h0 id h s)(hi:h0 i=Option.none)(hn:i≠id):RAt h0 id (upd h i b) s:=
 ⟨by rw[ag _ _ (Ne.symm hn)];exact hr.here,fun j c hj e=>by
  rw[ag _ _ fun e2=>ad4]
  exact hr.sub j c hj e⟩
theorem RAt.step{id:Nat}(hr:RAt h0 id h s)(hc:RC f args s R s')(k:∀h2,RAt h0 id h2 s'→(∀j,j≠id→h2 j=h j)→Q R h2):ai prog f (.ptr id 0::args) h Q:=
 hc.go hr.here (k _ ⟨ah ..,fun j b hj e=>by rw[ag _ _ hj];exact hr.sub j b hj e⟩ fun j hj=>ag _ _ hj)
theorem IA(hw:WfR s):WfR (qJ s).2:=by
 have h1:=mq (lo:=1) (hi:=5) hw;unfold qJ;simp only;generalize rIn s 1 5=x at h1⊢;have h2:WfR (if oS x.1=true then((⟨x.1,0,(bY x.2 64).1⟩,(bY x.2 64).2):bB×RS)else(⟨x.1,(gF x.2).1,[]⟩,(gF x.2).2)).2:=by
  split
  ·grind [gV]
  ·exact mq h1
 generalize (if oS x.1=true then((⟨x.1,0,(bY x.2 64).1⟩,(bY x.2 64).2):bB×RS)else(⟨x.1,(gF x.2).1,[]⟩,(gF x.2).2))=y at h2⊢
 split
 ·exact ahR
 ·split
  ·exact zF h2
  ·exact ahR
theorem Hs(s:RS)(hw:WfR s):RC 178 [] s (aV (qJ s).1) (qJ s).2:=fun h id hid=>by
 have hw1:=mq (lo:=1) (hi:=5) hw;refine ad2 func178 31 [.cell 2 44] fun hwf=>?_
 simp only[go_sem];intro i1 h1;have a0:=RAt.start hid;have n1:=a0.ne h1;have m1:=a0.none h1;have a1:=a0.put (b:=some (.obj [.i 0,.i 0,.s []] 44)) m1 n1;simp only[go_sem];refine a1.step (Lt s) fun g1 b1 k1=>?_
 have c1:=k1 i1 n1;rw[ah]at c1;clear a0 a1 k1;simp only[go_sem];refine b1.step (D5 s hw 1 5) fun g2 b2 k2=>?_
 have c2:=(k2 i1 n1).trans c1;clear b1 c1 k2;simp only[go_sem];intro i2 h2;have n2:=b2.ne h2;have m2:=b2.none h2;have n21:i2≠i1:=fun e=>by rw[e,c2]at h2;cases h2
 have e:qJ s=(let x:=rIn s 1 5;let y:bB×RS:=if oS x.1 then(let t:=bY x.2 64;(⟨x.1,0,t.1⟩,t.2))else(let t:=gF x.2;(⟨x.1,t.1,[]⟩,t.2));if y.2.bad then(ax,y.2)else if bH y.1=false then(ax,mB y.2 s.at_)else y):=rfl
 generalize rIn s 1 5=x at e hw1 b2⊢;obtain⟨kd,t⟩:=x;simp only at e hw1 b2⊢;have b3:=b2.put (b:=some (.obj [.i kd,.i 0,.s []] 44)) m2 n2;have c3:upd g2 i2 (some (.obj [.i kd,.i 0,.s []] 44)) i1=_:=(ag _ _ (Ne.symm n21)).trans c2;have d3:upd g2 i2 (some (.obj [.i kd,.i 0,.s []] 44)) i2=_:=ah ..;clear b2 c2 h2;simp only[go_sem,ah];generalize upd g2 i2 (some (.obj [.i kd,.i 0,.s []] 44))=g3 at b3 c3 d3⊢;refine(zZ kd _).pthen ?_;simp only[go_sem];cases dt:(kd==3||kd==5)
 ·have et:oS kd=false:=dt
  rw[et]at e;simp only[Bool.false_eq_true,if_false]at e;simp only[go_sem];refine b3.step (Gj t hw1) fun g4 b4 k4=>?_
  have c4:=(k4 i1 n1).trans c3;have d4:=(k4 i2 n2).trans d3;have e5:qJ s=(if(gF t).2.bad then(ax,(gF t).2)else if bH (⟨kd,(gF t).1,[]⟩:bB)=false then(ax,mB (gF t).2 s.at_)else((⟨kd,(gF t).1,[]⟩:bB),(gF t).2)):=e
  have wT:WfR (gF t).2:=mq hw1;have b5:=b4.put (b:=(some (.obj [.i kd,.v (.int .i64 (gF t).1),.s []] 44))) m2 n2;have c5:upd g4 i2 (some (.obj [.i kd,.v (.int .i64 (gF t).1),.s []] 44)) i1=_:=(ag _ _ (Ne.symm n21)).trans c4;have d5:upd g4 i2 (some (.obj [.i kd,.v (.int .i64 (gF t).1),.s []] 44)) i2=_:=ah ..;simp only[go_sem,d4];generalize upd g4 i2 (some (.obj [.i kd,.v (.int .i64 (gF t).1),.s []] 44))=g5 at b5 c5 d5⊢;clear b4 c4 d4 k4 e;refine b5.step (Aj _) fun g6 b6 k6=>?_
  have c6:=(k6 i1 n1).trans c5;have d6:=(k6 i2 n2).trans d5;clear b5 c5 d5 k6;cases db:(gF t).2.bad
  ·rw[db,if_neg ad6]at e5
   simp only[go_sem,db,d6];refine(gK (⟨kd,(gF t).1,[]⟩:bB) g6).pthen ?_;cases dv:bH (⟨kd,(gF t).1,[]⟩:bB)
   ·exact aiY
   ·exact ajL
  ·exact ajM
 ·have et:oS kd=true:=dt
  rw[et]at e;simp only[if_true]at e;simp only[go_sem];refine b3.step (qt t hw1 64 ad6) fun g4 b4 k4=>?_
  have c4:=(k4 i1 n1).trans c3;have d4:=(k4 i2 n2).trans d3;have e5:qJ s=(if(bY t 64).2.bad then(ax,(bY t 64).2)else if bH (⟨kd,0,(bY t 64).1⟩:bB)=false then(ax,mB (bY t 64).2 s.at_)else((⟨kd,0,(bY t 64).1⟩:bB),(bY t 64).2)):=e
  have wT:WfR (bY t 64).2:=gV hw1 ad6;have b5:=b4.put (b:=(some (.obj [.i kd,.i 0,.s (bY t 64).1] 44))) m2 n2;have c5:upd g4 i2 (some (.obj [.i kd,.i 0,.s (bY t 64).1] 44)) i1=_:=(ag _ _ (Ne.symm n21)).trans c4;have d5:upd g4 i2 (some (.obj [.i kd,.i 0,.s (bY t 64).1] 44)) i2=_:=ah ..;simp only[go_sem,d4];generalize upd g4 i2 (some (.obj [.i kd,.i 0,.s (bY t 64).1] 44))=g5 at b5 c5 d5⊢;clear b4 c4 d4 k4 e;refine b5.step (Aj _) fun g6 b6 k6=>?_
  have c6:=(k6 i1 n1).trans c5;have d6:=(k6 i2 n2).trans d5;clear b5 c5 d5 k6;cases db:(bY t 64).2.bad
  ·rw[db,if_neg ad6]at e5
   simp only[go_sem,db,d6];refine(gK (⟨kd,0,(bY t 64).1⟩:bB) g6).pthen ?_;cases dv:bH (⟨kd,0,(bY t 64).1⟩:bB)
   ·exact aiY
   ·exact ajL
  ·exact ajM
theorem Iz(hw:WfR s):WfR (qj s).2:=by grind [qj,mq,IA]
theorem SC(s:RS)(hw:WfR s)(q:Perm):RC 177 [.sl (s.b.map aN) q] s (aV (qj s).1) (qj s).2:=fun h id hid=>by
 have hw1:=hw.1;have hw2:=hw.2;refine ad2 func177 25 [.cell 4 44] fun hwf=>?_
 simp only[go_sem];intro i1 h1;have a0:=RAt.start hid;have n1:=a0.ne h1;have m1:=a0.none h1;have a1:=a0.put (b:=some (.obj [.i 0,.i 0,.s []] 44)) m1 n1;simp only[go_sem];refine a1.step (Lt s) fun g1 b1 k1=>?_
 have c1:=k1 i1 n1;rw[ah]at c1;clear a0 a1 k1
 by_cases hlt:s.at_<s.b.length
 ·have d1:decide ((s.at_:Int)<(s.b.length:Int))=true:=decide_eq_true ad3
  simp only[go_sem,adT,d1];refine b1.step (Lt s) fun g2 b2 k2=>?_
  have c2:=(k2 i1 n1).trans c1;clear b1 c1 k2;simp only[go_sem];refine .at s.at_ ad4 aec ?_;have hg:s.b.getD s.at_ 0=s.b[s.at_]:=ad4;generalize hcc:s.b[s.at_]=c at hg;cases d2:((c.toNat:Int)==0)
  ·have hne:c≠0:=fun e=>by simp_all
   have e:qj s=qJ s:=by simp_all [qj,if_neg]
   rw[e];simp only[go_sem,adU,hcc,aN,d2];refine b2.step (Hs s hw) fun g3 b3 k3=>?_
   have c3:=(k3 i1 n1).trans c2;simp only[go_sem,c3,ah,aV];exact agM
  ·have he:c=0:=by have:=eq_of_beq d2;exact UInt8.toNat_inj.1 ad4
   have e:qj s=(ax,(rIn (rIn s 0 0).2 0 0).2):=by simp_all [qj,if_pos]
   rw[e];simp only[go_sem,adU,hcc,aN,d2];refine b2.step (D5 s hw 0 0) fun g3 b3 k3=>?_
   have c3:=(k3 i1 n1).trans c2;simp only[go_sem];refine b3.step (D5 _ (mq hw) 0 0) fun g4 b4 k4=>?_
   have c4:=(k4 i1 n1).trans c3;simp only[go_sem,c4,ah];exact .mk _ (.refl _) (b4.put m1 n1).fin ⟨rfl,rfl⟩
 ·have d1:decide ((s.at_:Int)<(s.b.length:Int))=false:=decide_eq_false ad3
  have e:qj s=qJ s:=by simp_all [qj,if_neg]
  rw[e];simp only[go_sem,adT,d1];refine b1.step (Hs s hw) fun g3 b3 k3=>?_
  have c3:=(k3 i1 n1).trans c1;simp only[go_sem,c3,ah,aV];exact agM
theorem Dg(a b:Txt)(p q:Perm)(h:Heap):ai prog 129 [.sl (a.map aN) p,.sl (b.map aN) q] h fun r h' =>r= .b (decide (a=b))∧h' =h:=by
 refine ad2 func129 10 [.tmp 4] fun hwf=>?_
 simp only[go_sem];exact .same (.refl _) ⟨by grind [au],rfl⟩
structure OpL (o:OpD):Prop where
 subj:o.subj.length≤100000
 case:o.case.length≤100000
 field:o.field.length≤100000
 to:o.to.length≤100000
 val:o.val.s.length≤100000
 text:o.text.length≤100000
 reason:o.reason.length≤100000
def opT(o:OpD):List Txt:=[o.subj,o.case,o.field,o.to]
theorem Nl(o:OpD)(h64:kW o)(hl:OpL o)(h:Heap):ai prog 134 [opA o] h fun r h' =>r= .sl ((gO o).map aN) .no∧h' =h:=by
 obtain⟨k1,k2,k3,k4⟩:=h64;have hnk:=iV o.kind;obtain⟨l1,l2,l3,l4,l5,l6,l7⟩:=hl;have t1:=dD o.subj;have t2:=dD o.case;have t3:=dD o.field;have t4:=dD o.to;refine ad2 func134 46 [.tmp 2] fun hwf=>?_
 simp only[go_sem,opA,opC];intro id hid;simp only[go_sem];refine(CD (.sl [] .full) [] o.kind _ (.nil _) aea k1).pthen ?_;simp only[go_sem];generalize hH:upd h id _=H;have hHid:H id=some (.obj (opC o) 46):=ahy;have hsub:Ab.Sub h H:=by rw[←hH];exact(Sub.refl h).new hid _
 unfold opC at hHid;clear hH;refine .intro (fun m ρ h' =>h' =H∧∃i:Nat,i≤4∧m=4 - i∧lk ρ 1=some (.ptr id 0)∧lk ρ 3=some (.sl ((iU o.kind++(((opT o).map dI).take i).flatten).map aN) .no)∧(∃q,lk ρ 17=some (.sl ((opT o).map .s) q))∧lk ρ 18=some (.i 4)∧lk ρ 19=some (.i i)) 4 ?_ ?_
 ·refine⟨rfl,0,ad3,rfl,?_,?_,?_,?_,?_⟩
  ·rfl
  ·simp only[go_sem]
   simp
  ·refine⟨?_,?_⟩
   rotate_left
   ·simp only[go_sem]
    rfl
  ·rfl
  rfl
 rintro m ρ h' ⟨rfl,i,hi,rfl,r1,r3,⟨q,r17⟩,r18,r19⟩
 have hLl:((opT o).map dI).length=4:=rfl;have hOl:(opT o).length=4:=rfl;have hF:((opT o).map dI).flatten.length≤400040:=by grind [opT]
 have hf:=pN ((opT o).map dI) i;have hall:∀t∈opT o,t.length≤100000:=by simp_all [opT]
 by_cases hc:i<4
 ·have d1:decide ((i:Int)<4)=true:=decide_eq_true ad3
  have w1:IntKind.i64.wrap ((i:Int)+1)=((i+1:Nat):Int):=aeg;have hs:=ou ((opT o).map dI) i ad3;rw[adU]at hs;have ht:=hall _ (adY (show i<(opT o).length by omega))
  simp only[go_sem,r1,r3,r17,r18,r19,d1];refine .at i ad4 aec ?_;simp only[go_sem,r1,r3,r17,r18,r19,adU];refine(xU _ (iU o.kind++(((opT o).map dI).take i).flatten) (opT o)[i] _ (.sl _ _) ad4 ad3).pthen ?_;simp only[go_sem,r1,r3,r17,r18,r19,w1];refine⟨3 - i,ad3,rfl,i+1,ad3,ad3,?_,?_,⟨q,?_⟩,?_,?_⟩
  ·simp only[go_sem,r1]
  ·simp only[go_sem,hs,List.append_assoc]
   rfl
  ·simp only[go_sem,r17]
  ·simp only[go_sem,r18]
  ·simp only[go_sem]
 ·have e:i=4:=by omega
  subst e;have e4:(((opT o).map dI).take 4).flatten=dI o.subj++(dI o.case++(dI o.field++dI o.to)):=by simp[opT]
  rw[e4]at r3 hf;have d1:decide ((4:Int)<4)=false:=rfl;generalize hP:iU o.kind++(dI o.subj++(dI o.case++(dI o.field++dI o.to)))=P1 at r3;have hP1:P1.length≤400050:=ad4;simp only[go_sem,r1,r3,r17,r18,r19,hHid,d1];refine .quiet ad7 ?_;simp only[go_sem,r1,r3,r17,r18,r19,hHid,d1];refine⟨_,Ix _ P1 o.val _ (.sl _ _) ad3 k2 k3 ad3,?_⟩;have e2:(oH o.val).length≤100020:=by grind [oH,adX,iV,dD]
  simp only[go_sem,r1,hHid];refine⟨_,CD _ (P1++oH o.val) o.review _ (.sl _ _) ad4 k4,?_⟩;generalize hP2:P1++oH o.val++iU o.review=P2;have hP2l:P2.length≤500080:=by grind [iV,adX]
  simp only[go_sem,r1,hHid];refine .quiet ad7 ?_;simp only[go_sem,r1,hHid];refine⟨_,xU _ P2 o.text _ (.sl _ _) ad3 ad3,?_⟩;have e3:=dD o.text;simp only[go_sem,r1,hHid];refine⟨_,xU _ (P2++dI o.text) o.reason _ (.sl _ _) ad4 ad3,?_⟩;generalize hP3:P2++dI o.text++dI o.reason=P3;have e4:=dD o.reason;have hP3l:P3.length≤800000:=ad4;simp only[go_sem,r1,hHid];refine(Ff o.glass _).pthen ?_;simp only[go_sem];refine(Ix _ P3 (dR o.glass) _ (.sl _ _) ad3 ?_ ?_ ?_).pthen ?_
  ·cases o.glass<;>exact⟨ad6,ad6⟩
  ·cases o.glass<;>exact⟨ad6,ad6⟩
  ·cases o.glass<;>decide
  simp only[go_sem];refine .mk _ (.refl _) hsub ⟨?_,rfl⟩
  grind [gO,List.append_assoc,au]
theorem lM.base(hs:Ab.Sub h H)(ha:lM H g y l):lM h g y l:=by
 obtain⟨h1,h2|⟨id,i1,h2,h3⟩⟩:=ha
 ·exact⟨hs.trans h1,.inl h2⟩
 ·exact⟨hs.trans h1,.inr ⟨id,hs.none i1,h2,h3⟩⟩
theorem PI(ch:BitVec 64)(o:OpD)(h64:kW o)(hl:OpL o)(hp:(gO o).length≤1000000)(h:Heap):ai prog 67 [.v (.int .u64 (ch.toNat:Int)),opA o] h fun r h' =>lM h h' r (cK ch o):=by
 refine ad2 func67 20 [.tmp 4] fun hwf=>?_
 simp only[go_sem,opA,opC];intro id hid;generalize hH:upd h id _=H;have hHid:H id=some (.obj (opC o) 46):=ahy;have hsub:Ab.Sub h H:=by rw[←hH];exact(Sub.refl h).new hid _
 clear hH;simp only[go_sem];refine .intro (fun k ρ g=>∃(i:Nat) (v:BitVec 64) (l:Txt) (z:AV),lM H g z l∧i+k=8∧l++rf k v=rf 8 ch∧lk ρ 0=some (.v (.int .u64 (v.toNat:Int)))∧lk ρ 3=some (.ptr id 0)∧lk ρ 5=some z∧lk ρ 6=some (.i (i:Int))) 8 ?_ ?_
 ·refine⟨0,ch,[],_,Acc.full (.refl _),rfl,rfl,?_,?_,?_,?_⟩<;>simp only[go_sem]
  all_goals rfl
 rintro k ρ g ⟨i,v,l,z,ha,hk,hv,r0,r3,r5,r6⟩
 have hll:=congrArg List.length hv;rw[adX,fS,fS]at hll;rcases k with _|k
 ·have d1:decide ((i:Int)<8)=false:=decide_eq_false ad3
  have hg:=ha.1 _ _ hHid;unfold opC at hg;rw[show rf 0 v= []from rfl,List.append_nil]at hv
  subst hv;simp only[go_sem,r0,r3,r5,r6,d1,hg];refine(Nl o h64 hl g).pthen ?_;simp only[go_sem];refine lM.app ha (m:=gO o) (fun _ hk=>hk) ad3 fun z' h2 ha' =>?_
  simp only[go_sem];exact .same (.refl _) (ha'.base hsub)
 ·have d1:decide ((i:Int)<8)=true:=decide_eq_true ad3
  have w1:IntKind.i64.wrap ((i:Int)+1)=((i+1:Nat):Int):=aeg;simp only[go_sem,r0,r3,r5,r6,d1,wu8];refine lM.app ha (m:=[UInt8.ofNat v.toNat]) (fun _ hk=>hk) ad4 fun z' h2 ha' =>?_
  have e8:v.toNat / 256=(v>>>8).toNat:=agr;simp only[go_sem,r0,r3,r5,r6,w1,e8];refine⟨k,ad3,i+1,v>>>8,l++ [UInt8.ofNat v.toNat],z',ha',ad3,?_,?_,?_,?_,?_⟩
  ·grind [rf]
  all_goals simp only[go_sem,r3]
theorem CN(ch:BitVec 64)(o:OpD)(h64:kW o)(hl:OpL o)(hp:(gO o).length≤1000000)(h:Heap):ai prog 67 [.v (.int .u64 (ch.toNat:Int)),opA o] h fun r h' =>r= .sl ((cK ch o).map aN) .no∧h' =h:=
 lM.pure fun g _=>PI ch o h64 hl hp g
theorem uF(hw:WfR s):i64 (gF s).1:=CJ hw ad6 ad6
theorem IY:i64 ax.kind∧i64 ax.n:=⟨⟨ad6,ad6⟩,⟨ad6,ad6⟩⟩
theorem Iy:(mB s a).b=s.b:=by grind [mB]
theorem QW:(rIn s lo hi).2.b=s.b:=by grind [rIn,Iy]
theorem xO{m:Int}:(bY s m).2.b=s.b:=by grind [bY,Iy,QW]
theorem PB(hw:WfR s):i64 (qJ s).1.kind∧i64 (qJ s).1.n:=by
 have hz:=IY;have h1:=mq (lo:=1) (hi:=5) hw;have h2: -1≤(rIn s 1 5).1∧(rIn s 1 5).1≤5:=by grind [rIn]
 unfold qJ;simp only;generalize rIn s 1 5=x at h1 h2⊢;have h3:i64 (if oS x.1=true then((⟨x.1,0,(bY x.2 64).1⟩,(bY x.2 64).2):bB×RS)else(⟨x.1,(gF x.2).1,[]⟩,(gF x.2).2)).1.kind∧i64 (if oS x.1=true then((⟨x.1,0,(bY x.2 64).1⟩,(bY x.2 64).2):bB×RS)else(⟨x.1,(gF x.2).1,[]⟩,(gF x.2).2)).1.n:=by
  split
  ·exact⟨⟨ad4,ad4⟩,⟨aea,aea⟩⟩
  ·exact⟨⟨ad4,ad4⟩,uF h1⟩
 generalize (if oS x.1=true then((⟨x.1,0,(bY x.2 64).1⟩,(bY x.2 64).2):bB×RS)else(⟨x.1,(gF x.2).1,[]⟩,(gF x.2).2))=y at h3⊢
 split
 ·exact hz
 ·split
  ·exact hz
  ·exact h3
theorem CK(hw:WfR s):i64 (qj s).1.kind∧i64 (qj s).1.n:=by grind [qj,IY,PB]
def vA:OpD:=⟨0,[],[],[],[],ax,0,[],[],false⟩
def JJ(l:Txt):AV:=.tup [opA ((oR l).getD vA),.v (.bool (oR l).isSome)]
theorem SV(l:Txt):rOp l=(let k:=gF ⟨l,0,false⟩;let s1:=bY k.2 16;let s2:=bY s1.2 16;let s3:=bY s2.2 16;let s4:=bY s3.2 16;let v:=qj s4.2;let r:=gF v.2;let t:=bY r.2 4096;let w:=bY t.2 64;let g:=qJ w.2
 (⟨k.1,s1.1,s2.1,s3.1,s4.1,v.1,r.1,t.1,w.1,eqV g.1 (dR true)⟩,g.2)):=rfl
theorem f_l(h:OpF o):OpL o:=by
 obtain⟨a,b,c,d,e,f,g⟩:=h;refine⟨ad3,ad3,ad3,ad3,?_,ad3,ad3⟩;rcases e with e|e
 ·rw[e];decide
 ·by_cases hk:o.val.kind=3∨o.val.kind=5
  ·have:=(vU e hk).2;omega
  grind [BW]
theorem RAt.base{id:Nat}(hr:RAt h id g s)(hn:h id=Option.none):Ab.Sub h g:=fun j b e=>hr.sub j b ad4 e
set_option maxHeartbeats 1000000 in
theorem Mi(l:Txt)(q:Perm)(hl:l.length≤1000000)(h:Heap):ai prog 128 [.sl (l.map aN) q] h fun r h' =>r=JJ l∧h' =h:=by
 refine ad2 func128 58 [.cell 2 46,.tmp 3] fun hwf=>?_
 simp only[go_sem];intro i1 h1;simp only[go_sem];refine(PG _ l _ (.sl _ _) hl).mono fun r g ⟨id,hid,er,eg⟩=>?_
 subst er;have n1:i1≠id:=fun e=>ahS
 have m0:h id=none:=by simp_all [ag,Ne.symm]
 have w0:WfR ⟨l,0,false⟩:=⟨Nat.zero_le _,hl⟩;have b0:RAt h id g ⟨l,0,false⟩:=⟨by simp_all [ah],fun j b hj e=>by
  rw[eg,ag _ _ hj,ag _ _ fun e2=>ad4]
  exact e⟩
 have c0:g i1=some (.obj (opC vA) 46):=by rw[eg,ag _ _ n1];exact ah ..
 clear eg hid;simp only[go_sem];intro i2 h2;have n2:=b0.ne h2;have m1:=h1;have m2:=b0.none h2;have n21:i2≠i1:=fun e=>ad4
 clear h2;have e:=SV l;simp only at e;have g0e:g=g:=rfl;generalize g=g0 at b0 c0⊢;clear g0e;simp only[go_sem];have b0' :=b0.put (b:=(some (.obj [.i 0,.s [],.s [],.s [],.s [],.i 0,.i 0,.s [],.i 0,.s [],.s [],.b false] 46))) m2 n2;have c0' :upd g0 i2 (some (.obj [.i 0,.s [],.s [],.s [],.s [],.i 0,.i 0,.s [],.i 0,.s [],.s [],.b false] 46)) i1=_:=(ag _ _ (Ne.symm n21)).trans c0;have d0' :upd g0 i2 (some (.obj [.i 0,.s [],.s [],.s [],.s [],.i 0,.i 0,.s [],.i 0,.s [],.s [],.b false] 46)) i2=_:=ah ..;clear b0 c0;generalize upd g0 i2 (some (.obj [.i 0,.s [],.s [],.s [],.s [],.i 0,.i 0,.s [],.i 0,.s [],.s [],.b false] 46))=g1 at b0' c0' d0'⊢;have b1:=b0';have c1:=c0';have d1:=d0';clear b0' c0' d0';refine b1.step (Gj _ w0) fun g2 b2 k2=>?_
 have c2:=(k2 i1 n1).trans c1;have d2:=(k2 i2 n2).trans d1;clear b1 c1 d1 k2;have w1:=mq (lo:= -9223372036854775808) (hi:=9223372036854775807) w0;have q1:=uF w0
 change WfR (gF _).2 at w1
 have hb1:(gF ⟨l,0,false⟩).2.b=l:=QW;generalize gF ⟨l,0,false⟩=x1 at e w1 q1 hb1 b2⊢;obtain⟨v1,s1⟩:=x1;simp only at e w1 q1 hb1 b2⊢;simp only[go_sem,d2,ah];have b2' :=b2.put (b:=(some (.obj [.i v1,.s [],.s [],.s [],.s [],.i 0,.i 0,.s [],.i 0,.s [],.s [],.b false] 46))) m2 n2;have c2' :upd g2 i2 (some (.obj [.i v1,.s [],.s [],.s [],.s [],.i 0,.i 0,.s [],.i 0,.s [],.s [],.b false] 46)) i1=_:=(ag _ _ (Ne.symm n21)).trans c2;have d2' :upd g2 i2 (some (.obj [.i v1,.s [],.s [],.s [],.s [],.i 0,.i 0,.s [],.i 0,.s [],.s [],.b false] 46)) i2=_:=ah ..;clear b2 c2 d2;generalize upd g2 i2 (some (.obj [.i v1,.s [],.s [],.s [],.s [],.i 0,.i 0,.s [],.i 0,.s [],.s [],.b false] 46))=g3 at b2' c2' d2'⊢;have b3:=b2';have c3:=c2';have d3:=d2';clear b2' c2' d2';refine b3.step (qt _ w1 16 ad6) fun g4 b4 k4=>?_
 have c4:=(k4 i1 n1).trans c3;have d4:=(k4 i2 n2).trans d3;clear b3 c3 d3 k4;have w2:=gV (most:=16) w1 ad6;have hb2:(bY s1 16).2.b=l:=xO.trans hb1;generalize bY s1 16=x2 at e w2 hb2 b4⊢;obtain⟨v2,s2⟩:=x2;simp only at e w2 hb2 b4⊢;simp only[go_sem];refine b4.step (qt _ w2 16 ad6) fun g5 b5 k5=>?_
 have c5:=(k5 i1 n1).trans c4;have d5:=(k5 i2 n2).trans d4;clear b4 c4 d4 k5;have w3:=gV (most:=16) w2 ad6;have hb3:(bY s2 16).2.b=l:=xO.trans hb2;generalize bY s2 16=x3 at e w3 hb3 b5⊢;obtain⟨v3,s3⟩:=x3;simp only at e w3 hb3 b5⊢;simp only[go_sem];refine b5.step (qt _ w3 16 ad6) fun g6 b6 k6=>?_
 have c6:=(k6 i1 n1).trans c5;have d6:=(k6 i2 n2).trans d5;clear b5 c5 d5 k6;have w4:=gV (most:=16) w3 ad6;have hb4:(bY s3 16).2.b=l:=xO.trans hb3;generalize bY s3 16=x4 at e w4 hb4 b6⊢;obtain⟨v4,s4⟩:=x4;simp only at e w4 hb4 b6⊢;simp only[go_sem];refine b6.step (qt _ w4 16 ad6) fun g7 b7 k7=>?_
 have c7:=(k7 i1 n1).trans c6;have d7:=(k7 i2 n2).trans d6;clear b6 c6 d6 k7;have w5:=gV (most:=16) w4 ad6;have hb5:(bY s4 16).2.b=l:=xO.trans hb4;generalize bY s4 16=x5 at e w5 hb5 b7⊢;obtain⟨v5,s5⟩:=x5;simp only at e w5 hb5 b7⊢;simp only[go_sem,d7,ah];have b7' :=b7.put (b:=(some (.obj [.i v1,.s v2,.s v3,.s v4,.s v5,.i 0,.i 0,.s [],.i 0,.s [],.s [],.b false] 46))) m2 n2;have c7' :upd g7 i2 (some (.obj [.i v1,.s v2,.s v3,.s v4,.s v5,.i 0,.i 0,.s [],.i 0,.s [],.s [],.b false] 46)) i1=_:=(ag _ _ (Ne.symm n21)).trans c7;have d7' :upd g7 i2 (some (.obj [.i v1,.s v2,.s v3,.s v4,.s v5,.i 0,.i 0,.s [],.i 0,.s [],.s [],.b false] 46)) i2=_:=ah ..;clear b7 c7 d7;generalize upd g7 i2 (some (.obj [.i v1,.s v2,.s v3,.s v4,.s v5,.i 0,.i 0,.s [],.i 0,.s [],.s [],.b false] 46))=g8 at b7' c7' d7'⊢;have b8:=b7';have c8:=c7';have d8:=d7';clear b7' c7' d7';rw[show l.map aN=s5.b.map aN by grind]
 refine b8.step (SC _ w5 _) fun g9 b9 k9=>?_
 have c9:=(k9 i1 n1).trans c8;have d9:=(k9 i2 n2).trans d8;clear b8 c8 d8 k9;have w6:=Iz w5;have q6:=CK w5;generalize qj s5=x6 at e w6 q6 b9⊢;obtain⟨v6,s6⟩:=x6;simp only at e w6 q6 b9⊢;simp only[go_sem,d9,ah,aV];have b9' :=b9.put (b:=(some (.obj [.i v1,.s v2,.s v3,.s v4,.s v5,.i v6.kind,.i v6.n,.s v6.s,.i 0,.s [],.s [],.b false] 46))) m2 n2;have c9' :upd g9 i2 (some (.obj [.i v1,.s v2,.s v3,.s v4,.s v5,.i v6.kind,.i v6.n,.s v6.s,.i 0,.s [],.s [],.b false] 46)) i1=_:=(ag _ _ (Ne.symm n21)).trans c9;have d9' :upd g9 i2 (some (.obj [.i v1,.s v2,.s v3,.s v4,.s v5,.i v6.kind,.i v6.n,.s v6.s,.i 0,.s [],.s [],.b false] 46)) i2=_:=ah ..;clear b9 c9 d9;generalize upd g9 i2 (some (.obj [.i v1,.s v2,.s v3,.s v4,.s v5,.i v6.kind,.i v6.n,.s v6.s,.i 0,.s [],.s [],.b false] 46))=g10 at b9' c9' d9'⊢;have b10:=b9';have c10:=c9';have d10:=d9';clear b9' c9' d9';refine b10.step (Gj _ w6) fun g11 b11 k11=>?_
 have c11:=(k11 i1 n1).trans c10;have d11:=(k11 i2 n2).trans d10;clear b10 c10 d10 k11;have w7:=mq (lo:= -9223372036854775808) (hi:=9223372036854775807) w6;have q7:=uF w6
 change WfR (gF _).2 at w7
 generalize gF s6=x7 at e w7 q7 b11⊢;obtain⟨v7,s7⟩:=x7;simp only at e w7 q7 b11⊢;simp only[go_sem,d11,ah];have b11' :=b11.put (b:=(some (.obj [.i v1,.s v2,.s v3,.s v4,.s v5,.i v6.kind,.i v6.n,.s v6.s,.i v7,.s [],.s [],.b false] 46))) m2 n2;have c11' :upd g11 i2 (some (.obj [.i v1,.s v2,.s v3,.s v4,.s v5,.i v6.kind,.i v6.n,.s v6.s,.i v7,.s [],.s [],.b false] 46)) i1=_:=(ag _ _ (Ne.symm n21)).trans c11;have d11' :upd g11 i2 (some (.obj [.i v1,.s v2,.s v3,.s v4,.s v5,.i v6.kind,.i v6.n,.s v6.s,.i v7,.s [],.s [],.b false] 46)) i2=_:=ah ..;clear b11 c11 d11;generalize upd g11 i2 (some (.obj [.i v1,.s v2,.s v3,.s v4,.s v5,.i v6.kind,.i v6.n,.s v6.s,.i v7,.s [],.s [],.b false] 46))=g12 at b11' c11' d11'⊢;have b12:=b11';have c12:=c11';have d12:=d11';clear b11' c11' d11';refine b12.step (qt _ w7 4096 ad6) fun g13 b13 k13=>?_
 have c13:=(k13 i1 n1).trans c12;have d13:=(k13 i2 n2).trans d12;clear b12 c12 d12 k13;have w8:=gV (most:=4096) w7 ad6;generalize bY s7 4096=x8 at e w8 b13⊢;obtain⟨v8,s8⟩:=x8;simp only at e w8 b13⊢;simp only[go_sem];refine b13.step (qt _ w8 64 ad6) fun g14 b14 k14=>?_
 have c14:=(k14 i1 n1).trans c13;have d14:=(k14 i2 n2).trans d13;clear b13 c13 d13 k14;have w9:=gV (most:=64) w8 ad6;generalize bY s8 64=x9 at e w9 b14⊢;obtain⟨v9,s9⟩:=x9;simp only at e w9 b14⊢;simp only[go_sem,d14,ah];have b14' :=b14.put (b:=(some (.obj [.i v1,.s v2,.s v3,.s v4,.s v5,.i v6.kind,.i v6.n,.s v6.s,.i v7,.s v8,.s v9,.b false] 46))) m2 n2;have c14' :upd g14 i2 (some (.obj [.i v1,.s v2,.s v3,.s v4,.s v5,.i v6.kind,.i v6.n,.s v6.s,.i v7,.s v8,.s v9,.b false] 46)) i1=_:=(ag _ _ (Ne.symm n21)).trans c14;have d14' :upd g14 i2 (some (.obj [.i v1,.s v2,.s v3,.s v4,.s v5,.i v6.kind,.i v6.n,.s v6.s,.i v7,.s v8,.s v9,.b false] 46)) i2=_:=ah ..;clear b14 c14 d14;generalize upd g14 i2 (some (.obj [.i v1,.s v2,.s v3,.s v4,.s v5,.i v6.kind,.i v6.n,.s v6.s,.i v7,.s v8,.s v9,.b false] 46))=g15 at b14' c14' d14'⊢;have b15:=b14';have c15:=c14';have d15:=d14';clear b14' c14' d14';refine b15.step (Hs _ w9) fun g16 b16 k16=>?_
 have c16:=(k16 i1 n1).trans c15;have d16:=(k16 i2 n2).trans d15;clear b15 c15 d15 k16;have w10:=IA w9;generalize qJ s9=x10 at e w10 b16⊢;obtain⟨v10,s10⟩:=x10;simp only at e w10 b16⊢;simp only[go_sem];refine(Ff true _).pthen ?_;simp only[go_sem,d16,ah,aV,dR];generalize hgl:(v10.kind==1 && (v10.n==1 && v10.s== []))=gl;have egl:eqV v10 (dR true)=gl:=hgl;rw[egl]at e;clear egl hgl;have b16' :=b16.put (b:=(some (.obj [.i v1,.s v2,.s v3,.s v4,.s v5,.i v6.kind,.i v6.n,.s v6.s,.i v7,.s v8,.s v9,.b gl] 46))) m2 n2;have c16' :upd g16 i2 (some (.obj [.i v1,.s v2,.s v3,.s v4,.s v5,.i v6.kind,.i v6.n,.s v6.s,.i v7,.s v8,.s v9,.b gl] 46)) i1=_:=(ag _ _ (Ne.symm n21)).trans c16;have d16' :upd g16 i2 (some (.obj [.i v1,.s v2,.s v3,.s v4,.s v5,.i v6.kind,.i v6.n,.s v6.s,.i v7,.s v8,.s v9,.b gl] 46)) i2=_:=ah ..;clear b16 c16 d16;generalize upd g16 i2 (some (.obj [.i v1,.s v2,.s v3,.s v4,.s v5,.i v6.kind,.i v6.n,.s v6.s,.i v7,.s v8,.s v9,.b gl] 46))=g17 at b16' c16' d16'⊢;have b17:=b16';have c17:=c16';have d17:=d16';clear b16' c16' d16';refine b17.step (Se _) fun g18 b18 k18=>?_
 have c18:=(k18 i1 n1).trans c17;have d18:=(k18 i2 n2).trans d17;clear b17 c17 d17 k18;generalize ho:(⟨v1,v2,v3,v4,v5,v6,v7,v8,v9,gl⟩:OpD)=o at e;have hd:g18 i2=some (.obj (opC o) 46):=by rw[d18,←ho];rfl
 have h64:kW o:=by rw[←ho];exact⟨q1,q6.1,q6.2,q7⟩
 have hc:g18 i1=some (.obj (opC vA) 46):=c18;clear d18 c18 ho;have hnone:∀(g:Heap),RAt h id g s10→oR l=none→nJ [opA vA,.b false] g fun r h' =>r=JJ l∧h' =h:=fun g hg en=>.mk _ (.refl _) (hg.base m0) ⟨by unfold JJ;rw[en];rfl,rfl⟩
 unfold opC vA ax at hc;unfold opC at hd;cases de:Kq s10
 ·have en:oR l=none:=by grind [oR]
  simp only[go_sem,de,hc,ah];exact ag2
 simp only[go_sem,de,hd];refine(HS o _).pthen ?_;cases df:dH o
 ·exact ajS
 have hF:=jz df;simp only[go_sem,hd];refine(Nl o h64 (f_l hF) _).pthen ?_;simp only[go_sem];rw[hb5];refine(Dg (gO o) l _ _ _).pthen ?_;cases dp:decide (gO o=l)
 ·exact ajS
 ·have en:oR l=some o:=by grind [oR]
  simp only[go_sem,hc,hd,ah];exact .mk _ (.refl _) ((b18.put m1 n1).base m0) ⟨by unfold JJ;rw[en];rfl,rfl⟩
theorem QE(s q:BitVec 64):IntKind.u64.wrap (IntKind.u64.wrap (((BitVec.ofInt 64 (s.toNat:Int) ^^^ BitVec.ofInt 64 (q.toNat:Int)).toNat:Nat):Int)*1099511628211)=(((s ^^^ q)*1099511628211#64).toNat:Int):=by rw[BitVec.ofInt_natCast,BitVec.ofInt_natCast,BitVec.ofNat_toNat,BitVec.ofNat_toNat,BitVec.setWidth_eq,BitVec.setWidth_eq];generalize s ^^^ q=x;rw[Qb _ x.isLt];have e:(x.toNat:Int)*1099511628211=((x.toNat*1099511628211:Nat):Int):=ad3;rw[e,Rb,BitVec.toNat_mul,BitVec.toNat_ofNat]
theorem Rz(p:BitVec 64):p.toNat % 256=(p &&& 255#64).toNat:=by exact(Nat.and_two_pow_sub_one_eq_mod p.toNat 8).symm
theorem Dk(prev:BitVec 64)(y:AV)(l:Txt)(h:Heap)(hb:By h y l)(hl:l.length≤1000000):
  ai prog 73 [.v (.int .u64 (prev.toNat:Int)),y] h fun r h' =>r= .v (.int .u64 ((sP prev l).toNat:Int))∧h' =h:=by
 refine ad2 func73 31 [.tmp 4] fun hwf=>?_
 simp only[go_sem];refine .intro (fun k ρ g=>g=h∧∃(i:Nat) (p s:BitVec 64),i+k=8∧JB k p s=JB 8 prev 14695981039346656037#64∧lk ρ 0=some (.v (.int .u64 (p.toNat:Int)))∧lk ρ 1=some y∧lk ρ 5=some (.v (.int .u64 (s.toNat:Int)))∧lk ρ 8=some (.i (i:Int))) 8 ?_ ?_
 ·refine⟨rfl,0,prev,14695981039346656037#64,rfl,rfl,?_,?_,?_,?_⟩<;>simp only[go_sem]
  rfl
 rintro k ρ g ⟨rfl,i,p,s,hk,hv,r0,r1,r5,r8⟩
 rcases k with _|k
 ·have d1:decide ((i:Int)<8)=false:=decide_eq_false ad3
  simp only[go_sem,r0,r1,r5,r8,d1,hb.len];refine .intro (fun k ρ g' =>g' =g∧∃(i:Nat) (s:BitVec 64),i+k=l.length∧(l.drop i).foldl (fun h c=>fnv h c.toNat) s=sP prev l∧lk ρ 5=some (.v (.int .u64 (s.toNat:Int)))∧lk ρ 18=some y∧lk ρ 19=some (.i (l.length:Int))∧lk ρ 20=some (.i (i:Int))) l.length ?_ ?_
  ·refine⟨rfl,0,s,ad3,by grind [JD,sP],?_,?_,?_,?_⟩<;>simp only[go_sem,r5,r1]
   all_goals rfl
  clear r0 r1 r5 r8 hv
  rintro k ρ g' ⟨rfl,i,s,hk,hv,r5,r18,r19,r20⟩
  rcases k with _|k
  ·have d1:decide ((i:Int)<(l.length:Int))=false:=decide_eq_false ad3
   simp only[go_sem,r5,r18,r19,r20,d1];rw[List.drop_eq_nil_of_le ad3]at hv;exact .same (.refl _) ⟨by rw[←hv];rfl,rfl⟩
  ·have hlt:i<l.length:=by omega
   have d1:decide ((i:Int)<(l.length:Int))=true:=decide_eq_true ad3;have w1:IntKind.i64.wrap ((i:Int)+1)=((i+1:Nat):Int):=aeg;rw[List.drop_eq_getElem_cons hlt]at hv;simp only[go_sem,r5,r18,r19,r20,d1];refine hb.idx i rfl hlt u5 u5a fun q hq=>?_
   generalize l[i]=c at hq hv;have hcl:=c.toNat_lt;have w2:IntKind.u64.wrap (c.toNat:Int)=((BitVec.ofNat 64 c.toNat).toNat:Int):=aei;have hx:=hq (fun v=>v=aN c)
   simp only[go_sem,r5,r18,r19,r20,hq _,aN,w2,w1];refine⟨k,ad3,rfl,i+1,fnv s c.toNat,ad3,ad4,?_,?_,?_,?_⟩<;>simp only[go_sem,r18,r19,fnv]
   exact congrArg (fun z=>some (AV.v (Value.int IntKind.u64 z))) (QE s _)
 ·have d1:decide ((i:Int)<8)=true:=decide_eq_true ad3
  have w1:IntKind.i64.wrap ((i:Int)+1)=((i+1:Nat):Int):=aeg;have e8:p.toNat / 256=(p>>>8).toNat:=agr;have hp:=p.isLt;simp only[go_sem,r0,r1,r5,r8,d1,w1,show p.toNat<18446744073709551616 from hp,Rz,e8]
  refine⟨k,ad3,rfl,i+1,p>>>8,fnv s (p &&& 255#64).toNat,ad3,by grind [JC],?_,?_,?_,?_⟩<;>simp only[go_sem,r1,fnv,BitVec.ofNat_toNat,BitVec.setWidth_eq]
  exact congrArg (fun z=>some (AV.v (Value.int IntKind.u64 z))) (QE s _)
def cD(s:an):List AV:=[.i s.tick,fO s.cases,jR s.reviews,ku s.notices,dW s.roles]++gw s.policy++ [.i s.version]
def kV(jid:Nat)(e:cI)(yl:AV):Blk:=.obj ([.ptr jid 0]++cD e.s++ [yl,.v (.int .u64 (e.ch.toNat:Int))]) 126
theorem bE(s:an):∃a1 a2 a3 a4 a5 a6 a7,cD s= [.i s.tick,fO s.cases,jR s.reviews,ku s.notices,dW s.roles,a1,a2,a3,a4,a5,a6,a7,.i s.version]:=by obtain⟨tick,cases,reviews,notices,roles,policy,version⟩:=s;obtain⟨id,set,alg,tgt,rules,kids,obls⟩:=policy;exact⟨_,_,_,_,_,_,_,rfl⟩
def BJ(e:cI)(l:Txt):AV:=.tup [opA ((jc e l).getD vA),.v (.bool (jc e l).isSome)]
theorem HW(hl:l.length≤1000000)(h:oR l=some o):kW o:=by
 unfold oR at h;split at h
 ·cases h
  have w0:WfR ⟨l,0,false⟩:=⟨Nat.zero_le _,hl⟩;have w1:WfR (gF ⟨l,0,false⟩).2:=mq w0;have w2:=gV (most:=16) w1 ad6;have w3:=gV (most:=16) w2 ad6;have w4:=gV (most:=16) w3 ad6;have w5:=gV (most:=16) w4 ad6;exact⟨uF w0,(CK w5).1,(CK w5).2,uF (Iz w5)⟩
 grind
theorem L8(l:Txt)(q:Perm)(e:cI)(yl:AV)(jid x:Nat)(h:Heap)(hl:l.length≤900000)(hx:h x=some (kV jid e yl)):ai prog 58 [.ptr x 0,.sl (l.map aN) q] h fun r h' =>r=BJ e l∧h' =h:=by
 obtain⟨a1,a2,a3,a4,a5,a6,a7,es⟩:=bE e.s;have g:=hx;unfold kV at g;rw[es]at g;simp only[List.cons_append,List.nil_append]at g;refine ad2 func58 33 [.cell 4 46,.tmp 5] fun hwf=>?_
 simp only[go_sem];intro i1 h1;have n1:i1≠x:=fun e=>ad4
 by_cases hs:l.length<8
 ·have d1:decide ((l.length:Int)<8)=true:=decide_eq_true ad3
  have er:jc e l=none:=by simp_all [jc,if_pos]
  simp only[go_sem,adT,d1,ah];exact .mk _ (.refl _) ((Sub.refl h).new h1 _) ⟨ahj,rfl⟩
 have d1:decide ((l.length:Int)<8)=false:=decide_eq_false ad3;simp only[go_sem,adT,d1];refine⟨ad3,ad3,?_⟩;refine(Mi (l.drop 8) _ ad4 _).pthen ?_;have er0:jc e l=(match oR (l.drop 8)with|some o=>if cK e.ch o=l then some o else none|none=>none):=by unfold jc;grind
 cases hg:oR (l.drop 8)with
 |none=>
  have er:jc e l=none:=ad4;simp only[go_sem,JJ,hg,opA,opC,vA,ax,Option.getD,Option.isSome];intro i2 h2;have n2:=aB h2;have n21:=aF h2;simp only[go_sem,aj,n21,n21.symm,n1,n1.symm];generalize hH:upd (upd h i1 _) i2 _=H;have k1:H i1=some (.obj (opC vA) 46):=afj;have k2:H i2=some (.obj (opC vA) 46):=afW;have kx:H x=some (kV jid e yl):=by rw[←hH,ag _ _ (fun e2=>ad4),ag _ _ (Ne.symm n1)];omega
  have hsub:Ab.Sub h H:=aeI;clear hH g;unfold kV at kx;rw[es]at kx;simp only[List.cons_append,List.nil_append]at kx;unfold opC vA ax at k1;refine .quiet ad7 ?_;simp only[go_sem];simp only[go_sem,k1,ah];exact ajC
 |some o=>
  obtain⟨hf,hp⟩:=get_some hg;have h64:=HW ad4 hg;have er1:jc e l=if cK e.ch o=l then some o else none:=ad4
  simp only[go_sem,JJ,hg,opA,opC,Option.getD,Option.isSome];intro i2 h2;have n2:=aB h2;have n21:=aF h2;simp only[go_sem,aj,n21,n21.symm,n1,n1.symm];generalize hH:upd (upd h i1 _) i2 _=H;have k1:H i1=some (.obj (opC vA) 46):=afj;have k2:H i2=some (.obj (opC o) 46):=afW;have kx:H x=some (kV jid e yl):=by rw[←hH,ag _ _ (fun e2=>ad4),ag _ _ (Ne.symm n1)];omega
  have hsub:Ab.Sub h H:=aeI;clear hH g;unfold kV at kx;rw[es]at kx;simp only[List.cons_append,List.nil_append]at kx;unfold opC vA ax at k1;unfold opC at k2;refine .quiet ad7 ?_;simp only[go_sem,kx,k2];refine⟨_,CN e.ch o h64 (f_l (jz hf)) ad4 _,?_⟩;simp only[go_sem];refine⟨_,Dg (cK e.ch o) l _ _ _,?_⟩;cases dp:decide (cK e.ch o=l)
  ·have er:jc e l=none:=by grind
   simp only[go_sem,k1,ah];exact ajC
  ·have er:jc e l=some o:=by grind
   simp only[go_sem,k1,k2,ah];exact ajC
def ldA(d:pn):AV:=.agg (tP d)
def nI(h:Heap)(y:AV)(ds:List pn)(sp:List Nat):Prop:=(y= .sl [] .full∧ds= []∧sp= [])∨∃k,y= .sl (ds.map ldA) (.own k)∧h k=some (.spare ds.length 16)∧sp= [k]
theorem uD:(U 55).sz=16:=aei
theorem nI.row(hg:nI h y ds sp):∃q,y= .sl (ds.map ldA) q:=by rcases hg with⟨rfl,rfl,_⟩|⟨k,rfl,_⟩<;>exact⟨_,rfl⟩
theorem nI.touch(hg:nI h y ds sp)(ht:Touch S h h')(hn:∀i∈sp,i∉S):nI h' y ds sp:=by
 rcases hg with⟨rfl,rfl,rfl⟩|⟨k,rfl,k1,rfl⟩
 ·exact .inl ⟨rfl,rfl,rfl⟩
 ·exact .inr ⟨k,rfl,ht _ _ (hn k aea) k1,rfl⟩
theorem nI.has(hg:nI h y ds sp):∀i∈sp,∃n,h i=some (.spare n 16):=by
 rcases hg with⟨rfl,rfl,rfl⟩|⟨k,rfl,k1,rfl⟩
 ·simp
 grind
theorem za(ds:List pn):Sized 16 (ds.map ldA):=fun z hz=>by obtain⟨d,_,rfl⟩:=List.mem_map.1 hz;rfl
theorem uDb:∃n,(U 55).bytes=n∧n≠0∧n≤1000:=⟨_,rfl,ad6,ad6⟩
theorem nI.app{d:pn}{q:Perm}(hg:nI h y ds sp)(hl:ds.length≤1000000)
  (hk:∀y' h' sp',nI h' y' (ds++ [d]) sp'→Touch sp h h'→(∀i∈sp',i∈sp∨h i=none)→Q y' h'):apK U h y (.sl [ldA d] q) Q (.slice 55):=by
 obtain⟨n,hb,hb0,hb1⟩:=uDb;have hm:(ds.length+1)*n≤140737488355328:=by
  have:=Nat.mul_le_mul (show ds.length+1≤1000001 by omega) hb1
  omega
 have s2:Sized 16 [ldA d]:=za [d];rcases hg with⟨rfl,rfl,rfl⟩|⟨k,rfl,k1,rfl⟩
 ·refine(qN ..).mpr ⟨ad6,ad3,?_⟩
  refine⟨by simp[Sized],by grind [uD],ad4,And.intro (fun hn=>by cases hn) (fun hn=>oI.own fun id hid=>?_)⟩
  rw[uD];exact hk _ _ [id] (.inr ⟨id,rfl,ahS,rfl⟩) (.of ((Ab.Sub.refl h).new hid _)) ad4
 ·refine(Cf ..).mpr ⟨ad6,ad3,?_⟩
  refine⟨by grind [uD,za],by grind [uD],ad4,by grind [uD],?_⟩
  rw[uD];exact hk _ _ [k] (.inr ⟨k,aea,ahS,rfl⟩) .upd aea
theorem HX(e:cI)(s:an)(d:pn)(p:Txt)(q:Perm)(jid x:Nat)(yl:AV)(sp:List Nat)(h:Heap)(hx:h x=some (kV jid e yl))(hg:nI h yl e.log sp)(hl:e.log.length≤1000000)(hp:p.length≤1000000):
  ai prog 59 [.ptr x 0,bN s,.agg (tP d),.sl (p.map aN) q] h fun r h' =>r= .tup []∧∃yl' sp',h' x=some (kV jid {e with s:=s,log:=e.log++ [d],ch:=sP e.ch p} yl')∧nI h' yl' (e.log++ [d]) sp'∧Touch (x::sp) h h'∧(∀i∈sp',i∈sp∨h i=none):=by
 obtain⟨a1,a2,a3,a4,a5,a6,a7,es⟩:=bE e.s;obtain⟨b1,b2,b3,b4,b5,b6,b7,es2⟩:=bE s;have g:=hx;unfold kV at g;rw[es]at g;simp only[List.cons_append,List.nil_append]at g;rw[show bN s= .agg (cD s)from rfl,es2]
 refine ai.of_wp hU func59 rfl aei 31 rfl [] rfl (adS rfl) ?_;refine .one hU hm ?_;simp only[go_sem];intro i1 h1;simp only[go_sem,tP,opC];intro i2 h2;have n2:=aB h2;have n21:=aF h2;have x1:i1≠x:=fun e=>agS
 have x2:i2≠x:=fun e=>agT
 generalize hH:upd (upd h i1 _) i2 _=H;have k1:H i1=some (.obj [.i s.tick,fO s.cases,jR s.reviews,ku s.notices,dW s.roles,b1,b2,b3,b4,b5,b6,b7,.i s.version] 40):=by rw[←hH,ag _ _ (Ne.symm n21),ah]
 have k2:H i2=some (.obj [.i d.op.kind,.s d.op.subj,.s d.op.case,.s d.op.field,.s d.op.to,.i d.op.val.kind,.i d.op.val.n,.s d.op.val.s,.i d.op.review,.s d.op.text,.s d.op.reason,.b d.op.glass,.i d.version,aR d.mark,.b d.glass,ay d.obls] 55):=by rw[←hH,ah]
 have kx:H x=_:=(by rw[←hH,ag _ _ (Ne.symm x2),ag _ _ (Ne.symm x1)]:H x=h x).trans g
 have hsub:Ab.Sub h H:=aeI;clear hH g;simp only[go_sem];refine .one hU hm ?_;simp only[go_sem,kx,k1];generalize hK:upd H x _=K;have kx2:K x=some (.obj [.ptr jid 0,.i s.tick,fO s.cases,jR s.reviews,ku s.notices,dW s.roles,b1,b2,b3,b4,b5,b6,b7,.i s.version,yl,.v (.int .u64 (e.ch.toNat:Int))] 126):=by rw[←hK,ah]
 have k22:K i2=_:=(by rw[←hK,ag _ _ x2]:K i2=H i2).trans k2
 have hT:Touch [x] H K:=by rw[←hK];exact .upd
 clear hK
 show WP _ _ _ _ _ _
 refine .one hU hm ?_;simp only[go_sem];refine .last (hm2 x (.obj [.ptr jid 0,.i s.tick,fO s.cases,jR s.reviews,ku s.notices,dW s.roles,b1,b2,b3,b4,b5,b6,b7,.i s.version,yl,.v (.int .u64 (e.ch.toNat:Int))] 126) i2 (.obj [.i d.op.kind,.s d.op.subj,.s d.op.case,.s d.op.field,.s d.op.to,.i d.op.val.kind,.i d.op.val.n,.s d.op.val.s,.i d.op.review,.s d.op.text,.s d.op.reason,.b d.op.glass,.i d.version,aR d.mark,.b d.glass,ay d.obls] 55)) [0,1,2,3,4,5,6,7,8,9] (.hm2 kx2 k22) ad7 rfl ad7 rfl ?_;simp only[go_sem,kx2,k22,pR _ _ (Ne.symm x2),pS];have hno:∀i∈sp,i≠x∧i≠i1∧i≠i2:=fun i hi=>by obtain⟨n,hn⟩:=hg.has i hi;exact⟨fun e=>(by rw[e,hx]at hn;cases hn),fun e=>ad4,fun e=>ad4⟩
 have hgK:nI K yl e.log sp:=(hg.touch (S:=[]) (.of hsub) aea).touch hT ad4;refine hgK.app hl fun z G sp' hg4 ht4 hsp' =>?_
 have kx3:=ht4 _ _ ad4 kx2;have k23:=ht4 _ _ ad4 k22;have xG:∀i∈sp',i≠x:=fun i hi e2=>by obtain⟨n,hn⟩:=hg4.has i hi;rw[e2,kx3]at hn;cases hn
 refine⟨.hm2 kx3 k23,?_⟩;have hrow:=hg4.row;obtain⟨qz,ez⟩:=hrow;subst ez;simp only[go_sem,kx3];refine .vc hU hm ?_;simp only[go_sem,ah];refine(Dk e.ch _ p _ (.sl _ _) hp).pthen ?_;simp only[go_sem,ah,oc];have hF:Touch [x] G (upd G x (some (.obj [.ptr jid 0,.i s.tick,fO s.cases,jR s.reviews,ku s.notices,dW s.roles,b1,b2,b3,b4,b5,b6,b7,.i s.version,(.sl ((e.log++ [d]).map ldA) qz),.v (.int .u64 ((sP e.ch p).toNat:Int))] 126))):=.upd;refine .same (.refl _) ⟨rfl,_,sp',?_,hg4.touch hF ad4,?_,fun i hi=>?_⟩
 ·simp_all [kV,ah]
 ·exact((((Touch.of (S:=[]) hsub).trans hT).trans ht4).trans hF).mono ad4
 ·rcases hsp' i hi with h3|h3
  ·grind
  ·right
   have:K i=none:=h3;cases hh:h i with
   |none=>rfl
   |some b=>have hxi:i≠x:=xG i hi;have:=hT _ _ ad4 (hsub _ _ hh);rw[h3]at this;cases this
def ij(h:Heap)(x jid did:Nat)(e:cI)(spl spj:List Nat):Prop:=
 ∃yl,h x=some (kV jid e yl)∧nI h yl e.log spl∧JAt h 211 jid did e.ps e.down spj
theorem yp(x jid did:Nat)(e:cI)(spl spj:List Nat)(h:Heap)(he:ij h x jid did e spl spj):ai prog 27 [.ptr x 0] h fun r h' =>r= .v (.int .u64 (e.ch.toNat:Int))∧h' =h:=by
 obtain⟨yl,hx,hg,hj⟩:=he;obtain⟨a1,a2,a3,a4,a5,a6,a7,es⟩:=bE e.s;have g:=hx;unfold kV at g;rw[es]at g;refine ad2 func27 7 [.tmp 2] fun hwf=>?_
 simp only[go_sem,g];exact aeh
theorem LX(x jid did:Nat)(e:cI)(spl spj:List Nat)(h:Heap)(he:ij h x jid did e spl spj):ai prog 25 [.ptr x 0] h fun r h' =>r= .b e.down∧h' =h:=by
 obtain⟨yl,hx,hg,hj⟩:=he;have g:=hx;unfold kV at g;refine ad2 func25 8 [.tmp 2] fun hwf=>?_
 simp only[go_sem,g];refine(tU jid did e.ps e.down spj h hj).pthen ?_;exact aiE
theorem DG(x jid did:Nat)(e:cI)(spl spj:List Nat)(h:Heap)(he:ij h x jid did e spl spj)(hl:e.ps.length≤1000000)(hp:∀p∈e.ps,p.length≤1000000):ai prog 30 [.ptr x 0] h fun r h' =>∃q,r= .sl (e.ps.map lp) q∧Ab.Sub h h' :=by
 obtain⟨yl,hx,hg,hj⟩:=he;have g:=hx;unfold kV at g;refine ad2 func30 8 [.tmp 2] fun hwf=>?_
 simp only[go_sem,g];refine(zK jid did e.ps e.down spj h hj hl hp).mono fun r h' ⟨q,e1,hs⟩=>?_
 subst e1;simp only[go_sem];exact .same (.refl _) ⟨q,rfl,hs⟩
theorem Ba(x jid did:Nat)(e:cI)(spl spj:List Nat)(h:Heap)(he:ij h x jid did e spl spj):ai prog 17 [.ptr x 0] h fun r h' =>r=bN e.s∧h' =h:=by
 obtain⟨yl,hx,hg,hj⟩:=he;obtain⟨a1,a2,a3,a4,a5,a6,a7,es⟩:=bE e.s;have g:=hx;unfold kV at g;rw[es]at g;refine ad2 func17 7 [.cell 2 40] fun hwf=>?_
 simp only[go_sem];intro i1 h1;have n1:i1≠x:=fun e=>ad4
 simp only[go_sem,aj,Ne.symm n1,n1,g,ah];refine .mk _ (.refl _) ((Sub.refl h).put h1 _) ⟨?_,rfl⟩;rw[show bN e.s= .agg (cD e.s)from rfl,es]
 rfl
theorem ON(x jid did:Nat)(e:cI)(spl spj:List Nat)(o:OpD)(h:Heap)(he:ij h x jid did e spl spj)(hd:e.down=true):ai prog 22 [.ptr x 0,opA o] h fun r h' =>r= .agg (kH (xq 9))∧h' =h:=by
 obtain⟨yl,hx,hg,hj⟩:=he;have g:=hx;unfold kV at g;refine ad2 func22 53 [.cell 4 53] fun hwf=>?_
 simp only[go_sem,opA,opC];intro i1 h1;have x1:i1≠x:=fun e=>ad4
 simp only[go_sem];intro i2 h2;have n2:=aB h2;have x2:i2≠x:=fun e=>ad4
 generalize hH:upd (upd h i1 _) i2 _=H;have kx:H x=_:=(by rw[←hH,ag _ _ (Ne.symm x2),ag _ _ (Ne.symm x1)]:H x=h x).trans g
 have k2:H i2=some (.obj og 53):=afW;have hsub:Ab.Sub h H:=aeI;unfold og at k2;simp only[go_sem,kx];refine(tU jid did e.ps e.down spj H (hj.sub hsub)).pthen ?_;rw[hd];simp only[go_sem,k2,ah];refine .mk _ (.refl _) (hsub.put n2 _) ⟨?_,rfl⟩;rfl
theorem jB(s:an)(r:jW)(d:pn)(e:Int):j8 (s,r,d,e)= .tup [bN s,.agg [.i r.err,.v (.complex .f64 (hbit r.mark.1) (hbit r.mark.2)),.b r.glass,.i r.val.kind,.i r.val.n,.s r.val.s,.b r.hidden,.i r.at_],.agg [.i d.op.kind,.s d.op.subj,.s d.op.case,.s d.op.field,.s d.op.to,.i d.op.val.kind,.i d.op.val.n,.s d.op.val.s,.i d.op.review,.s d.op.text,.s d.op.reason,.b d.op.glass,.i d.version,.v (.complex .f64 (hbit d.mark.1) (hbit d.mark.2)),.b d.glass,.sl (d.obls.map bh) .no],.i e]:=rfl
theorem RW(x jid did:Nat)(e:cI)(spl spj:List Nat)(o:OpD)(h:Heap)(he:ij h x jid did e spl spj)(hd:e.down=false)(hG:fM k e.s)(hk:k≤1000)(h64:kW o)(her:kP h)(hne:(aI e.s o).2.2.2≠0):ai prog 22 [.ptr x 0,opA o] h fun r h' =>r= .agg (kH (aI e.s o).2.1)∧h' =h:=by
 have hgd:=fun(G:Heap) (hG' :Ab.Sub h G)=>jA e.s hG hk o h64 G (her.sub hG')
 have he0:=he;obtain⟨yl,hx,hg,hj⟩:=he;obtain⟨a1,a2,a3,a4,a5,a6,a7,es⟩:=bE e.s;have g:=hx;unfold kV at g;rw[es]at g;simp only[List.cons_append,List.nil_append]at g;refine ad2 func22 53 [.cell 4 53] fun hwf=>?_
 simp only[go_sem,opA,opC];intro i1 h1;have x1:i1≠x:=fun e=>agS
 simp only[go_sem];intro i2 h2;have n2:=aB h2;have x2:i2≠x:=fun e=>agT
 have n21:=aF h2;generalize hH:upd (upd h i1 _) i2 _=H;have kx:H x=_:=(by rw[←hH,ag _ _ (Ne.symm x2),ag _ _ (Ne.symm x1)]:H x=h x).trans g
 have k2:H i2=some (.obj og 53):=afW;have k1:H i1=some (.obj (opC o) 46):=afj;have hsub:Ab.Sub h H:=aeI;clear hH g;unfold og at k2;simp only[go_sem,kx];refine(tU jid did e.ps e.down spj H (hj.sub hsub)).pthen ?_;rw[hd];generalize aI e.s o=gd at hgd hne⊢;obtain⟨S,R,D,E⟩:=gd;simp only at hne⊢;obtain⟨b1,b2,b3,b4,b5,b6,b7,es2⟩:=bE S;rw[jB,show bN e.s= .agg (cD e.s)from rfl,es,show bN S= .agg (cD S)from rfl,es2]at hgd
 simp only[opA,opC]at hgd;unfold opC at k1;simp only[go_sem];refine .tree _ (.quiet [0,1,2,3,4] 5 (.news [6,7,8,9,10] [11,12,13] (.seq [14,15,16,17]))) (.refl _) ad7 rfl ?_;simp only[go_sem,kx,k1];refine⟨_,fun G hs=>hgd G (hsub.trans hs),?_⟩
 simp only[go_sem];refine⟨.refl _,aea,?_⟩;intro jd hjd je hje jf hjf;have ned:=aF hje;have kje:=aB hje;have nfe:=aF hjf;have nfd:=aF (aB hjf);have kjf:=aB (aB hjf);simp only[go_sem,aj,ned,ned.symm,nfe,nfe.symm,nfd,nfd.symm];refine⟨aee,aee,aee,?_⟩;have mjd:=hsub.none hjd;have mje:=hsub.none kje;have mjf:=hsub.none kjf;have j2:jd≠i2:=fun e=>ahB
 have j2e:je≠i2:=fun e=>ahC
 have j2f:jf≠i2:=fun e=>ahD
 have dE:(E==0)=false:=beq_eq_false_iff_ne.mpr hne;have dE2:(E !=0)=true:=bne_iff_ne.mpr hne;simp only[go_sem,aj,dE,dE2,ned,ned.symm,nfe,nfe.symm,nfd,nfd.symm,j2,j2.symm,j2e,j2e.symm,j2f,j2f.symm,k2];refine .mk _ (.refl _) ?_ ⟨rfl,rfl⟩
 repeat (first|exact hsub|refine Ab.Sub.put ?_ aef _)
theorem Dw{U:TypeId→TI}{l:List Oper}{K:Exit→Env→Heap→Prop}(hh:∀H2,H2=h→nH P U n l ρ H2 K):nH P U n l ρ h K:=hh h rfl
theorem bA.upd{id i:Nat}{t:TypeId}{b:Option Blk}(hd:bA h id d)(hi:h i=some (.obj cs t))(h1:t≠121)(h2:t≠5):bA (Ab.upd h i b) id d:=by
 obtain⟨y,hy,hb⟩:=hd;refine⟨y,?_,?_⟩
 ·grind [ag,Option.some.inj]
 ·rcases hb with hb|⟨j,off,cs2,rfl,a1,a2,a3⟩
  ·exact ahX
  ·refine .oa ?_ a2 a3
   grind [ag,Option.some.inj]
theorem RZ(x jid did:Nat)(e:cI)(d:D)(spl spj:List Nat)(o:OpD)(h:Heap)(he:ij h x jid did e spl spj)(hdk:bA h did d)(hdo:d.ok)(hps:e.ps.length≤1000000)(hlg:e.log.length≤1000000)(hd:e.down=false)(hG:fM k e.s)(hk:k≤1000)(h64:kW o)(her:kP h)(hne:(aI e.s o).2.2.2=0)(hcode:(jadd d e.ps false (cK e.ch o)).2≠0):
  ai prog 22 [.ptr x 0,opA o] h fun r h' =>r= .agg (kH (doE e d o).2.2)∧∃spl' spj',ij h' x jid did (doE e d o).1 spl' spj'∧bA h' did (doE e d o).2.1∧Touch (x::did::jid::(spl++spj)) h h'∧(∀i∈spl',i∈spl∨h i=none)∧(∀i∈spj',i∈spj∨h i=none):=by
 have hF:=jz (dP hne);have hrl:=mL (h:=e.ch) hF;have hpl:=xN hF;have edo:doE e d o=(let a:=jadd d e.ps false (cK e.ch o);if a.2=0 then({mz e (aI e.s o) (cK e.ch o)with ps:=a.1.2.1,down:=a.1.2.2},a.1.1,(aI e.s o).2.1)else({e with ps:=a.1.2.1,down:=a.1.2.2},a.1.1,xq (a.2:Int))):=by exact ajP
 have hgd:=fun(G:Heap) (hG' :Ab.Sub h G)=>jA e.s hG hk o h64 G (her.sub hG')
 have he0:=he;obtain⟨yl,hx,hg,hj⟩:=he;obtain⟨a1,a2,a3,a4,a5,a6,a7,es⟩:=bE e.s;have g:=hx;unfold kV at g;rw[es]at g;simp only[List.cons_append,List.nil_append]at g;refine ad2 func22 53 [.cell 4 53] fun hwf=>?_
 simp only[go_sem,opA,opC];intro i1 h1;have x1:i1≠x:=fun e=>agS
 simp only[go_sem];intro i2 h2;have n2:=aB h2;have x2:i2≠x:=fun e=>agT
 have n21:=aF h2;generalize hH:upd (upd h i1 _) i2 _=H;have kx:H x=_:=(by rw[←hH,ag _ _ (Ne.symm x2),ag _ _ (Ne.symm x1)]:H x=h x).trans g
 have k2:H i2=some (.obj og 53):=afW;have k1:H i1=some (.obj (opC o) 46):=afj;have hsub:Ab.Sub h H:=aeI;clear hH g;unfold og at k2;simp only[go_sem,kx];refine(tU jid did e.ps e.down spj H (hj.sub hsub)).pthen ?_;rw[hd];generalize aI e.s o=gd at hgd hne edo⊢;obtain⟨S,R,D,E⟩:=gd;simp only at hne edo⊢;subst hne;obtain⟨b1,b2,b3,b4,b5,b6,b7,es2⟩:=bE S;rw[jB,show bN e.s= .agg (cD e.s)from rfl,es,show bN S= .agg (cD S)from rfl,es2]at hgd
 simp only[opA,opC]at hgd;unfold opC at k1;simp only[go_sem];refine .tree _ (.quiet [0,1,2,3,4] 5 (.news [6,7,8,9,10] [11,12,13] (.seq [14,15,16,17]))) (.refl _) ad7 rfl ?_;simp only[go_sem,kx,k1];refine⟨_,fun G hs=>hgd G (hsub.trans hs),?_⟩
 simp only[go_sem];refine⟨.refl _,aea,?_⟩;intro jd hjd je hje jf hjf;have ned:=aF hje;have kje:=aB hje;have nfe:=aF hjf;have nfd:=aF (aB hjf);have kjf:=aB (aB hjf);simp only[go_sem,aj,ned,ned.symm,nfe,nfe.symm,nfd,nfd.symm];refine⟨aee,aee,aee,?_⟩;have mjd:=hsub.none hjd;have mje:=hsub.none kje;have mjf:=hsub.none kjf;have j2:jd≠i2:=fun e=>ahB
 have j2e:je≠i2:=fun e=>ahC
 have j2f:jf≠i2:=fun e=>ahD
 refine Dw fun H2 w2=>?_
 have xjd:jd≠x:=fun e=>ahF
 have xje:je≠x:=fun e=>ahG
 have xjf:jf≠x:=fun e=>ahH
 have y1:jd≠i1:=fun e=>by rw[e,k1]at hjd;cases hjd
 have y2:je≠i1:=fun e=>by rw[e,k1]at kje;cases kje
 have y3:jf≠i1:=fun e=>by rw[e,k1]at kjf;cases kjf
 have hs2:Ab.Sub h H2:=afU;have fx:H2 x=_:=(by rw[w2];simp only[aj,xjd,xjd.symm,xje,xje.symm,xjf,xjf.symm,ne_eq,not_false_eq_true]:H2 x=H x).trans kx
 have f1:H2 i1=_:=(by rw[w2];simp only[aj,y1,y1.symm,y2,y2.symm,y3,y3.symm,ne_eq,not_false_eq_true]:H2 i1=H i1).trans k1
 have f2:H2 i2=_:=(by rw[w2];simp only[aj,j2,j2.symm,j2e,j2e.symm,j2f,j2f.symm,ne_eq,not_false_eq_true]:H2 i2=H i2).trans k2
 have fd:H2 jd=some (.obj [.i S.tick,fO S.cases,jR S.reviews,ku S.notices,dW S.roles,b1,b2,b3,b4,b5,b6,b7,.i S.version] 40):=aeo;have fe:H2 je=some (.obj [.i R.err,.v (.complex .f64 (hbit R.mark.1) (hbit R.mark.2)),.b R.glass,.i R.val.kind,.i R.val.n,.s R.val.s,.b R.hidden,.i R.at_] 53):=aeo;have ff:H2 jf=some (.obj (tP D) 55):=aeT;clear w2;refine .quiet ad7 ?_;simp only[go_sem,fx,f1];refine⟨_,CN e.ch o h64 (f_l hF) ad3 _,?_⟩;simp only[go_sem,fx];refine(Ie d hdo did jid e.ps e.down spj H2 _ (cK e.ch o) (hdk.keep hs2.fZ) (hj.sub hs2) (.sl _ _) ad3 hps).mono fun r H3 ⟨er,spj',hd3,hj3,hT3,hs3⟩=>?_
 subst er;have hin:∀q∈did::jid::spj,∃b,h q=some b∧∀cs,b≠ .obj cs 126:=fun q hq=>by exact aiH
 have out:∀q,h q=none→q∉did::jid::spj:=fun q hq hi=>by obtain⟨b,hb,_⟩:=hin q hi;rw[hq]at hb;cases hb
 have outx:x∉did::jid::spj:=fun hi=>by exact ajV
 have fx3:=hT3 _ _ outx fx;have f23:=hT3 _ _ (out i2 n2) f2;have fd3:=hT3 _ _ (out jd mjd) fd;have fe3:=hT3 _ _ (out je mje) fe;have ff3:=hT3 _ _ (out jf mjf) ff;rw[hd]at hd3 hj3⊢;generalize jadd d e.ps false (cK e.ch o)=a at hd3 hj3 edo hcode⊢;obtain⟨⟨d2,ps2,dn2⟩,code⟩:=a;simp only at hd3 hj3 edo hcode⊢;cases dc:((code:Int)==0)
 ·have hc:code≠0:=fun e2=>by subst e2;cases dc
  have dc2:((code:Int) !=0)=true:=by rw[bne,dc];rfl
  rw[if_neg hc]at edo;simp only[go_sem,dc2,f23,ah];have hsp:∀i∈spl,i∉did::jid::spj:=fun i hi hq=>by exact aiG
  have hg3:=(hg.touch (S:=[]) (.of hs2) (fun i hi hh=>afs)).touch hT3 hsp
  have hnl:∀i∈spl,i∉ [i2]:=fun i hi hh=>by obtain⟨n,hn⟩:=hg.has i hi;rw[List.mem_singleton.1 hh,n2]at hn;cases hn
  have hF4:∀b,Touch [i2] H3 (upd H3 i2 b):=fun b=> .upd
  have hj3' :=hj3;obtain⟨z,zs,hz1,hz2,_⟩:=hj3';refine .same (.refl _) ⟨by rw[edo];rfl,spl,spj',?_,?_,?_,fun i hi=> .inl hi,fun i hi=>?_⟩
  ·rw[edo]
   refine⟨yl,?_,hg3.touch (hF4 _) hnl,hj3.touch (hF4 _) ?_ ?_⟩
   ·rw[ag _ _ (Ne.symm x2),fx3]
    unfold kV;rw[es];rfl
   ·intro hh
    rw[List.mem_singleton.1 hh,f23]at hz1;cases hz1
   ·intro i hi hh
    obtain⟨n,hn⟩:=hz2.has i hi;rw[List.mem_singleton.1 hh,f23]at hn;cases hn
  ·rw[edo]
   exact hd3.upd f23 ad6 ad6
  ·exact(((Touch.of (S:=[]) hs2).trans hT3).trans (hF4 _)).mono (fun i hi=>by
    simp only[List.nil_append,List.mem_append,List.mem_cons,List.mem_singleton,List.not_mem_nil,or_false]at hi;rcases hi with(h3|h3|h3)|h3
    ·left;simp[h3]
    ·left;simp[h3]
    ·left;simp[h3]
    ·right;rw[h3];exact n2)
  ·rcases hs3 i hi with h3|h3
   ·exact .inl h3
   ·right;exact hs2.none h3
 ·exact absurd (eq_of_beq dc) ad3
theorem bA.touch{id:Nat}(hd:bA h id d)(ht:Touch S h h')(hS:∀i∈S,∀cs,h i≠some (.obj cs 121)∧h i≠some (.obj cs 5)):bA h' id d:=by
 obtain⟨y,hy,hb⟩:=hd;refine⟨y,ht _ _ ad4 hy,?_⟩;rcases hb with hb|⟨j,off,cs2,rfl,a1,a2,a3⟩
 ·exact ahX
 ·exact .oa (ht _ _ ad4 a1) a2 a3
theorem RY(x jid did:Nat)(e:cI)(d:D)(spl spj:List Nat)(o:OpD)(h:Heap)(he:ij h x jid did e spl spj)(hdk:bA h did d)(hdo:d.ok)(hps:e.ps.length≤1000000)(hlg:e.log.length≤1000000)(hd:e.down=false)(hG:fM k e.s)(hk:k≤1000)(h64:kW o)(her:kP h)(hne:(aI e.s o).2.2.2=0)(hcode:(jadd d e.ps false (cK e.ch o)).2=0):
  ai prog 22 [.ptr x 0,opA o] h fun r h' =>r= .agg (kH (doE e d o).2.2)∧∃spl' spj',ij h' x jid did (doE e d o).1 spl' spj'∧bA h' did (doE e d o).2.1∧Touch (x::did::jid::(spl++spj)) h h'∧(∀i∈spl',i∈spl∨i∈spj∨h i=none)∧(∀i∈spj',i∈spj∨h i=none):=by
 have hF:=jz (dP hne);have hrl:=mL (h:=e.ch) hF;have hpl:=xN hF;have edo:doE e d o=(let a:=jadd d e.ps false (cK e.ch o);if a.2=0 then({mz e (aI e.s o) (cK e.ch o)with ps:=a.1.2.1,down:=a.1.2.2},a.1.1,(aI e.s o).2.1)else({e with ps:=a.1.2.1,down:=a.1.2.2},a.1.1,xq (a.2:Int))):=by exact ajP
 have hgd:=fun(G:Heap) (hG' :Ab.Sub h G)=>jA e.s hG hk o h64 G (her.sub hG')
 have he0:=he;obtain⟨yl,hx,hg,hj⟩:=he;obtain⟨a1,a2,a3,a4,a5,a6,a7,es⟩:=bE e.s;have g:=hx;unfold kV at g;rw[es]at g;simp only[List.cons_append,List.nil_append]at g;refine ad2 func22 53 [.cell 4 53] fun hwf=>?_
 simp only[go_sem,opA,opC];intro i1 h1;have x1:i1≠x:=fun e=>agS
 simp only[go_sem];intro i2 h2;have n2:=aB h2;have x2:i2≠x:=fun e=>agT
 have n21:=aF h2;generalize hH:upd (upd h i1 _) i2 _=H;have kx:H x=_:=(by rw[←hH,ag _ _ (Ne.symm x2),ag _ _ (Ne.symm x1)]:H x=h x).trans g
 have k2:H i2=some (.obj og 53):=afW;have k1:H i1=some (.obj (opC o) 46):=afj;have hsub:Ab.Sub h H:=aeI;clear hH g;unfold og at k2;simp only[go_sem,kx];refine(tU jid did e.ps e.down spj H (hj.sub hsub)).pthen ?_;rw[hd];generalize aI e.s o=gd at hgd hne edo⊢;obtain⟨S,R,D,E⟩:=gd;simp only at hne edo⊢;subst hne;obtain⟨b1,b2,b3,b4,b5,b6,b7,es2⟩:=bE S;rw[jB,show bN e.s= .agg (cD e.s)from rfl,es,show bN S= .agg (cD S)from rfl,es2]at hgd
 simp only[opA,opC]at hgd;unfold opC at k1;simp only[go_sem];refine .tree _ (.quiet [0,1,2,3,4] 5 (.news [6,7,8,9,10] [11,12,13] (.seq [14,15,16,17]))) (.refl _) ad7 rfl ?_;simp only[go_sem,kx,k1];refine⟨_,fun G hs=>hgd G (hsub.trans hs),?_⟩
 simp only[go_sem];refine⟨.refl _,aea,?_⟩;intro jd hjd je hje jf hjf;have ned:=aF hje;have kje:=aB hje;have nfe:=aF hjf;have nfd:=aF (aB hjf);have kjf:=aB (aB hjf);simp only[go_sem,aj,ned,ned.symm,nfe,nfe.symm,nfd,nfd.symm];refine⟨aee,aee,aee,?_⟩;have mjd:=hsub.none hjd;have mje:=hsub.none kje;have mjf:=hsub.none kjf;have j2:jd≠i2:=fun e=>ahB
 have j2e:je≠i2:=fun e=>ahC
 have j2f:jf≠i2:=fun e=>ahD
 refine Dw fun H2 w2=>?_
 have xjd:jd≠x:=fun e=>ahF
 have xje:je≠x:=fun e=>ahG
 have xjf:jf≠x:=fun e=>ahH
 have y1:jd≠i1:=fun e=>by rw[e,k1]at hjd;cases hjd
 have y2:je≠i1:=fun e=>by rw[e,k1]at kje;cases kje
 have y3:jf≠i1:=fun e=>by rw[e,k1]at kjf;cases kjf
 have hs2:Ab.Sub h H2:=afU;have fx:H2 x=_:=(by rw[w2];simp only[aj,xjd,xjd.symm,xje,xje.symm,xjf,xjf.symm,ne_eq,not_false_eq_true]:H2 x=H x).trans kx
 have f1:H2 i1=_:=(by rw[w2];simp only[aj,y1,y1.symm,y2,y2.symm,y3,y3.symm,ne_eq,not_false_eq_true]:H2 i1=H i1).trans k1
 have f2:H2 i2=_:=(by rw[w2];simp only[aj,j2,j2.symm,j2e,j2e.symm,j2f,j2f.symm,ne_eq,not_false_eq_true]:H2 i2=H i2).trans k2
 have fd:H2 jd=some (.obj [.i S.tick,fO S.cases,jR S.reviews,ku S.notices,dW S.roles,b1,b2,b3,b4,b5,b6,b7,.i S.version] 40):=aeo;have fe:H2 je=some (.obj [.i R.err,.v (.complex .f64 (hbit R.mark.1) (hbit R.mark.2)),.b R.glass,.i R.val.kind,.i R.val.n,.s R.val.s,.b R.hidden,.i R.at_] 53):=aeo;have ff:H2 jf=some (.obj (tP D) 55):=aeT;clear w2;refine .quiet ad7 ?_;simp only[go_sem,fx,f1];refine⟨_,CN e.ch o h64 (f_l hF) ad3 _,?_⟩;simp only[go_sem,fx];refine(Ie d hdo did jid e.ps e.down spj H2 _ (cK e.ch o) (hdk.keep hs2.fZ) (hj.sub hs2) (.sl _ _) ad3 hps).mono fun r H3 ⟨er,spj',hd3,hj3,hT3,hs3⟩=>?_
 subst er;have hin:∀q∈did::jid::spj,∃b,h q=some b∧∀cs,b≠ .obj cs 126:=fun q hq=>by exact aiH
 have out:∀q,h q=none→q∉did::jid::spj:=fun q hq hi=>by obtain⟨b,hb,_⟩:=hin q hi;rw[hq]at hb;cases hb
 have outx:x∉did::jid::spj:=fun hi=>by exact ajV
 have fx3:=hT3 _ _ outx fx;have f23:=hT3 _ _ (out i2 n2) f2;have fd3:=hT3 _ _ (out jd mjd) fd;have fe3:=hT3 _ _ (out je mje) fe;have ff3:=hT3 _ _ (out jf mjf) ff;rw[hd]at hd3 hj3⊢;generalize jadd d e.ps false (cK e.ch o)=a at hd3 hj3 edo hcode⊢;obtain⟨⟨d2,ps2,dn2⟩,code⟩:=a;simp only at hd3 hj3 edo hcode⊢;subst hcode;rw[if_pos rfl]at edo;simp only[tP,opC,List.cons_append,List.nil_append]at ff3;have hsp:∀i∈spl,i∉did::jid::spj:=fun i hi hq=>by exact aiG
 have hg3:=(hg.touch (S:=[]) (.of hs2) (fun i hi hh=>afs)).touch hT3 hsp
 have hx3:H3 x=some (kV jid e yl):=by rw[fx3];unfold kV;rw[es];rfl
 have hgo:=HX e S D (cK e.ch o) .no jid x yl spl H3 hx3 hg3 hlg ad3;rw[show bN S= .agg (cD S)from rfl,es2]at hgo
 simp only[tP,opC,List.cons_append,List.nil_append]at hgo;simp only[go_sem,fd3,ff3];refine hgo.mono fun r H4 ⟨er,yl',spl',hx4,hg4,hT4,hs4⟩=>?_
 subst er;have hnl:∀q,h q=none→q∉x::spl:=fun q hq hh=>by
  rcases List.mem_cons.1 hh with rfl|hh
  ·rw[hx]at hq;cases hq
  ·obtain⟨n,hn⟩:=hg.has q hh
   rw[hn]at hq;cases hq
 have fe4:=hT4 _ _ (hnl je mje) fe3;have f24:=hT4 _ _ (hnl i2 n2) f23;simp only[go_sem,fe4,f24,ah];have hF4:∀b,Touch [i2] H4 (upd H4 i2 b):=fun b=> .upd
 have hj3' :=hj3;obtain⟨z,zs,hz1,hz2,_⟩:=hj3';have jx:jid∉x::spl:=fun hh=>by exact ajf
 have sx:∀i∈spj',i∉x::spl:=fun i hi hh=>by
  obtain⟨n,hn⟩:=hz2.has i hi;rcases List.mem_cons.1 hh with rfl|hh
  ·rw[hx3]at hn;cases hn
  ·obtain⟨n2,hn2⟩:=hg3.has i hh
   rw[hn2]at hn;cases hn
 have hj4:=hj3.touch hT4 jx sx;have hj4' :=hj4;obtain⟨z4,zs4,hz41,hz42,_⟩:=hj4';have hd4:=hd3.touch hT4 (fun i hi cs=>by
  rcases List.mem_cons.1 hi with rfl|hi
  ·rw[hx3];exact⟨fun hh=>afs,fun hh=>afs⟩
  ·obtain⟨n,hn⟩:=hg3.has i hi
   rw[hn];exact⟨fun hh=>afs,fun hh=>afs⟩)
 refine .same (.refl _) ⟨by rw[edo];rfl,spl',spj',?_,?_,?_,fun i hi=>?_,fun i hi=>?_⟩
 ·rw[edo]
  refine⟨yl',?_,hg4.touch (hF4 _) ?_,hj4.touch (hF4 _) ?_ ?_⟩
  ·rw[ag _ _ (Ne.symm x2),hx4]
   unfold kV;simp only[mz]
  ·intro i hi hh
   obtain⟨n,hn⟩:=hg4.has i hi;rw[List.mem_singleton.1 hh,f24]at hn;cases hn
  ·intro hh
   rw[List.mem_singleton.1 hh,f24]at hz41;cases hz41
  ·intro i hi hh
   obtain⟨n,hn⟩:=hz42.has i hi;rw[List.mem_singleton.1 hh,f24]at hn;cases hn
 ·rw[edo]
  exact hd4.upd f24 ad6 ad6
 ·exact((((Touch.of (S:=[]) hs2).trans hT3).trans hT4).trans (hF4 _)).mono (fun i hi=>by
   simp only[List.nil_append,List.mem_append,List.mem_cons,List.mem_singleton,List.not_mem_nil,or_false]at hi;rcases hi with((h3|h3|h3)|(h3|h3))|h3
   ·left;simp[h3]
   ·left;simp[h3]
   ·left;simp[h3]
   ·left;simp[h3]
   ·left;simp[h3]
   ·right;rw[h3];exact n2)
 ·rcases hs4 i hi with h3|h3
  ·exact .inl h3
  ·right
   cases hh:h i with
   |none=>exact .inr rfl
   |some b=>
    left
    by_cases hm3:i∈did::jid::spj
    ·simp only[List.mem_cons]at hm3
     rcases hm3 with rfl|rfl|hm3
     ·obtain⟨w,hw,_⟩:=hd3
      rw[hw]at h3;cases h3
     ·rw[hz1]at h3;cases h3
     ·exact hm3
    ·have:=hT3 _ _ hm3 (hs2 _ _ hh)
     rw[h3]at this;cases this
 ·rcases hs3 i hi with h3|h3
  ·exact .inl h3
  ·right;exact hs2.none h3
theorem QA(x jid did:Nat)(e:cI)(d:D)(spl spj:List Nat)(o:OpD)(h:Heap)(he:ij h x jid did e spl spj)(hdk:bA h did d)(hdo:d.ok)(hps:e.ps.length≤1000000)(hlg:e.log.length≤1000000)(hG:fM k e.s)(hk:k≤1000)(h64:kW o)(her:kP h):
  ai prog 22 [.ptr x 0,opA o] h fun r h' =>r= .agg (kH (doE e d o).2.2)∧∃spl' spj',ij h' x jid did (doE e d o).1 spl' spj'∧bA h' did (doE e d o).2.1∧Touch (x::did::jid::(spl++spj)) h h'∧(∀i∈spl',i∈spl∨i∈spj∨h i=none)∧(∀i∈spj',i∈spj∨h i=none):=by
 have stay:∀R:jW,doE e d o=(e,d,R)→∀(r:AV) (h' :Heap),(r= .agg (kH R)∧h' =h)→r= .agg (kH (doE e d o).2.2)∧∃spl' spj',ij h' x jid did (doE e d o).1 spl' spj'∧bA h' did (doE e d o).2.1∧Touch (x::did::jid::(spl++spj)) h h'∧(∀i∈spl',i∈spl∨i∈spj∨h i=none)∧(∀i∈spj',i∈spj∨h i=none):=fun R ed r h' ⟨e1,e2⟩=>by subst e2;rw[ed];exact⟨e1,spl,spj,he,hdk,.refl _ _,fun i hi=> .inl hi,fun i hi=> .inl hi⟩
 cases hd:e.down
 case true=>exact(ON x jid did e spl spj o h he hd).mono (stay _ (by simp_all [doE,if_pos]))
 by_cases hne:(aI e.s o).2.2.2=0
 case neg=>exact(RW x jid did e spl spj o h he hd hG hk h64 her hne).mono (stay _ (by simp_all [doE,if_neg,if_pos]))
 by_cases hcode:(jadd d e.ps false (cK e.ch o)).2=0
 ·exact RY x jid did e d spl spj o h he hdk hdo hps hlg hd hG hk h64 her hne hcode
 ·exact(RZ x jid did e d spl spj o h he hdk hdo hps hlg hd hG hk h64 her hne hcode).mono fun r h' ⟨a,s1,s2,b,c,f,g,i⟩=>⟨a,s1,s2,b,c,f,fun q hq=>(g q hq).imp id .inr,i⟩
theorem Qw{U:TypeId→TI}{a b:Code}{K:Exit→Env→Heap→Prop}(hh:∀H2,H2=h→nF P U n a b ρ H2 K y):nF P U n a b ρ h K y:=hh h rfl
theorem kP.touch(he:kP h)(ht:Touch S h h')(hS:∀i∈S,∀b vs,h i≠some (.ro b vs)):kP h' :=by obtain⟨ev,hev,id,hi⟩:=he;exact⟨ev,hev,id,ht _ _ ad4 hi⟩
theorem F9{l:List Txt}{i:Nat}(hi:i<l.length)(h:lP e (l.take i)=some e1):lP e (l.take (i+1))=kJ e1 l[i]:=by grind [List.take_succ_eq_append_getElem,sR]
theorem F8{l:List Txt}{i:Nat}(h:lP e (l.take i)=none):lP e l=none:=by
 rw[←List.take_append_drop i l];generalize l.take i=a at h⊢
 induction a generalizing e with
 |nil=>cases h
 |cons p a ih=>
  simp only[List.cons_append,lP]at h⊢
  grind
theorem S6{e':cI}(h:kJ e p=some e')(hG:fM k e.s):fM (k+1) e'.s:=by
 unfold kJ at h;cases hr:jc e p with
 |none=>grind
 |some o=>
  rw[hr]at h;simp only at h;split at h
  ·cases h;exact nQ o hG
  grind
theorem PE(h:jc e p=some o)(hl:p.length≤1000000):kW o:=by grind [jc,HW,List.length_drop]
def u7(h h' :Heap)(did:Nat)(ps:List Txt)(r:AV):Prop:=match vO ps with
 |none=>r= .tup [.v (.pointer none),.i 7]
 |some e=>∃x jid spl spj,r= .tup [.ptr x 0,.i 0]∧ij h' x jid did e spl spj∧(∀i∈x::jid::(spl++spj),h i=none)
theorem newL:cD td= [.i 0,.sl [] .no,.sl [] .no,.sl [] .no,.sl [] .no,.s jQ,.b false,.i 6,.sl [] .no,.sl [] .no,.sl [] .no,.sl [] .no,.i 0]:=rfl
theorem E9(d:D)(hdo:d.ok)(did:Nat)(h:Heap)(hdk:bA h did d)(her:kP h)(hps:(scan d.b).1.length≤900):
  ai prog 15 [.ptr did 0] h fun r h' =>bA h' did d.bW.1∧Keep did h h'∧if d.bW.2=0 then u7 h h' did (scan d.b).1 r else r= .tup [.v (.pointer none),.i (d.bW.2:Nat)]:=by
 have hlen:=(PN d.b).2;refine ad2 func15 62 [.tmp 2,.tmp 3] fun hwf=>?_
 simp only[go_sem];refine(Mv d hdo did h hdk).mono fun r h1 ⟨J,e1,hd1,kp1,hif⟩=>?_
 subst e1;have her1:kP h1:=her.touch (.keep kp1) (fun i hi b vs hh=>by obtain⟨y,hy,_⟩:=hdk;rw[List.mem_singleton.1 hi,hy]at hh;cases hh)
 generalize (scan d.b).1=ps at hps hlen hif⊢;generalize d.bW=od at hd1 hif⊢;obtain⟨d1,c1⟩:=od;simp only at hd1 hif⊢
 by_cases hc:c1=0
 case neg=>
  rw[if_neg hc]at hif;subst hif;have t1:(((c1:Nat):Int) !=0)=true:=by simp[hc]
  simp only[go_sem,t1];exact .same (.refl _) ⟨hd1,kp1,by rw[if_neg hc];rfl⟩
 subst hc;rw[if_pos rfl]at hif;obtain⟨jid,spj,rfl,hjn,hj,hsn⟩:=hif;simp only[go_sem];refine(MP h1 her1).pthen ?_;rw[show bN td= .agg (cD td)from rfl,newL]
 simp only[go_sem];intro x hx;have hxh:h x=none:=by
  cases hh:h x with
  |none=>rfl
  |some k=>
   by_cases e:x=did
   ·subst e
    obtain⟨y,hy,_⟩:=hd1;rw[hy]at hx;cases hx
   ·rw[kp1 _ _ e hh]at hx;cases hx
 simp only[go_sem];refine inH fun H1 w1=>?_
 have hs1:Ab.Sub h1 H1:=by rw[w1];exact(Sub.refl h1).new hx _
 have hE1:ij H1 x jid did (gE ps) [] spj:=⟨_,by rw[w1,ah];rfl,.inl ⟨rfl,rfl,rfl⟩,hj.sub hs1⟩
 clear w1;have hK1:Keep did h H1:=kp1.trans (hs1.keep did);refine(zK jid did ps false spj H1 (hj.sub hs1) ad3 (fun p hp=>by have:=hlen p hp;omega)).mono fun r h2 ⟨q,er,hs2⟩=>?_
 subst er;simp only[go_sem,adT];refine .intro (fun m ρ H=>∃(i:Nat) (e:cI) (spl:List Nat),lP (gE ps) (ps.take i)=some e∧e.ps=ps∧e.down=false∧e.log.length=i∧fM i e.s∧ij H x jid did e spl spj∧bA H did d1∧Keep did h H∧(∀j∈spl,h j=none)∧i≤ps.length∧m=ps.length - i∧lk ρ 6=some (.ptr x 0)∧lk ρ 28=some (.sl (ps.map lp) q)∧lk ρ 29=some (.i ps.length)∧lk ρ 30=some (.i i)) (ps.length - 0) ?_ ?_
 ·obtain⟨yl,a,b,c⟩:=hE1
  refine⟨0,gE ps,[],rfl,rfl,rfl,rfl,pP,⟨yl,hs2 _ _ a,b.touch (S:=[]) (.of hs2) (fun i hi=>by cases hi),c.sub hs2⟩,(hd1.keep hs1.fZ).keep hs2.fZ,hK1.trans (hs2.keep did),fun j hj=>(by cases hj),ad3,rfl,?_,?_,?_,?_⟩<;>simp only[go_sem]
 rintro m ρ H ⟨i,e,spl,hf,hps2,hdn,hlg,hG,hE,hD,hK,hsl,hi,rfl,r6,r28,r29,r30⟩
 by_cases hlt:i<ps.length
 case neg=>
  have ei:i=ps.length:=ad3;have t1:decide ((i:Int)<(ps.length:Int))=false:=decide_eq_false ad3;rw[ei,List.take_length]at hf;simp only[go_sem,r6,r28,r29,r30,t1];refine .same (.refl _) ⟨hD,hK,?_⟩
  show u7 h H did ps (.tup [.ptr x 0,.i 0])
  unfold u7 vO;rw[hf];exact⟨x,jid,spl,spj,rfl,hE,fun j hj=>by
   simp only[List.mem_cons,List.mem_append]at hj;rcases hj with rfl|rfl|hj|hj
   ·exact hxh
   ·exact hjn
   ·exact hsl _ hj
   ·exact(hsn _ hj).1⟩
 have t1:decide ((i:Int)<(ps.length:Int))=true:=decide_eq_true ad3;have w3:=adZ i ad3;have ix:=fun k=>fC.eq (xs:=ps.map lp) (sz:=1) i aep aec k
 have hf1:=F9 hlt hf;have hpl:=hlen _ (adY hlt);rw[adU]at ix;obtain⟨p,ep⟩:∃p,ps[i]=p:=⟨_,rfl⟩;rw[ep]at ix hf1 hpl;simp only[lp]at ix;have hEx:=hE;obtain⟨yl,hx2,hgl,hj2⟩:=hE;simp only[go_sem,r6,r28,r29,r30,t1,ix];refine(L8 p .no e yl jid x H ad3 hx2).pthen ?_;unfold BJ;have her2:kP H:=her.touch (.keep hK) (fun i hi b vs hh=>by obtain⟨y,hy,_⟩:=hdk;rw[List.mem_singleton.1 hi,hy]at hh;cases hh)
 have bad:∀H',Ab.Sub H H'→kJ e p=none→bA H' did d1∧Keep did h H'∧u7 h H' did ps (.tup [.v (.pointer none),.i 7]):=fun H' hs hn=>by refine⟨hD.keep hs.fZ,hK.trans (hs.keep did),?_⟩;unfold u7 vO;rw[F8 (hf1.trans hn)]
 cases hr:jc e p with
 |none=>
  have hn:kJ e p=none:=by unfold kJ;rw[hr]
  simp only[go_sem,hr,opA,opC,vA,ax,Option.getD,Option.isSome];intro i9 h9;simp only[go_sem];exact .mk _ (.refl _) (.refl _) (bad _ ((Sub.refl H).new h9 _) hn)
 |some o=>
  have h64:=PE hr ad3;have hst:kJ e p=if(aI e.s o).2.2.2=0 then some (mz e (aI e.s o) p)else none:=by unfold kJ;rw[hr]
  obtain⟨a1,a2,a3,a4,a5,a6,a7,es⟩:=bE e.s;have hgd:=fun(G:Heap) (hG' :Ab.Sub H G)=>jA e.s hG ad3 o h64 G (her2.sub hG')
  have hG2:=nQ o hG;have g:=hx2;unfold kV at g;rw[es]at g;simp only[List.cons_append,List.nil_append]at g;simp only[go_sem,hr,opA,opC,Option.getD,Option.isSome];intro i9 h9;have x9:i9≠x:=fun e=>by rw[e,hx2]at h9;cases h9
  simp only[go_sem];generalize hH:upd H i9 _=H1;have kx:H1 x=_:=(by rw[←hH,ag _ _ (Ne.symm x9)]:H1 x=H x).trans g
  have k9:H1 i9=some (.obj (opC o) 46):=afW;have hsub:Ab.Sub H H1:=by rw[←hH];exact(Sub.refl H).new h9 _
  clear hH g;generalize aI e.s o=gd at hgd hst hG2⊢;obtain⟨S,R,D,E⟩:=gd;simp only at hst hG2;obtain⟨b1,b2,b3,b4,b5,b6,b7,es2⟩:=bE S;rw[jB,show bN e.s= .agg (cD e.s)from rfl,es,show bN S= .agg (cD S)from rfl,es2]at hgd
  simp only[opA,opC]at hgd;unfold opC at k9;refine .tree _ (.quiet [0,1,2,3,4] 5 (.news [6,7,8,9,10] [11,12,13] (.seq [14,15,16,17]))) (.refl _) ad7 rfl ?_;simp only[go_sem,r6,kx,k9];refine⟨_,fun G hs=>hgd G (hsub.trans hs),?_⟩
  simp only[go_sem];refine⟨.refl _,aea,?_⟩;intro jd hjd je hje jf hjf;have ned:=aF hje;have kje:=aB hje;have nfe:=aF hjf;have nfd:=aF (aB hjf);have kjf:=aB (aB hjf);simp only[go_sem,aj,ned,ned.symm,nfe,nfe.symm,nfd,nfd.symm];refine⟨aee,aee,aee,?_⟩;refine Qw fun H2 w2=>?_
  have xjd:jd≠x:=fun e=>ahF
  have xje:je≠x:=fun e=>ahG
  have xjf:jf≠x:=fun e=>ahH
  have hs2:Ab.Sub H H2:=by have:=hsub.none hjd;have:=hsub.none kje;have:=hsub.none kjf;rw[w2];repeat (first|exact hsub|refine Ab.Sub.put ?_ aef _)
  have fx:H2 x=_:=(by rw[w2];simp only[aj,xjd,xjd.symm,xje,xje.symm,xjf,xjf.symm,ne_eq,not_false_eq_true]:H2 x=H1 x).trans kx
  have fd:H2 jd=some (.obj [.i S.tick,fO S.cases,jR S.reviews,ku S.notices,dW S.roles,b1,b2,b3,b4,b5,b6,b7,.i S.version] 40):=by rw[w2];simp only[aj,ned,ned.symm,nfe,nfe.symm,nfd,nfd.symm,ah,ne_eq,not_false_eq_true]
  have ff:H2 jf=some (.obj (tP D) 55):=by rw[w2];simp only[aj,ned,ned.symm,nfe,nfe.symm,nfd,nfd.symm,ah,ne_eq,not_false_eq_true];rfl
  clear w2;simp only[tP,opC,List.cons_append,List.nil_append]at ff
  by_cases hE0:E=0
  case neg=>
   have t2:(E !=0)=true:=by simp[hE0]
   rw[if_neg hE0]at hst;simp only[go_sem,t2];exact .same (.refl _) (bad _ hs2 hst)
  subst hE0;rw[if_pos rfl]at hst;have hx3:H2 x=some (kV jid e yl):=by rw[fx];unfold kV;rw[es];rfl
  have hg3:=hgl.touch (S:=[]) (.of hs2) (fun i hi hh=>afs)
  have hgo:=HX e S D p .no jid x yl spl H2 hx3 hg3 ad3 ad3;rw[show bN S= .agg (cD S)from rfl,es2]at hgo
  simp only[tP,opC,List.cons_append,List.nil_append]at hgo;simp only[go_sem,r6,fd,ff];refine hgo.mono fun r H4 ⟨er,yl',spl',hx4,hg4,hT4,hs4⟩=>?_
  subst er;simp only[go_sem,r6,r28,r29,r30,w3];have hout:∀j∈x::spl,h j=none:=fun j hj=>by
   rcases List.mem_cons.1 hj with rfl|hj
   ·exact hxh
   ·exact hsl _ hj
  have hdid:h did≠none:=by obtain⟨y,hy,_⟩:=hdk;rw[hy];simp
  have hj3:=hj2.sub hs2;have hD2:=hD.keep hs2.fZ;refine⟨_,?_,i+1,mz e (S,R,D,0) p,spl',hf1.trans hst,hps2,hdn,?_,hG2,⟨yl',hx4,hg4,?_⟩,?_,?_,?_,ad3,rfl,?_,?_,?_,?_⟩
  ·omega
  ·simp[mz,hlg]
  ·refine hj3.touch hT4 ?_ ?_
   ·obtain⟨z,zs,hz1,_⟩:=hj3
    intro hh;exact ajf
   ·obtain⟨z,zs,_,hz2,_⟩:=hj3
    intro j hj hh;obtain⟨n,hn⟩:=hz2.has j hj;rcases List.mem_cons.1 hh with rfl|hh
    ·rw[hx3]at hn;cases hn
    ·obtain⟨n2,hn2⟩:=hg3.has j hh
     rw[hn2]at hn;cases hn
  ·exact hD2.touch hT4 (fun j hj cs=>by
    rcases List.mem_cons.1 hj with rfl|hj
    ·rw[hx3];exact⟨fun hh=>afs,fun hh=>afs⟩
    ·obtain⟨n,hn⟩:=hg3.has j hj
     rw[hn];exact⟨fun hh=>afs,fun hh=>afs⟩)
  ·intro j k hj hk
   exact hT4 _ _ (fun hh=>by rw[hout j hh]at hk;cases hk) (hs2 _ _ (hK _ _ hj hk))
  ·intro j hj
   rcases hs4 j hj with hh|hh
   ·exact hsl _ hh
   ·cases hk:h j with
    |none=>rfl
    |some k=>
     by_cases e1:j=did
     ·subst e1
      obtain⟨y,hy,_⟩:=hD2;rw[hy]at hh;cases hh
     ·rw[hs2 _ _ (hK _ _ e1 hk)]at hh;cases hh
  all_goals simp only[go_sem,r6,r28,r29]
theorem ij.sub{x jid did:Nat}(he:ij h x jid did e spl spj)(hs:Ab.Sub h h'):ij h' x jid did e spl spj:=by obtain⟨yl,a,b,c⟩:=he;exact⟨yl,hs _ _ a,b.touch (S:=[]) (.of hs) aea,c.sub hs⟩
theorem LI(y:AV)(xs:List AV)(h:Heap)(hb:Rd h 16 y xs)(hl:xs.length≤1000000):ai prog 69 [y] h fun r h' =>OwE 55 h h' 16 r xs∧Ab.Sub h h' :=by
 refine ad2 func69 8 [.tmp 2] fun hwf=>?_
 simp only[go_sem];refine hb.nil fun b hxs=>?_
 cases b
 ·simp only[go_sem]
  refine hb.src (U:=U) (e:=55) aei ⟨hb.1,ad3,OwE.j3 (U:=U) (sz:=16) aei aei hb.1 fun y' h' hw hs=>?_⟩
  exact ain
 ·exact aik
theorem Jc(y:AV)(xs:List AV)(h:Heap)(hb:Rd h 3 y xs)(hl:xs.length≤10000000)(hp:gI xs=true):ai prog 70 [y] h fun r h' =>r= .sl xs .no∧h' =h:=
 ai.freeze fun g hg _=>ai.mono (Q:=fun r h' =>OwE 145 g h' 3 r xs∧Ab.Sub g h') (by
  have hb:=hb.sub hg;refine ad2 func70 8 [.tmp 2] fun hwf=>?_
  simp only[go_sem];refine hb.nil fun b hxs=>?_
  cases b
  ·simp only[go_sem]
   refine hb.src (U:=U) (e:=145) aei ⟨hb.1,ad3,OwE.j3 (U:=U) (sz:=3) aei aei hb.1 fun y' h' hw hs=>?_⟩
   exact ain
  ·have hx:xs= []:=by grind
   simp only[go_sem];exact .same (.refl _) ⟨.inl ⟨hx,rfl⟩,.refl _⟩) fun r h' ⟨h1,h2⟩=>⟨h2,_,h1.frz hp,rfl⟩
theorem Pb(d:pn):cO (ldA d)=true:=by
 have:=bn (f:=bh) (fun _=>rfl) d.obls
 simp[ldA,tP,opC,ay,aR,cO,gI,this]
theorem Q6:(U 36).sz≠0:=ad6
theorem Th:(U 36).sz=1:=aei
theorem xE(x jid did:Nat)(e:cI)(spl spj:List Nat)(h:Heap)(he:ij h x jid did e spl spj)(hl:e.log.length≤1000000)(ho:∀d∈e.log,d.obls.length≤10000000):
  ai prog 24 [.ptr x 0] h fun r h' =>r= .sl (e.log.map ldA) .no∧h' =h:=
 ai.freeze fun g hgs _=>by
 obtain⟨yl,hx,hg,hj⟩:=he.sub hgs;obtain⟨a1,a2,a3,a4,a5,a6,a7,es⟩:=bE e.s;have gx:=hx;unfold kV at gx;rw[es]at gx;simp only[List.cons_append,List.nil_append]at gx;obtain⟨q,rfl⟩:=hg.row;generalize e.log=l at hl ho gx⊢;refine ad2 func24 27 [.tmp 2] fun hwf=>?_
 simp only[go_sem,gx];refine(LI _ (l.map ldA) g (.sl (za l) q) ad4).mono fun z M ⟨o1,s1⟩=>?_
 simp only[go_sem,o1.rd.len,adT];refine .intro (fun m ρ G=>∃i:Nat,Ab.Sub M G∧i≤l.length∧m=l.length - i∧lk ρ 3=some z∧lk ρ 11=some (.i l.length)∧lk ρ 12=some (.i i)) l.length ?_ ?_
 ·refine⟨0,.refl _,ad3,rfl,?_,?_,?_⟩<;>simp only[go_sem]
 rintro m ρ G ⟨i,hs,hi,rfl,r3,r11,r12⟩
 have v1:=o1.sub hs
 by_cases hlt:i<l.length
 case neg=>have d1:decide ((i:Int)<(l.length:Int))=false:=decide_eq_false ad3;simp only[go_sem,r3,r11,r12,d1];exact .same (.refl _) ⟨s1.trans hs,_,v1.frz (bn Pb _),rfl⟩
 have d1:decide ((i:Int)<(l.length:Int))=true:=decide_eq_true ad3;have w1:IntKind.i64.wrap ((i:Int)+1)=((i+1:Nat):Int):=aeg;have hob:=ho _ (adY hlt);obtain⟨d,ed⟩:∃d,l[i]=d:=⟨_,rfl⟩;have hxi:(l.map ldA)[i]'ad4=ldA d:=ad4;rw[ed]at hob;simp only[go_sem,r3,r11,r12,d1];refine v1.rd.idx (U:=U) (e:=55) i rfl ad4 uD ad6 fun p hp1=>?_
 simp only[go_sem];refine hp1.field (f:=4) (off:=15) (t:=36) rfl Q6 fun p2 hp2=>?_
 have hld:=hp2.part (U:=U) (ty:=36) Q6 (by rw[hxi,Th];exact adS rfl)
 simp only[go_sem,hld,hxi,ldA,tP,opC,ay];refine(Jc _ (d.obls.map bh) G (eL bh 3 (fun _=>rfl) _ _) ad4 (bn (fun _=>rfl) _)).pthen ?_
 simp only[go_sem,r3,r12];obtain⟨id1,hg1,u1⟩:=v1.ow ad4;refine u1.idx (U:=U) (e:=55) i rfl ad4 uD ad6 ?_;simp only[go_sem];have u1' :=u1;obtain⟨cap,rest,ey,hid,hr,hcap,hsz⟩:=u1';have hbd:i*16+16≤(aq (l.map ldA)++rest).length:=by grind [adX,aZ,adT]
 have e5:List.take (i*16+15) (aq (l.map ldA)++rest)++ [.sl (d.obls.map bh) .no]++List.drop (i*16+15+1) (aq (l.map ldA)++rest)=aq (l.map ldA)++rest:=by refine(kG hsz i ad4 15 [.sl (d.obls.map bh) .no] (adS rfl)).trans ?_;rw[oZ];rw[List.getElem?_eq_getElem ad4,hxi];rfl
 simp only[go_sem,r12,hid];rw[e5,tC hid];refine⟨ad3,?_⟩;simp only[go_sem,w1];refine⟨_,?_,i+1,hs,ad3,rfl,?_,?_,?_⟩
 ·omega
 all_goals simp only[go_sem,r3,r11]
end Go.Proofs.YtokahfmoollblaaGreatDoor
namespace Go.Bf
open Go Go.Ab Go.Proofs.YtokahfmoollblaaGreatDoor
variable {e:cI}{o:OpD}{d:D}{ps:List Txt}
def nv(e:cI)(o:OpD):cI:={mz e (aI e.s o) (cK e.ch o)with ps:=e.ps++ [cK e.ch o],down:=false}
theorem LU(d:D)(h:e.down=false)(hg:(aI e.s o).2.2.2≠0):doE e d o=(e,d,(aI e.s o).2.1):=by simp_all [doE,if_neg,if_pos]
theorem RX{d':D}{dn:Bool}{c:Nat}(h:e.down=false)(hg:(aI e.s o).2.2.2=0)(hj:jadd d e.ps false (cK e.ch o)=((d',ps,dn),c)):
  doE e d o=if c=0 then({mz e (aI e.s o) (cK e.ch o)with ps:=ps,down:=dn},d',(aI e.s o).2.1)else({e with ps:=ps,down:=dn},d',xq (c:Int)):=by
 simp_all [doE,if_neg]
theorem Cm(h:e.down=false)(hg:(aI e.s o).2.2.2=0)(h1:d.off=false)(h2:d.f=0)(hr:d.b.length+(frame (cK e.ch o)).length≤d.q):
  doE e d o=({mz e (aI e.s o) (cK e.ch o)with ps:=e.ps++ [cK e.ch o],down:=false},{d with b:=d.b++frame (cK e.ch o),sy:=(d.b++frame (cK e.ch o)).length},(aI e.s o).2.1):=by
 have hl:=mL (h:=e.ch) (jz (dP hg));rw[RX h hg (VK h1 h2 ad3 ad3 hr),if_pos rfl]
theorem HK(h:e.down=false)(hg:(aI e.s o).2.2.2=0)(h1:d.off=false)(hr:d.q<d.b.length+(frame (cK e.ch o)).length):doE e d o=(e,d,xq 8):=by have hl:=mL (h:=e.ch) (jz (dP hg));rw[RX h hg (Mt h1 ad3 ad3 hr),if_neg ad6];obtain⟨_,_,_,_,dn⟩:=e;cases h;rfl
theorem Mu{p:Txt}(h1:d.off=false)(h2:d.f=1∨d.f=2)(hp1:1≤p.length)(hp2:p.length≤8192)(hf:d.b.length+(frame p).length≤d.q):
  jadd d ps false p=(({d with b:=d.b++frame p,f:=0,off:=true},ps,true),9):=by
 obtain⟨q,b,s,f,off⟩:=d;subst h1;have hno:¬(p.length=0∨8192<p.length):=ad3;have ha:∀n:Nat,D.append ⟨q,b,s,n,false⟩ (frame p)=(D.burn ⟨q,b++frame p,s,n,false⟩,if(D.burn ⟨q,b++frame p,s,n,false⟩).off then 9 else 0):=fun n=>jL rfl hf
 unfold jadd;rw[if_neg aea,if_neg hno,ha];rcases h2 with rfl|rfl<;>rfl
theorem RV(h:e.down=false)(hg:(aI e.s o).2.2.2=0)(h1:d.off=false)(h2:d.f=1∨d.f=2)(hr:d.b.length+(frame (cK e.ch o)).length≤d.q):
  doE e d o=({e with down:=true},{d with b:=d.b++frame (cK e.ch o),f:=0,off:=true},xq 9):=by
 have hl:=mL (h:=e.ch) (jz (dP hg));rw[RX h hg (Mu h1 h2 ad3 ad3 hr),if_neg ad6];rfl
end Go.Bf
namespace Go.Proofs.YtokahfmoollblaaGreatDoor
open Go Go.Ab Go.Bf Tryz
variable {h0 h h':Heap}{S spl spj:List Nat}{x jid k:Nat}{e:cI}{d:D}
theorem vP(hs:Ab.Sub h0 h)(ht:Touch S h h')(hn:∀i∈S,h0 i=none):Ab.Sub h0 h' :=fun j k hj=>ht j k ad4 (hs j k hj)
theorem uL{i:Nat}(hs:Ab.Sub h0 h)(ht:Keep i h h')(hn:h0 i=none):Ab.Sub h0 h' :=vP hs (.keep ht) ad4
theorem L2{did:Nat}(he:ij h x jid did e spl spj)(hd:bA h did d):∀i∈x::did::jid::(spl++spj),h i≠none:=fun i hi=>by
 obtain⟨yl,a,b,z,zs,c1,c2,_⟩:=he;obtain⟨y,d1,_⟩:=hd;simp only[List.mem_cons,List.mem_append]at hi;rcases hi with rfl|rfl|rfl|hi|hi
 ·grind
 ·grind
 ·grind
 ·obtain⟨n,e⟩:=b.has i hi;grind
 ·obtain⟨n,e⟩:=c2.has i hi;grind
theorem KG(q:Nat)(hq:q≤1048576)(did:Nat)(h:Heap)(hdk:bA h did ⟨q,[],0,0,false⟩)(her:kP h):
  ai prog 15 [.ptr did 0] h fun r h' =>∃x jid spl spj,r= .tup [.ptr x 0,.i 0]∧ij h' x jid did (gE []) spl spj∧bA h' did ⟨q,[],0,0,false⟩∧Keep did h h'∧(∀i∈x::jid::(spl++spj),h i=none):=by
 have hok:D.ok ⟨q,[],0,0,false⟩:=⟨Nat.zero_le _,hq,Nat.zero_le _,(by decide:(0:Nat)<9223372036854775808)⟩
 have ho:=D.GI hok rfl rfl;simp only[uJ,List.take_nil]at ho;refine(E9 _ hok did h hdk her (by simp[uJ])).mono fun r h' ⟨h1,h2,h3⟩=>?_
 simp only[if_true,uJ]at h3;obtain⟨x,jid,spl,spj,a,b,c⟩:=h3
 grind
theorem QY:(aI td rD).2.1=⟨0,bp,false,ax,false,0⟩∧(aI td rD).2.2.2=0:=⟨aei,aei⟩
theorem MO:kW rD:=⟨⟨ad6,ad6⟩,⟨ad6,ad6⟩,⟨ad6,ad6⟩,⟨ad6,ad6⟩⟩
theorem VQ:opA rD= .agg [.i 1,.s [97,110,110],.s [99],.s [],.s [],.i 0,.i 0,.s [],.i 0,.s [],.s [],.b false]:=rfl
theorem Aq(h:Heap)(he:kP h):ai prog 29 [] h fun r h' =>r= .b true∧h' =h:=
 ai.freeze fun g hgs _=>by
 have he:=he.sub hgs;have hF:=jz (dP QY.2);have hput:=xN hF;have hrl:=mL (h:=0#64) hF;have hrec:=fun G=>CN 0#64 rD MO (f_l hF) ad3 G
 have hpl:=cJ (cK 0#64 rD);have hdo:=Cm (e:=gE []) (d:=⟨1000,[],0,0,false⟩) (o:=rD) rfl QY.2 rfl rfl ad6;rw[VQ]at hrec;refine ad2 func29 67 [.tmp 0] fun hwf=>?_
 simp only[go_sem];refine(Dv 1000 ad6 g).mono fun r h1 ⟨did,hn,er,hdk,s1⟩=>?_
 subst er;simp only[go_sem];refine(KG 1000 ad6 did h1 hdk (he.sub s1)).mono fun r h2 ⟨x,jid,spl,spj,er,hE,hD,hK,hnew⟩=>?_
 subst er;have s2:Ab.Sub g h2:=uL s1 hK hn;have hnew' :∀i∈x::did::jid::(spl++spj),g i=none:=fun i hi=>by
  simp only[List.mem_cons]at hi hnew;rcases hi with rfl|rfl|hi
  ·exact s1.none (hnew _ (.inl rfl))
  ·omega
  ·exact s1.none (hnew _ (.inr hi))
 simp only[go_sem];intro i5 h5;simp only[go_sem];have e5:∀ {b:Option Blk},Ab.Sub h2 (upd h2 i5 b):=fun {b}=>(Sub.refl h2).new h5 b
 generalize hH:upd h2 i5 _=H;have f5:H i5=some (.obj (opC rD) 46):=afW;have s5:Ab.Sub h2 H:=by rw[←hH];exact e5
 clear hH;have f5' :H i5=some (.obj [.i 1,.s [97,110,110],.s [99],.s [],.s [],.i 0,.i 0,.s [],.i 0,.s [],.s [],.b false] 46):=f5;refine(show ai prog _ [.ptr x 0,opA rD] _ _ from(QA x jid did (gE []) ⟨1000,[],0,0,false⟩ spl spj rD H (hE.sub s5) (hD.keep s5.fZ) ⟨Nat.zero_le _,ad6,Nat.zero_le _,ad6⟩ ad6 ad6 pP ad6 MO ((he.sub s2).sub s5)).mono fun r h3 ⟨er,spl',spj',hE3,hD3,hT3,_⟩=>?_)
 subst er;rw[hdo]at hE3 hD3⊢;have n5:i5∉x::did::jid::(spl++spj):=fun hi=>L2 hE hD _ hi h5
 have f53:=hT3 _ _ n5 f5';have s3:Ab.Sub g h3:=vP (s2.trans s5) hT3 hnew';have er2:kH (aI (gE []).s rD).2.1= [.i 0,.v (.complex .f64 4607182418800017408 0),.b false,.i 0,.i 0,.s [],.b false,.i 0]:=aei;rw[er2];obtain⟨E,eE⟩:∃E,({mz (gE []) (aI (gE []).s rD) (cK (gE []).ch rD)with ps:=(gE []).ps++ [cK (gE []).ch rD],down:=false}:cI)=E:=⟨_,rfl⟩
 have eps:E.ps= [cK 0#64 rD]:=by rw[←eE];rfl
 have ech:E.ch=sP 0#64 (cK 0#64 rD):=by rw[←eE];rfl
 simp only[eE]at hE3;clear eE hdo er2;simp only[go_sem];intro i6 h6;simp only[go_sem];generalize hH4:upd h3 i6 _=H4;have f6:H4 i6=some (.obj [.i 0,.v (.complex .f64 4607182418800017408 0),.b false,.i 0,.i 0,.s [],.b false,.i 0] 53):=by rw[←hH4,ah]
 have s6:Ab.Sub h3 H4:=by rw[←hH4];exact(Sub.refl h3).new h6 _
 clear hH4;obtain⟨p,ep⟩:∃p,cK 0#64 rD=p:=⟨_,rfl⟩;rw[ep]at eps ech hrec hrl hpl;refine(DG x jid did E spl' spj' H4 (hE3.sub s6) ah8 (by rw[eps];intro q hq;rw[List.mem_singleton.1 hq];omega)).mono fun r H5 ⟨q,er,s7⟩=>?_
 subst er;rw[eps];have f65:=s7 _ _ f6;have f55:=s7 _ _ (s6 _ _ f53);have hE5:=(hE3.sub s6).sub s7;have ix:=fun(K:AV→Prop)=>fC.eq (xs:=[lp p]) (sz:=1) 0 aea rfl K
 simp only[Int.natCast_zero,List.getElem_cons_zero,lp]at ix;have qd:eqC (.v (.complex .f64 4607182418800017408 0)) (.v (.complex .f64 4607182418800017408 0))=true:=rfl;simp only[go_sem];refine .quiet ad7 ?_;simp only[go_sem,f65,f55,qd,ix,List.map_cons,List.map_nil,lp];refine⟨_,show ai prog _ [.v (.int .u64 0),_] _ _ from hrec H5,?_⟩
 have d8:decide ((8:Int)<(p.length:Int))=true:=decide_eq_true ad3;simp only[go_sem,f65,f55,qd,ix];refine⟨_,PL _ _ p p _ (.sl _ _) (.sl _ _) ad3,?_⟩;rw[show decide (p=p)=true from aea]
 simp only[go_sem,ix,adT,d8];refine⟨_,yp x jid did E spl' spj' H5 hE5,?_⟩;simp only[go_sem,ix];refine⟨_,show ai prog _ [.v (.int .u64 0),_] _ _ from Dk 0#64 _ p _ (.sl _ _) ad3,?_⟩
 simp only[go_sem,ech,beq_self_eq_true];exact .same (.refl _) ⟨s3.trans (s6.trans s7),_,.pure rfl,rfl⟩
structure mC (h0 h:Heap) (x jid did:Nat) (e:cI) (d:D) (spl spj:List Nat):Prop where
 eng:ij h x jid did e spl spj
 disk:bA h did d
 ok:d.ok
 sub:Ab.Sub h0 h
 new:∀i∈x::did::jid::(spl++spj),h0 i=none
theorem mC.up{did:Nat}(w:mC h0 h x jid did e d spl spj)(hs:Ab.Sub h h'):mC h0 h' x jid did e d spl spj:=
 ⟨w.eng.sub hs,w.disk.keep hs.fZ,w.ok,w.sub.trans hs,w.new⟩
theorem mC.did{did:Nat}{d':D}(w:mC h0 h x jid did e d spl spj)(hd:bA h' did d')(hk:Keep did h h')(ho:d'.ok):mC h0 h' x jid did e d' spl spj:=by
 have hw:=w.disk;obtain⟨yl,a,b,c⟩:=w.eng;obtain⟨y,hy,_⟩:=hw;have h1:x∉ [did]:=fun hi=>by rw[List.mem_singleton.1 hi,hy]at a;cases a
 have h3:∀i∈spl,i∉ [did]:=fun i hi hh=>by
  obtain⟨n,hn⟩:=b.has i hi
  grind
 have h2:jid∉ [did]∧∀i∈spj,i∉ [did]:=by
  obtain⟨z,zs,c1,c2,_⟩:=c;refine⟨fun hi=>ad4,fun i hi hh=>?_⟩
  obtain⟨n,hn⟩:=c2.has i hi
  grind
 exact⟨⟨yl,hk _ _ ad4 a,b.touch (.keep hk) h3,c.touch (.keep hk) h2.1 h2.2⟩,hd,ho,uL w.sub hk (w.new _ aea),w.new⟩
theorem mC.doS{did:Nat}(w:mC h0 h x jid did e d spl spj)(o:OpD)(hps:e.ps.length≤1000000)(hlg:e.log.length≤1000000)(hG:fM k e.s)(hk:k≤1000)(h64:kW o)(her:kP h0)(hok:(doE e d o).2.1.ok):
  ai prog 22 [.ptr x 0,opA o] h fun r h' =>r= .agg (kH (doE e d o).2.2)∧∃spl' spj',mC h0 h' x jid did (doE e d o).1 (doE e d o).2.1 spl' spj'∧Touch (x::did::jid::(spl++spj)) h h'∧(∀i∈x::did::jid::(spl' ++spj'),i∈x::did::jid::(spl++spj)∨h i=none):=
 (QA x jid did e d spl spj o h w.eng w.disk w.ok hps hlg hG hk h64 (her.sub w.sub)).mono fun r h' ⟨e1,spl',spj',a,b,c,f,g⟩=>by
  have hin:∀i∈x::did::jid::(spl' ++spj'),i∈x::did::jid::(spl++spj)∨h i=none:=fun i hi=>by
   simp only[List.mem_cons,List.mem_append]at hi⊢;rcases hi with hi|hi|hi|hi|hi
   ·exact .inl (.inl hi)
   ·exact .inl (.inr (.inl hi))
   ·exact .inl (.inr (.inr (.inl hi)))
   ·rcases f i hi with h1|h1|h1
    ·exact .inl (.inr (.inr (.inr (.inl h1))))
    ·exact .inl (.inr (.inr (.inr (.inr h1))))
    ·exact .inr h1
   ·rcases g i hi with h1|h1
    ·exact .inl (.inr (.inr (.inr (.inr h1))))
    ·exact .inr h1
  exact⟨e1,spl',spj',⟨a,b,hok,vP w.sub c w.new,fun i hi=>(hin i hi).elim (w.new i) w.sub.none⟩,c,hin⟩
theorem mC.fresh{did:Nat}(w:mC h0 h x jid did e d spl spj){i:Nat}(hi:h i=none):i∉x::did::jid::(spl++spj):=fun hh=>L2 w.eng w.disk i hh hi
theorem Tp:kH (xq 9)= [.i 9,.v (.complex .f64 0 0),.b false,.i 0,.i 0,.s [],.b false,.i 0]:=rfl
end Go.Proofs.YtokahfmoollblaaGreatDoor
namespace Go.Bf
open Go Go.Ab
def eqT(a b:gj):Bool:=eqL (eqL (eqL j4)) a b
def eqR(r s:cS):Bool:=r.id==s.id && (r.deny==s.deny && (eqT r.tgt s.tgt && (eqL pI r.cond s.cond && eqL oP r.obls s.obls)))
mutual
def eqP:bF→bF→Bool
 |.mk i1 s1 a1 t1 r1 k1 o1,.mk i2 s2 a2 t2 r2 k2 o2=>i1==i2 && (s1==s2 && (a1==a2 && (eqT t1 t2 && (eqL oP o1 o2 && (eqL eqR r1 r2 && eqK k1 k2)))))
def eqK:List bF→List bF→Bool
 | [],[]=>true
 |x::a,y::b=>eqP x y && eqK a b
 |_,_=>false
end
theorem xH:∀a b:List bF,eqK a b=eqL eqP a b
 | [],[]=>rfl
 | [],_::_=>rfl
 |_::_,[]=>rfl
 |x::a,y::b=>by simp only[eqK,eqL,xH a b]
theorem L7(a b:gj):eqT a b=true↔a=b:=sQ fun x y=>sQ fun x y=>sQ FZ
theorem Sf(a b:cS):eqR a b=true↔a=b:=by
 obtain⟨a1,a2,a3,a4,a5⟩:=a;obtain⟨b1,b2,b3,b4,b5⟩:=b
 grind [eqR,L7,sQ,Jm,DE]
mutual
theorem L6:∀a b:bF,eqP a b=true↔a=b
 |.mk i1 s1 a1 t1 r1 k1 o1,.mk i2 s2 a2 t2 r2 k2 o2=>by
  simp only[eqP,Bool.and_eq_true,beq_iff_eq,L7,sQ DE,sQ Sf,L5 k1 k2,bF.mk.injEq];constructor
  ·rintro⟨h1,h2,h3,h4,h5,h6,h7⟩;exact⟨h1,h2,h3,h4,h6,h7,h5⟩
  ·rintro⟨h1,h2,h3,h4,h5,h6,h7⟩;exact⟨h1,h2,h3,h4,h7,h5,h6⟩
theorem L5:∀a b:List bF,eqK a b=true↔a=b
 | [],[]=>by simp[eqK]
 | [],_::_=>by simp[eqK]
 |_::_,[]=>by simp[eqK]
 |x::a,y::b=>by simp[eqK,L6 x y,L5 a b]
end
end Go.Bf
namespace Go.Proofs.YtokahfmoollblaaGreatDoor
open Go Go.Ab Go.Bf Tryz
theorem zW(a b:gj)(h:Heap):ai prog 132 [aT a,aT b] h fun r h' =>r= .b (eqT a b)∧h' =h:=by
 refine ad2 func132 54 [.tmp 4] fun hwf=>?_
 cases d1:((a.length:Int) !=(b.length:Int))
 case true=>
  have e1:a.length≠b.length:=by grind
  simp only[go_sem,aT,adT,d1];exact .same (.refl _) ⟨by rw[eqT,iD e1];rfl,rfl⟩
 have e1:a.length=b.length:=ad4;have hwa:=hwf (aT a) aea;simp only[aT,wfA,wf1,lim,adT]at hwa;simp only[go_sem,aT,adT,d1];refine .intro (fun m ρ h' =>Ab.Sub h h'∧∃i:Nat,i≤a.length∧m=a.length - i∧(∀j (h1:j<a.length) (h2:j<b.length),j<i→eqL (eqL j4) a[j] b[j]=true)∧lk ρ 0=some (.sl (a.map cB) .no)∧lk ρ 1=some (.sl (b.map cB) .no)∧lk ρ 13=some (.i a.length)∧lk ρ 14=some (.i i)) a.length ?_ ?_
 ·exact ajw
 ·rintro m ρ h' ⟨hs,i,hi,rfl,hc,r0,r1,r13,r14⟩
  simp only[go_sem,r0,r1,r13,r14,adT];refine .intro (fun e=>?_) (fun e=>?_)
  ·have hlt:i<a.length:=ad0 e
   have hlt2:i<b.length:=ad3;have w1:IntKind.i64.wrap ((i:Int)+1)=((i+1:Nat):Int):=aeg;simp only[go_sem,r0,r1,r13,r14,adT];refine⟨.of ad7,?_⟩;refine .at i ad4 aec ?_;simp only[go_sem,r0,r1,r13,r14,adU,cB];refine .at i ad4 aec ?_;cases d2:((a[i].length:Int) !=(b[i].length:Int))
   case true=>
    have e2:a[i].length≠b[i].length:=by grind
    simp only[go_sem,r0,r1,r13,r14,adU,cB,adT,d2];exact .mk _ (.refl _) hs ⟨by rw[eqT,jy i hlt hlt2 (iD e2)];rfl,rfl⟩
   have e2:a[i].length=b[i].length:=ad4;simp only[go_sem,r0,r1,r13,r14,adU,cB,adT,d2];refine .at i ad4 aec ?_;simp only[go_sem,r0,r1,r13,r14,adU,cB,adT];refine oJ.wf fun hwi=>?_
   have hwk:=hwi 31 (.sl (a[i].map gm) .no) aeu;simp only[wfA,wf1,lim,adT]at hwk;refine .intro (fun m ρ h' =>Ab.Sub h h'∧∃k:Nat,k≤a[i].length∧m=a[i].length - k∧(∀j (h1:j<a[i].length) (h2:j<b[i].length),j<k→eqL j4 a[i][j] b[i][j]=true)∧lk ρ 5=some (.i i)∧lk ρ 0=some (.sl (a.map cB) .no)∧lk ρ 1=some (.sl (b.map cB) .no)∧lk ρ 13=some (.i a.length)∧lk ρ 14=some (.i i)∧lk ρ 32=some (.i a[i].length)∧lk ρ 33=some (.i k)) a[i].length ?_ ?_
   ·refine⟨hs,0,ad3,rfl,fun j _ _ hj=>ad3,?_,?_,?_,?_,?_,?_,?_⟩<;>simp only[go_sem,r0,r1,r13,r14]
   ·rintro m ρ h' ⟨hs,k,hk,rfl,hck,r5,r0,r1,r13,r14,r32,r33⟩
    simp only[go_sem,r0,r1,r5,r13,r14,r32,r33];refine .intro (fun e3=>?_) (fun e3=>?_)
    ·have hkt:k<a[i].length:=ad0 e3
     have hkt2:k<b[i].length:=ad3;simp only[go_sem,r0,r1,r5,r13,r14,r32,r33];refine .quiet ad7 ?_;simp only[go_sem,r0,r1,r5,r13,r14,r32,r33];refine .at i ad4 aec ?_;simp only[go_sem,r0,r1,r5,r13,r14,r32,r33,adU,cB];have w2:IntKind.i64.wrap ((k:Int)+1)=((k+1:Nat):Int):=aeg;refine .at k ad4 aec ?_;simp only[go_sem,r0,r1,r5,r13,r14,r32,r33,adU,gm];refine .at i ad4 aec ?_;simp only[go_sem,r0,r1,r5,r13,r14,r32,r33,adU,cB];refine .at k ad4 aec ?_;simp only[go_sem,r0,r1,r5,r13,r14,r32,r33,adU,gm];have hsm:=fun h=>CQ a[i][k] b[i][k] h
     simp only[gm]at hsm;refine⟨_,hsm _,?_⟩;cases d3:eqL j4 a[i][k] b[i][k]
     ·simp only[go_sem,r0,r1,r5,r13,r14,r32,r33,d3]
      exact .mk _ (.refl _) hs ⟨by rw[eqT,jy i hlt hlt2 (jy k hkt hkt2 d3)];rfl,rfl⟩
     ·simp only[go_sem,r0,r1,r5,r13,r14,r32,r33,d3,w2]
      refine⟨_,?_,hs,k+1,ad3,rfl,fun j h1 h2 hj=>?_,?_,?_,?_,?_,?_,?_,?_⟩
      ·omega
      ·grind
      all_goals simp only[go_sem,r0,r1,r5,r13,r14,r32,r33,w2]
    ·have hge:k=a[i].length:=by grind
     subst hge;simp only[go_sem,r0,r1,r5,r13,r14,r32,r33,w1];refine⟨_,?_,hs,i+1,ad3,rfl,fun j h1 h2 hj=>?_,?_,?_,?_,?_⟩
     ·omega
     ·grind [cU]
     all_goals simp only[go_sem,r0,r1,r13,r14,w1]
  ·have hge:i=a.length:=by grind
   subst hge;simp only[go_sem,r0,r1,r13,r14];exact .mk _ (.refl _) hs ⟨by rw[eqT,cU e1 fun j h1 h2=>hc j h1 h2 h1];rfl,rfl⟩
end Go.Proofs.YtokahfmoollblaaGreatDoor
