/- The law TopModel,TopReplay: pack 6 of its texts. -/
import Derived.Shelf.Strings.OnBuilder
import Derived.Shelf.Small.Wraps
import Derived.Shelf.Strconv.Itoa3
import Derived.Test.YtokahfmoollblaaGreatDoorProg
import Derived.KernelRfl
import Derived.Lib.ItoaLen
import Derived.Shelf.Strings.BuilderK
import Derived.Test.YtokahfmoollblaaGreatDoorChecked
import Derived.WalkKit
import Derived.BigCall
import Derived.StillTailTactics
import Derived.Test.YtokahfmoollblaaGreatDoorPk1
import Derived.Test.YtokahfmoollblaaGreatDoorPk2
import Derived.Test.YtokahfmoollblaaGreatDoorPk3
import Derived.Test.YtokahfmoollblaaGreatDoorPk4
import Derived.Test.YtokahfmoollblaaGreatDoorPk5
set_option linter.unusedSimpArgs false
set_option linter.unusedVariables false
set_option maxRecDepth 100000
namespace Go.Proofs.YtokahfmoollblaaGreatDoor
open Go Go.Ab Go.Bf Tryz
variable {h:Heap}{s:an}{k:Nat}{x:AV}{c:aN}
theorem WC{id:Txt}{set:Bool}{alg:Int}{tgt:gp}{rules:List cV}{kids:List bE}{obls:List cC}{L:List AV}(hL:L=kids.map aL)(q:Perm):Weak (.agg [.s id,.b set,.i alg,.sl (tgt.map cE) .no,.sl (rules.map aC) .no,.sl L q,.sl (obls.map aY) .no]) (aL (.mk id set alg tgt rules kids obls)):=by
 subst hL;rw[aL,aX];refine .agg _ _ rfl fun i a b=>?_
 rcases i with _|_|_|_|_|_|_|i
 ·exact af8
 ·exact af8
 ·exact af8
 ·exact af8
 ·exact af8
 ·exact aht
 ·exact af8
 ·simp at a;omega
theorem BG:∀(n d:Nat),d+n=5→∀(p:bE),mK d p→∀(gs:List bt),sr gs→∀(h:Heap),ai prog 99 [aL p,bM gs] h fun r h' =>r=aL (lY gs p)∧h' =h
 |0,d,hd,.mk id set alg tgt rules kids obls,hE,gs,hf,h=>by simp only[mK]at hE;omega
 |n+1,d,hd,.mk id set alg tgt rules kids obls,hE,gs,hf,h=>by
  have ih:=BG n (d+1) aeK;simp only[mK,ri]at hE;obtain⟨_,_,_,_,_,_,hT,hO,hR,hK,hRE,hKE⟩:=hE;have hpk:=fun G=>NM kids aeK (fun p hp=>by have h1:=hKE p hp;obtain⟨kid,kset,kalg,ktgt,krules,kkids,kobls⟩:=p;simp only[mK]at h1;exact CZ h1.2.2.2.2.2.2.1) gs hf G
  have hpe:lY gs (.mk id set alg tgt rules kids obls)= .mk id set alg tgt rules (kU gs kids) obls:=aeZ;have hfull:=MS gs kids;have hIlt:∀j∈ixP gs kids kids.length,j<kids.length:=fun j hj=>S6 hj
  have hIl:(ixP gs kids kids.length).length≤16:=Nat.le_trans (ID _ _ _) hK;obtain⟨I,eI⟩:∃I,ixP gs kids kids.length=I:=⟨_,rfl⟩;rw[eI]at hpk hfull hIlt hIl;simp only[bM]at hpk;have uP:(U 38).sz=7:=aeZ;refine aeJ func99 31 [.cell 4 38] fun hwf=>?_
  simp only[go_sem,aL,bM,aX,aW,ay];intro i2 h2;simp only[go_sem];intro i4 h4;have n42:=aH h4;have n4' :=aB h4;obtain⟨H0,eH⟩:∃H0,upd (upd h i2 (some (.obj [.s id,.b set,.i alg,.sl (tgt.map cE) .no,.sl (rules.map aC) .no,.sl (kids.map aL) .no,.sl (obls.map aY) .no] 38))) i4 (some (.obj [.s [],.b false,.i 0,.sl [] .full,.sl [] .full,.sl [] .full,.sl [] .full] 38))=H0:=⟨_,rfl⟩;have hH0:Ab.Sub h H0:=ahM;have g2:H0 i2=some (.obj [.s id,.b set,.i alg,.sl (tgt.map cE) .no,.sl (rules.map aC) .no,.sl (kids.map aL) .no,.sl (obls.map aY) .no] 38):=aiv;have g4:H0 i4=some (.obj [.s [],.b false,.i 0,.sl [] .full,.sl [] .full,.sl [] .full,.sl [] .full] 38):=agh;simp only[go_sem,ak,n42.symm];rw[eH];clear eH;refine(hpk _).pthen ?_;simp only[go_sem,aeA];refine .intro (fun m ρ H=>∃(i:Nat) (y:AV),Acc U 38 H0 H y (((I.map fun j=>lY gs (kids.getD j mz)).take i).map aL)∧i≤I.length∧m=I.length - i∧lk ρ 1=some (.sl (gs.map lS) .no)∧lk ρ 2=some (.ptr i2 0)∧lk ρ 4=some (.ptr i4 0)∧lk ρ 5=some y∧lk ρ 11=some (.sl (I.map um) .no)∧lk ρ 12=some (.i I.length)∧lk ρ 13=some (.i i)) I.length ?_ ?_
  ·refine⟨0,.sl [] .full,.full (.refl _),aeK,rfl,?_,?_,?_,?_,?_,?_,?_⟩<;>simp only[go_sem]
  ·rintro m ρ H ⟨i,y,hy,hi,rfl,r1,r2,r4,r5,r11,r12,r13⟩
   obtain⟨qy,eqy⟩:=hy.row;subst eqy;have k2:=hy.1 _ _ g2;simp only[go_sem,r12,r13];refine .intro (fun e=>?_) (fun e=>?_)
   ·have hlt:i<I.length:=aeH e
    have w1:IntKind.i64.wrap ((i:Int)+1)=((i+1:Nat):Int):=aeW;have hjlt:=hIlt _ (aeF hlt);have hsn:((I.map fun j=>lY gs (kids.getD j mz)).take (i+1)).map aL=((I.map fun j=>lY gs (kids.getD j mz)).take i).map aL++ [aL (lY gs (kids.getD I[i] mz))]:=by grind [List.take_succ_eq_append_getElem]
    have ix:=fun k=>eu.eq (xs:=I.map um) (sz:=1) i aeL aeU k
    rw[aeB]at ix;obtain⟨j,ej⟩:∃j,I[i]=j:=⟨_,rfl⟩;rw[ej]at ix hsn hjlt;have iy:=fun k=>eu.eq (xs:=kids.map aL) (sz:=7) j aeL (by rw[aeB,jK]) k
    rw[aeB]at iy;rw[show kids.getD j mz=kids[j] by grind]at hsn
    have hke:=hKE _ (aeF hjlt);obtain⟨x,ex⟩:∃x,kids[j]=x:=⟨_,rfl⟩;rw[ex]at iy hsn hke;have hr1:=ih x hke gs hf;obtain⟨z,ez⟩:∃z,lY gs x=z:=⟨_,rfl⟩;rw[ez]at hr1 hsn;obtain⟨kid,kset,kalg,ktgt,krules,kkids,kobls⟩:=x;obtain⟨zid,zset,zalg,ztgt,zrules,zkids,zobls⟩:=z;simp only[aL,aW,ay,aX,bM]at iy hr1;simp only[um]at ix;simp only[go_sem,r1,r2,r5,r11,r13,ix,k2,iy];refine(hr1 _).pthen ?_;simp only[go_sem];refine hy.app (zs:=[aL (.mk zid zset zalg ztgt zrules zkids zobls)]) aeK aeO (fun k hk=>show k _ from(by simpa only[aL,aW,ay,aX]using hk)) (by grind [bx,aL,jK]) (by rw[uP];intro z hz;grind [List.mem_singleton,jK]) ae4 fun y' H' hy' kp=>?_
    simp only[go_sem,r13,w1];refine⟨_,?_,i+1,y',aeL,aeK,rfl,?_,?_,?_,?_,?_,?_,?_⟩
    ·omega
    all_goals simp only[go_sem,r1,r2,r4,r11,r12]
   ·have hge:i=I.length:=by grind
    subst hge;have htl:(I.map fun j=>lY gs (kids.getD j mz)).take I.length=kU gs kids:=by grind [List.take_of_length_le]
    rw[htl]at r5 hy;have k4:=hy.1 _ _ g4;have n24:i2≠i4:=n42.symm;simp only[go_sem,r2,r4,r5,k2,ak,n42,k4];refine .mk (aL (.mk id set alg tgt rules (kU gs kids) obls)) (WC rfl _) (((hH0.trans hy.1).put h2 _).put n4' _) ⟨aeZ,rfl⟩
theorem Ej(p:bE)(hp:gL p=0)(gs:List bt)(hf:sr gs)(h:Heap):ai prog 41 [aL p,bM gs] h fun r h' =>r= .tup [rsA (fK gs p),.i 0]∧h' =h:=by
 have hpk:=fun G=>BG 4 1 rfl p (rI hp) gs hf G
 have hev:=fun G=>DO (lY gs p) (Hp gs hp) gs hf G
 have hr:=fun G=>uL p G
 rw[hp]at hr;rw[BE]at hev;obtain⟨id,set,alg,tgt,rules,kids,obls⟩:=p;refine aeJ func41 17 [.cell 4 96,.tmp 5] fun hwf=>?_
 simp only[go_sem,aL,bM,aW,ay];intro i2 h2;simp only[go_sem];intro i4 h4;have n42:=aH h4;have n4:=aB h4;have hs:∀x y,Ab.Sub h (upd (upd h i2 x) i4 y):=fun x y=>((Sub.refl h).put h2 x).put n4 y
 simp only[go_sem,ak,n42.symm];refine(hr _).pthen ?_;simp only[go_sem,ak,n42.symm];refine(hpk _).pthen ?_;simp only[go_sem];refine(hev _).pthen ?_;simp only[go_sem,rsA,aO,ay];exact agr
theorem MT{α:Type}(y:AV)(xs:List AV)(ds:List α)(q:α→Bool)(g:FuncId)(cap:List AV)(h:Heap)(hb:Rd h 7 y xs)(hn:xs.length=ds.length)(hl:xs.length≤1000000000)(hx:∀x∈xs,bA x=true)
  (hp:∀i (h1:i<xs.length) (h2:i<ds.length),ai prog g (xs[i]::cap) h fun r h' =>r= .b (q ds[i])∧h' =h):
  ai prog 212 [y,.fn g cap] h fun r h' =>r= .i (ixD q ds)∧h' =h:=by
 refine aeJ func212 19 [.tmp 4] fun hwf=>?_
 simp only[go_sem,hb.len];refine .intro (fun m ρ h' =>h' =h∧∃i:Nat,i≤xs.length∧m=xs.length - i∧(∀j (hj:j<i) (h2:j<ds.length),q ds[j]=false)∧lk ρ 0=some y∧lk ρ 1=some (.fn g cap)∧lk ρ 7=some (.i xs.length)∧lk ρ 8=some (.i i)) xs.length ?_ ?_
 ·refine⟨rfl,0,aeK,rfl,fun j hj=>aeK,?_,?_,?_,?_⟩<;>simp only[go_sem]
 ·rintro m ρ h' ⟨rfl,i,hi,rfl,hc,r0,r1,r7,r8⟩
  simp only[go_sem,r7,r8];refine .intro (fun e=>?_) (fun e=>?_)
  ·have hlt:i<xs.length:=aeH e
   have hlt2:i<ds.length:=aeK;have w1:IntKind.i64.wrap ((i:Int)+1)=((i+1:Nat):Int):=aeW;simp only[go_sem,r0,r1,r8];refine hb.idx (e:=132) i rfl hlt aeZ aeO fun p hp1=>?_
   have hld:=hp1.all (U:=U) (ty:=132) aeO afK agE;simp only[go_sem,hld];refine(show ai prog g (xs[i]::cap) _ _ from hp i hlt hlt2).pthen ?_
   cases d1:q ds[i]
   ·simp only[go_sem,r8,w1]
    refine⟨_,?_,rfl,i+1,aeK,rfl,fun j hj h2=>?_,?_,?_,?_,?_⟩
    ·omega
    ·grind
    all_goals simp only[go_sem,r0,r1,r7]
   ·simp only[go_sem]
    exact .same (.refl _) ⟨afy,rfl⟩
  ·have hge:i=xs.length:=by grind
   simp only[go_sem];exact .same (.refl _) ⟨aff,rfl⟩
theorem MR{α:Type}(y:AV)(xs:List AV)(ds:List α)(q:α→Bool)(g:FuncId)(cap:List AV)(h:Heap)(hb:Rd h 3 y xs)(hn:xs.length=ds.length)(hl:xs.length≤1000000000)(hx:∀x∈xs,bA x=true)
  (hp:∀i (h1:i<xs.length) (h2:i<ds.length),ai prog g (xs[i]::cap) h fun r h' =>r= .b (q ds[i])∧h' =h):
  ai prog 165 [y,.fn g cap] h fun r h' =>r= .i (ixD q ds)∧h' =h:=by
 refine aeJ func165 19 [.tmp 4] fun hwf=>?_
 simp only[go_sem,hb.len];refine .intro (fun m ρ h' =>h' =h∧∃i:Nat,i≤xs.length∧m=xs.length - i∧(∀j (hj:j<i) (h2:j<ds.length),q ds[j]=false)∧lk ρ 0=some y∧lk ρ 1=some (.fn g cap)∧lk ρ 7=some (.i xs.length)∧lk ρ 8=some (.i i)) xs.length ?_ ?_
 ·refine⟨rfl,0,aeK,rfl,fun j hj=>aeK,?_,?_,?_,?_⟩<;>simp only[go_sem]
 ·rintro m ρ h' ⟨rfl,i,hi,rfl,hc,r0,r1,r7,r8⟩
  simp only[go_sem,r7,r8];refine .intro (fun e=>?_) (fun e=>?_)
  ·have hlt:i<xs.length:=aeH e
   have hlt2:i<ds.length:=aeK;have w1:IntKind.i64.wrap ((i:Int)+1)=((i+1:Nat):Int):=aeW;simp only[go_sem,r0,r1,r8];refine hb.idx (e:=145) i rfl hlt aeZ aeO fun p hp1=>?_
   have hld:=hp1.all (U:=U) (ty:=145) aeO afK agE;simp only[go_sem,hld];refine(show ai prog g (xs[i]::cap) _ _ from hp i hlt hlt2).pthen ?_
   cases d1:q ds[i]
   ·simp only[go_sem,r8,w1]
    refine⟨_,?_,rfl,i+1,aeK,rfl,fun j hj h2=>?_,?_,?_,?_,?_⟩
    ·omega
    ·grind
    all_goals simp only[go_sem,r0,r1,r7]
   ·simp only[go_sem]
    exact .same (.refl _) ⟨afy,rfl⟩
  ·have hge:i=xs.length:=by grind
   simp only[go_sem];exact .same (.refl _) ⟨aff,rfl⟩
theorem Kj(y:AV)(ds:List qu)(q:qu→Bool)(g:FuncId)(cap:List AV)(h:Heap)(hb:Rd h 7 y (ds.map gz))(hl:ds.length≤1000000000)
  (hp:∀i (h2:i<ds.length),ai prog g (gz ds[i]::cap) h fun r h' =>r= .b (q ds[i])∧h' =h):
  ai prog 157 [y,.fn g cap] h fun r h' =>r= .b (ds.any q)∧h' =h:=by
 refine aeJ func157 9 [.tmp 4] fun hwf=>?_
 simp only[go_sem];refine(MT y _ ds q g cap h hb aeR aeL (pz (fun _=>rfl) _) fun i a b=>by rw[aeB];exact hp i b).pthen ?_
 simp only[go_sem,ve];exact aeV
theorem Ki(y:AV)(ds:List cC)(q:cC→Bool)(g:FuncId)(cap:List AV)(h:Heap)(hb:Rd h 3 y (ds.map aY))(hl:ds.length≤1000000000)
  (hp:∀i (h2:i<ds.length),ai prog g (aY ds[i]::cap) h fun r h' =>r= .b (q ds[i])∧h' =h):
  ai prog 112 [y,.fn g cap] h fun r h' =>r= .b (ds.any q)∧h' =h:=by
 refine aeJ func112 9 [.tmp 4] fun hwf=>?_
 simp only[go_sem];refine(MR y _ ds q g cap h hb aeR aeL (pz (fun _=>rfl) _) fun i a b=>by rw[aeB];exact hp i b).pthen ?_
 simp only[go_sem,ve];exact aeV
theorem Gx(y:AV)(xs:List AV)(ds:List aN)(q:aN→Bool)(g:FuncId)(cap:List AV)(h:Heap)(hb:Rd h 5 y xs)(hn:xs.length=ds.length)(hl:xs.length≤1000000000)(hx:∀x∈xs,bA x=true)
  (hp:∀i (h1:i<xs.length) (h2:i<ds.length),ai prog g (xs[i]::cap) h fun r h' =>r= .b (q ds[i])∧h' =h):
  ai prog 118 [y,.fn g cap] h fun r h' =>r= .b (ds.any q)∧h' =h:=by
 refine aeJ func118 9 [.tmp 4] fun hwf=>?_
 simp only[go_sem];refine(vw y xs ds q g cap h hb hn hl hx hp).pthen ?_;simp only[go_sem,ve];exact aeV
theorem M0(r:qu){k1 k2:Nat}{subj:Txt}(hk1:h k1=some (.obj [.s subj] 9))(hk2:h k2=some (.obj (sL s) 40))(ht:0≤s.tick∧s.tick≤1099511627776)(hr:0≤r.tick∧r.tick≤1099511627776):
  ai prog 158 [gz r,.ptr k1 0,.ptr k2 0] h fun x h' =>x= .b (r.subj==subj && rA s r)∧h' =h:=by
 have w:IntKind.i64.wrap (s.tick - r.tick)=s.tick - r.tick:=aU _ aeK;obtain⟨tick,cs,rv,nt,ro,⟨pid,pset,palg,ptgt,prules,pkids,pobls⟩,ver⟩:=s;simp only[sL]at hk2;simp only at w;refine aeJ func158 21 [.tmp 4] fun hwf=>?_
 simp only[go_sem,gz];intro i3 h3;have n31:i3≠k1:=fun e=>aeL
 have n32:i3≠k2:=fun e=>aeL
 cases d1:(r.subj==subj)
 ·simp only[go_sem,ak,n31.symm,hk1,d1]
  exact .mk _ (.refl _) (.aj h3) ⟨rfl,rfl⟩
 cases d2:r.isOpen
 ·simp only[go_sem,ak,n31.symm,hk1,d1]
  exact .mk _ (.refl _) (.aj h3) ⟨by simp only[rA,d2];rfl,rfl⟩
 ·simp only[go_sem,ak,n31.symm,n32.symm,hk1,hk2,d1,w]
  exact .mk _ (.refl _) (.aj h3) ⟨by simp only[rA,d2];rfl,rfl⟩
theorem PR(s:an)(subj:Txt)(hn:s.reviews.length≤1000000)(ht:0≤s.tick∧s.tick≤1099511627776)(hr:iH s)(h:Heap):ai prog 103 [bY s,.s subj] h fun x h' =>x= .b (M1 s subj)∧h' =h:=by
 have hl1:=fun(H:Heap) (k1 k2:Nat) (e1:H k1=some (.obj [.s subj] 9)) (e2:H k2=some (.obj (sL s) 40))=>Kj (jV s.reviews) s.reviews (fun r=>r.subj==subj && rA s r) 158 [.ptr k1 0,.ptr k2 0] H (eL gz 7 (fun _=>rfl) H _) aeK fun i h2=>M0 _ e1 e2 ht (hr _ (aeF h2))
 have hst:=sn s;obtain⟨tick,cs,rv,nt,ro,⟨pid,pset,palg,ptgt,prules,pkids,pobls⟩,ver⟩:=s;rw[hst];simp only[sL]at hl1⊢;refine aeJ func103 9 [.tmp 4] fun hwf=>?_
 simp only[go_sem];intro i2 h2;simp only[go_sem];intro i3 h3;have n32:=aH h3;have n3:=aB h3;have hs:∀x y,Ab.Sub h (upd (upd h i2 x) i3 y):=fun x y=>((Sub.refl h).put h2 x).put n3 y
 simp only[go_sem,ak,n32.symm];refine(hl1 _ i3 i2 (ah ..) (by grind [ag,ah])).pthen ?_
 simp only[go_sem];exact agr
theorem Ju(s:an)(o:OpD)(m:aT)(hm9:M9 m)(hn:s.reviews.length≤1000000)(hro:s.roles.length≤1000000)(ht:0≤s.tick∧s.tick≤1099511627776)(hr:iH s)(h:Heap):ai prog 43 [bY s,opA o,aO m] h fun x h' =>x= .b (tL s o m)∧h' =h:=by
 have hla:=fun G=>PR s o.subj hn ht hr G
 have hha:=fun G=>GC (rdS G s) o.subj CA aeK
 have hbd:tL s o m=(o.glass && (m==cJ||m==naM) && yP s.roles ⟨o.subj,CA⟩ && !M1 s o.subj):=rfl
 have de:=(nb hm9).de;have na:=(nb hm9).na;have hst:=sn s;obtain⟨tick,cs,rv,nt,ro,⟨pid,pset,palg,ptgt,prules,pkids,pobls⟩,ver⟩:=s;rw[hst]at hla hha⊢;simp only[sL,CA]at hla hha hbd⊢;refine aeJ func43 30 [.tmp 6] fun hwf=>?_
 simp only[go_sem,opA,opC,aO];intro i3 h3;simp only[go_sem];intro i4 h4;have n43:=aH h4;have n4:=aB h4;have hs:∀x y,Ab.Sub h (upd (upd h i3 x) i4 y):=fun x y=>((Sub.refl h).put h3 x).put n4 y
 cases dg:o.glass
 ·simp only[go_sem]
  exact .mk _ (.refl _) (hs _ _) ⟨by rw[hbd,dg];rfl,rfl⟩
 cases d1:(m==cJ)<;>cases d2:(m==naM)
 case false.false=>simp only[go_sem,de,na,d1,d2];exact .mk _ (.refl _) (hs _ _) ⟨by rw[hbd,dg,d1,d2];rfl,rfl⟩
 all_goals
  simp only[go_sem,ak,n43.symm,de,na,d1,d2];refine(hha _).pthen ?_;cases dh:yP ro ⟨o.subj,[103,108,97,115,115]⟩
  ·simp only[go_sem]
   exact .mk _ (.refl _) (hs _ _) ⟨by rw[hbd,dg,d1,d2,dh];rfl,rfl⟩
  ·simp only[go_sem,ak,n43.symm]
   refine(hla _).pthen ?_;simp only[go_sem];exact .mk _ (.refl _) (hs _ _) ⟨by rw[hbd,dg,d1,d2,dh];rfl,rfl⟩
theorem Kl(x:cC){field:Txt}(hk:h k=some (.obj [.s field] 9)):ai prog 113 [aY x,.ptr k 0] h fun r h' =>r= .b (x.kind==2 && x.arg==field)∧h' =h:=by
 refine aeJ func113 13 [.tmp 3] fun hwf=>?_
 simp only[go_sem,aY];intro i2 h2;have n2:i2≠k:=fun e=>aeL
 cases d1:(x.kind==2)
 all_goals
  simp only[go_sem,ak,n2.symm,hk,d1];exact .mk _ (.refl _) (.aj h2) ⟨rfl,rfl⟩
theorem MK(l:List cC)(hl:l.length≤1000000000)(field:Txt)(h:Heap):ai prog 47 [ay l,.s field] h fun r h' =>r= .b (ko l field)∧h' =h:=by
 refine aeJ func47 8 [.tmp 4] fun hwf=>?_
 simp only[go_sem,ay];intro i3 h3;simp only[go_sem];refine(Ki (.sl (l.map aY) .no) l (fun x=>x.kind==2 && x.arg==field) _ [.ptr i3 0] _ (eL aY 3 (fun _=>rfl) _ _) hl fun i h2=>Kl _ (ah ..)).pthen ?_
 simp only[go_sem];exact .mk _ (.refl _) (.aj h3) ⟨rfl,rfl⟩
theorem NF(hb:RdC h x c):ai prog 119 [x] h fun r h' =>r= .b (decide (256<c.log.length))∧h' =h:=by
 obtain⟨f,l,rfl,hf,hl⟩:=hb;have e:decide ((256:Int)<(c.log.length:Int))=decide (256<c.log.length):=by grind
 refine aeJ func119 7 [.tmp 2] fun hwf=>?_
 simp only[go_sem];intro i1 h1;simp only[go_sem,hl.len,aeA,e];exact ae3
theorem NH(hb:RdS h x s)(hc:s.cases.length≤1000000):ai prog 51 [x] h fun r h' =>r= .b (sE s)∧h' =h:=by
 obtain⟨y1,y2,y3,y4,rfl,⟨xs,hx,hn,hcs⟩,h2,h3,h4⟩:=hb;have hod:sE s=(decide (256<s.reviews.length)||decide (256<s.notices.length)||s.cases.any fun c=>decide (256<c.log.length)):=rfl
 have e2:decide ((256:Int)<(s.reviews.length:Int))=decide (256<s.reviews.length):=by grind
 have e3:decide ((256:Int)<(s.notices.length:Int))=decide (256<s.notices.length):=by grind
 have hca:=fun(G:Heap) (hG:Ab.Sub h G)=>Gx y1 xs s.cases (fun c=>decide (256<c.log.length)) 119 [] G (hx.sub hG) hn aeK (Am.agg hn hcs) fun i a b=>NF ((hcs i a b).sub hG)
 cases hpp:s.policy with
 |mk pid pset palg ptgt prules pkids pobls=>
 refine aeJ func51 18 [.tmp 2] fun hwf=>?_
 simp only[go_sem,gq,aX,List.cons_append,List.nil_append];intro i1 h1;cases d2:decide (256<s.reviews.length)
 case true=>simp only[go_sem,h2.len,aeA,e2,d2];exact .mk _ (.refl _) (.aj h1) ⟨by rw[hod,d2];rfl,rfl⟩
 cases d3:decide (256<s.notices.length)
 case true=>simp only[go_sem,h2.len,h3.len,aeA,e2,e3,d2,d3];exact .mk _ (.refl _) (.aj h1) ⟨by rw[hod,d2,d3];rfl,rfl⟩
 simp only[go_sem,h2.len,h3.len,aeA,e2,e3,d2,d3];refine(hca _ (.aj h1)).pthen ?_;simp only[go_sem];exact .mk _ (.refl _) (.aj h1) ⟨by rw[hod,d2,d3];rfl,rfl⟩
theorem Nf(hb:RdC h x c){o:OpD}(hk:h k=some (.obj (opC o) 46)):ai prog 167 [x,.ptr k 0] h fun r h' =>r= .b (c.id==o.case)∧h' =h:=by
 obtain⟨f,l,rfl,hf,hl⟩:=hb;simp only[opC]at hk;refine aeJ func167 9 [.tmp 3] fun hwf=>?_
 simp only[go_sem];exact ajf
end Go.Proofs.YtokahfmoollblaaGreatDoor
namespace Go.Ab
open Go
theorem OwE.more{tb:TypeId}{g h0 h:Heap}{sz:Nat}{y:AV}{xs:List AV}(hw:OwE tb h0 h sz y xs)(hg:∀id,h0 id=Option.none→h id≠Option.none→g id=Option.none):OwE tb g h sz y xs:=by
 rcases hw with hw|⟨id,e,hw⟩
 ·exact aiL
 ·exact .inr ⟨id,hg _ e hw.none,hw⟩
end Go.Ab
namespace Go.Proofs.YtokahfmoollblaaGreatDoor
open Go Go.Ab Go.Bf Tryz
variable {g h0 h H:Heap}{ys:List AV}{x y:AV}{i0 j k:Nat}{s:an}
theorem fA.more{c:aN}(hm:fA h0 h ys x c)(hg:∀id,h0 id=none→h id≠none→g id=none):fA g h ys x c:=by obtain⟨f,l,e,a,b,c⟩:=hm;exact⟨f,l,e,a.more hg,b.more hg,c⟩
theorem mF.more{cs:List aN}(ho:mF h0 h ys y cs i0)(hg:∀id,h0 id=none→h id≠none→g id=none):mF g h ys y cs i0:=by obtain⟨xs,a,b,c,d⟩:=ho;exact⟨xs,a.more hg,b,c,fun h1 h2=>(d h1 h2).more hg⟩
theorem OwR.more{rs:List ie}(hr:OwR h0 h y rs)(hg:∀id,h0 id=none→h id≠none→g id=none):OwR g h y rs:=by
 rcases hr with hr|hr
 ·exact .inl hr
 ·exact .inr (hr.more hg)
theorem iV.more{y1 y2 y3 y4:AV}(ho:iV h0 h y1 y2 y3 y4 s j)(hg:∀id,h0 id=none→h id≠none→g id=none):iV g h y1 y2 y3 y4 s j:=
 {ho with cs:=ho.cs.more hg,rv:=ho.rv.more hg,nt:=ho.nt.more hg,rl:=ho.rl.more hg}
def GSt(g H:Heap)(k:Nat)(s:an)(j:Nat):Prop:=∃y1 y2 y3 y4,H k=some (.obj (stC s y1 y2 y3 y4) 40)∧iV g H y1 y2 y3 y4 s j∧g k≠none∧∀i b,i≠k→g i=some b→H i=some b
theorem GSt.box(hG:GSt g H k s j){i:Nat}(hi:H i=none)(b:Blk):GSt (upd g i (some b)) (upd H i (some b)) k s j:=by
 obtain⟨y1,y2,y3,y4,hk,ho,hgk,hfr⟩:=hG;refine⟨y1,y2,y3,y4,afq,(ho.more (g:=upd g i (some b)) fun id h0 hne=>?_).keep fun id _ hne=>ag _ _ fun e=>hne aeL,afq,fun q c hq hc=>?_⟩
 ·grind [ag]
 grind [ah,ag]
theorem GSt.unbox{i:Nat}{b:Blk}(hG:GSt (upd g i (some b)) H k s j)(hi:i≠k)(hgi:g i=none):GSt g H k s j∧H i=some b:=by
 obtain⟨y1,y2,y3,y4,hk,ho,hgk,hfr⟩:=hG;refine⟨⟨y1,y2,y3,y4,hk,ho.bN fun q hq=>?_,afq,fun q c hq hc=>hfr q c hq ?_⟩,hfr i b hi (ah ..)⟩
 ·grind [ag]
 grind [ag]
theorem GSt.base(hG:GSt g H k s j):∃G,Ab.Sub G H∧(∀i,G i=none↔g i=none)∧∀i,i≠k→G i=g i:=by
 obtain⟨y1,y2,y3,y4,hk,ho,hgk,hfr⟩:=hG;refine⟨upd g k (H k),fun i b hi=>?_,fun i=>?_,fun i hi=>ag _ _ hi⟩
 ·grind [ah,ag]
 grind [ah,ag]
theorem GSt.rd(hG:GSt g H k s j):∃y1 y2 y3 y4,H k=some (.obj (stC s y1 y2 y3 y4) 40)∧RdS H (.agg (stC s y1 y2 y3 y4)) s:=by obtain⟨y1,y2,y3,y4,hk,ho,_⟩:=hG;exact⟨y1,y2,y3,y4,hk,ho.rd⟩
theorem EL(hG:GSt g H k s j)(o:OpD)(w:Txt)(hk64:i64 o.kind)(hn:s.reviews.length≤1000000000):
  ai prog 45 [.ptr k 0,opA o,.s w] H fun r H' =>GSt g H' k (bW s o w) j:=by
 obtain⟨G,sG,nG,oG⟩:=hG.base;obtain⟨y1,y2,y3,y4,hk,ho,hgk,hfr⟩:=hG;have ho2:iV G H y1 y2 y3 y4 s j:=ho.bN fun i hi=>(nG i).2 hi
 have w1:IntKind.i64.wrap ((s.reviews.length:Int)+1)=(s.reviews.length:Int)+1:=aU _ aeK;obtain⟨pid,pset,palg,ptgt,prules,pkids,pobls,hpp⟩:∃a b c d e f g,s.policy= .mk a b c d e f g:=by cases s.policy;simp
 have hst:∀z,stC (bW s o w) y1 z y3 y4= [.i s.tick,y1,z,y3,y4,.s pid,.b pset,.i palg,aW ptgt,.sl (prules.map aC) .no,.sl (pkids.map aL) .no,ay pobls,.i s.version]:=fun z=>by simp[stC,bW,hpp,gq,aX]
 have hst0:stC s y1 y2 y3 y4= [.i s.tick,y1,y2,y3,y4,.s pid,.b pset,.i palg,aW ptgt,.sl (prules.map aC) .no,.sl (pkids.map aL) .no,ay pobls,.i s.version]:=aiA;rw[hst0]at hk;refine aeJ func45 34 [] fun hwf=>?_
 simp only[go_sem,opA,opC];intro i4 h4;have n4k:i4≠k:=fun e=>aeL
 simp only[go_sem];obtain⟨K,eK⟩:∃K,upd H i4 (some (.obj [.i o.kind,.s o.subj,.s o.case,.s o.field,.s o.to,.i o.val.kind,.i o.val.n,.s o.val.s,.i o.review,.s o.text,.s o.reason,.b o.glass] 46))=K:=⟨_,rfl⟩;have sK:Ab.Sub H K:=by rw[←eK];exact .aj h4
 have k4:K i4=some (.obj [.i o.kind,.s o.subj,.s o.case,.s o.field,.s o.to,.i o.val.kind,.i o.val.n,.s o.val.s,.i o.review,.s o.text,.s o.reason,.b o.glass] 46):=by rw[←eK,ah]
 have kk:=sK _ _ hk;have hoK:iV G K y1 y2 y3 y4 s j:=ho2.keep fun id _ hne=>by rw[←eK];grind [ag]
 rw[eK];have p4:=(bF (H:=K) (l:=[k,i4]) (show i4∈ [k,i4] by simp)).trans k4
 have pk:=(bF (H:=K) (l:=[k,i4]) (show k∈ [k,i4] by simp)).trans kk
 refine .stage (pick K [k,i4]) [0,1,2,3,4,5,6,7,8,9,10,11,12,13,14,15,16,17,18,19,20,22,21,23,24,25,26,27] [28] bS aeN ?_;simp only[go_sem,pk,p4,hoK.rv.rd.len,aeA,w1];refine(vb o.kind hk64 _).pthen ?_;refine⟨bS,?_⟩;simp only[go_sem];have hap1:Rd K 7 (.sl [gz (BQ s o w)] .full) [gz (BQ s o w)]:=.sl afw .full;refine OwE.app (U:=U) (tb:=132) hoK.rv (sG.trans sK) hap1 aeZ aeO aeO aeZ aeR afo fun id y' K2 hid hor how hoth=>?_
 have hor' :K id=none∨nid y2=some id:=by
  rcases hor with hor|⟨l,c,ey⟩
  ·grind
  ·exact .inr aiG
 have nik:k≠id:=fun e=>hgk ((nG k).1 aeL)
 have ni4:i4≠id:=by
  rcases hor' with hor|hor
  ·grind
  ·exact fun e=>(ho2.rv.nid hor).2.1 aeL
 have m4:=(hoth i4 ni4).trans k4;have mk:=(hoth k nik).trans kk;refine⟨jb fun q hq=>?_,?_⟩
 ·grind
 simp only[go_sem];refine⟨cW,fun _ _ e=>afb,?_⟩
 simp only[go_sem,mk,how.rd.fit,how.rd.cells];refine⟨fun _ _ e=>afb,?_⟩
 refine .same (.refl _) ⟨y1,y',y3,y4,aiR,iV.bN (h0:=G) ?_ fun i hi=>(nG i).1 hi,hgk,fun i b hi hb=>?_⟩
 ·refine hoK.revs (rs:=s.reviews++ [BQ s o w]) (.inr ⟨id,hid,by rw[List.map_append];exact how.same (ag _ _ nik.symm)⟩) (fun q hq=>?_) fun q hq hne hz=>?_
  ·have:id=q:=by have:=how.nid;rw[hq]at this;exact(Option.some.inj this).symm
   rw[←this];exact hor'
  grind [ag]
 ·have n2:i≠id:=fun e=>by grind
  rw[ag _ _ hi,hoth i n2];exact sK _ _ (hfr i b hi hb)
end Go.Proofs.YtokahfmoollblaaGreatDoor
namespace Go.Bf
open Go Go.Ab Go.Proofs.YtokahfmoollblaaGreatDoor
theorem Ex{s:an}{o:OpD}{w:Txt}(h:¬(iY s.cases o.case<s.cases.length∧o.kind≠6)):iM s o w=s:=by simp_all [iM,if_neg]
theorem Ng{s:an}{o:OpD}{w:Txt}{j:Nat}(h1:iY s.cases o.case<s.cases.length)(h2:o.kind≠6)(e:iY s.cases o.case=j):iM s o w= {s with cases:=s.cases.modify j fun c=>jG s c o.subj w}:=by simp_all [iM,if_pos]
end Go.Bf
namespace Go.Proofs.YtokahfmoollblaaGreatDoor
open Go Go.Ab Go.Bf Tryz
theorem Nh{g H:Heap}{k:Nat}{s:an}{j:Nat}(hG:GSt g H k s j)(o:OpD)(w:Txt)(hc:s.cases.length≤1000000)(hl:∀c∈s.cases,c.log.length≤1000000000)(hj:iY s.cases o.case<s.cases.length→o.kind≠6→j=iY s.cases o.case):
  ai prog 117 [.ptr k 0,opA o,.s w] H fun r H' =>GSt g H' k (iM s o w) j:=by
 obtain⟨G,sG,nG,oG⟩:=hG.base;obtain⟨y1,y2,y3,y4,hk,ho,hgk,hfr⟩:=hG;have ho2:iV G H y1 y2 y3 y4 s j:=ho.bN fun i hi=>(nG i).2 hi
 obtain⟨pid,pset,palg,ptgt,prules,pkids,pobls,hpp⟩:∃a b c d e f g,s.policy= .mk a b c d e f g:=by cases s.policy;exact⟨_,_,_,_,_,_,_,rfl⟩
 have hst0:stC s y1 y2 y3 y4= [.i s.tick,y1,y2,y3,y4,.s pid,.b pset,.i palg,aW ptgt,.sl (prules.map aC) .no,.sl (pkids.map aL) .no,ay pobls,.i s.version]:=aiA;rw[hst0]at hk;refine aeJ func117 44 [] fun hwf=>?_
 simp only[go_sem,opA,opC];intro i4 h4;have n4k:i4≠k:=fun e=>by rw[e,hk]at h4;cases h4
 obtain⟨K,eK⟩:∃K,upd H i4 (some (.obj [.i o.kind,.s o.subj,.s o.case,.s o.field,.s o.to,.i o.val.kind,.i o.val.n,.s o.val.s,.i o.review,.s o.text,.s o.reason,.b o.glass] 46))=K:=⟨_,rfl⟩;have sK:Ab.Sub H K:=by rw[←eK];exact .aj h4
 have k4:K i4=some (.obj [.i o.kind,.s o.subj,.s o.case,.s o.field,.s o.to,.i o.val.kind,.i o.val.n,.s o.val.s,.i o.review,.s o.text,.s o.reason,.b o.glass] 46):=by rw[←eK,ah]
 have kk:=sK _ _ hk;have hoK:iV G K y1 y2 y3 y4 s j:=ho2.keep fun id _ hne=>by rw[←eK];exact ag _ _ fun e=>hne (by rw[e];exact h4)
 have hfin:GSt g K k s j:=⟨y1,y2,y3,y4,by rw[hst0];exact kk,hoK.bN fun i hi=>(nG i).1 hi,hgk,fun i b hi hb=>sK _ _ (hfr i b hi hb)⟩
 have hix:ai prog 150 [y1,.fn 167 [.ptr i4 0]] K fun r h' =>r= .i (ixD (fun c:aN=>c.id==o.case) s.cases)∧h' =K:=by obtain⟨xs,hx,hn,hcs⟩:=hoK.cs.rd;exact vw y1 xs s.cases (fun c=>c.id==o.case) _ [.ptr i4 0] K hx hn aeK (Am.agg hn hcs) fun i a b=>Nf (hcs i a b) k4
 have hcsK:=hoK.cs;have n4G:∀id,G id=none→K id≠none→id≠i4→H id=K id:=fun id _ _ h=>by rw[←eK,ag _ _ h]
 simp only[go_sem,ak,n4k.symm,hk];rw[eK];refine hix.pthen ?_
 by_cases hx:iY s.cases o.case<s.cases.length
 case neg=>
  have e1:ixD (fun c:aN=>c.id==o.case) s.cases= -1:=if_neg hx
  have d1:decide ((-1:Int)<0)=true:=rfl;rw[e1];simp only[go_sem,d1];exact .same (.refl _) (by rw[Ex fun h=>hx h.1];exact hfin)
 have e1:ixD (fun c:aN=>c.id==o.case) s.cases=(iY s.cases o.case:Nat):=if_pos hx
 have d1:decide (((iY s.cases o.case:Nat):Int)<0)=false:=decide_eq_false aeK;rw[e1];cases d6:(o.kind==6)
 case true=>
  have h6:o.kind=6:=by simpa using d6
  simp only[go_sem,d1,k4,d6];exact .same (.refl _) (by rw[Ex fun h=>h.2 h6];exact hfin)
 have h6:o.kind≠6:=by simpa using d6
 have hjj:=hj hx h6;have hlo:=Ng (w:=w) hx h6 hjj.symm;have hjc:j<s.cases.length:=by rw[hjj];exact hx
 rw[←hjj]at d1⊢;rw[hlo];obtain⟨xs,w1,hnx,hlw,hmy⟩:=hcsK;have hjx:j<xs.length:=aeK;obtain⟨f,l,ex,of,ol,hap,hys⟩:=hmy hjx hjc;obtain⟨id1,hg1,o1⟩:=w1.ow ahH;have o1' :=o1;obtain⟨cap,rest,ey,hid,hrl,hcap,hsz⟩:=o1';have lA:j*5=(au (xs.take j)).length:=afU;have hidK:K id1=some (.obj (au (xs.take j)++(cp s.cases[j] f l++(au (xs.drop (j+1))++rest))) 111):=by rw[hid,Cv hjx,ex];simp[cp,AV.cells]
 have n1k:id1≠k:=mD o1 kk aeO;have n14:id1≠i4:=mD o1 k4 aeO;have hll:=hl _ (aeF hjc);have p4:=(bF (H:=K) (l:=[k,i4,id1]) (show i4∈ [k,i4,id1] by simp)).trans k4
 have pk:=(bF (H:=K) (l:=[k,i4,id1]) (show k∈ [k,i4,id1] by simp)).trans kk
 have p1:=(bF (H:=K) (l:=[k,i4,id1]) (show id1∈ [k,i4,id1] by simp)).trans hidK
 have hc4:(au (xs.take j)++(cp s.cases[j] f l++(au (xs.drop (j+1))++rest)))[j*5+4]? =some l:=by rw[lA,List.getElem?_append_right aeK,Nat.add_sub_cancel_left];rfl
 obtain⟨CS,eCS⟩:∃CS,au (xs.take j)++(cp s.cases[j] f l++(au (xs.drop (j+1))++rest))=CS:=⟨_,rfl⟩;rw[eCS]at hc4 p1 hidK;simp only[go_sem,d1,k4,d6,kk];refine o1.idx (U:=U) (e:=111) j rfl hjx oc aeO ?_;simp only[go_sem];refine .stage (pick K [k,i4,id1]) [0,1,2,3,4,5,6,7,8,9,10,11,12,13,14,15,16] [17] bS aeN ?_;simp only[go_sem,pk,p4,p1,hc4];have hap1:Rd K 3 (.sl [gw ⟨s.tick,o.subj,w⟩] .full) [gw ⟨s.tick,o.subj,w⟩]:=.sl afw .full;refine OwE.app (U:=U) (tb:=189) ol (sG.trans sK) hap1 aeX aeO aeP aeX aeR afo fun id2 y' K2 g2 hor how hoth=>?_
 have hor' :K id2=none∨nid l=some id2:=by exact ajy
 have n2:∀ {q b t},K q=some (.obj b t)→t≠189→q≠id2:=fun {q b t} hq ht e=>by
  rcases hor' with h|h
  ·rw[e,h]at hq;cases hq
  ·exact mD (ol.nid h).2.2 hq ht e.symm
 have m4:=(hoth i4 (n2 k4 aeO)).trans k4;have mk:=(hoth k (n2 kk aeO)).trans kk;have m1:=(hoth id1 (n2 hidK aeO)).trans hidK;refine⟨jb fun q hq=>?_,?_⟩
 ·simp only[List.mem_cons,List.not_mem_nil,or_false]at hq
  rcases hq with rfl|rfl|rfl
  ·rw[mk,kk]
  ·rw[m4,k4]
  ·rw[m1,hidK]
 simp only[go_sem];refine⟨cW,fun _ _ e=>afb,?_⟩
 simp only[go_sem,m1,how.rd.fit,how.rd.cells];have e5:List.take (j*5+4) CS++ [y']++List.drop (j*5+4+1) CS=au (xs.take j)++(cp s.cases[j] f y' ++(au (xs.drop (j+1))++rest)):=by
  have:=pP (A:=au (xs.take j)++ [.s s.cases[j].id,.s s.cases[j].owner,.s s.cases[j].state,f]) (B:=[l]) (C:=au (xs.drop (j+1))++rest) (X:=[y']) (k:=j*5+4) (m:=1) (by rw[lA];simp) rfl rfl
  exact akt
 rw[e5];refine⟨by rw[←eCS];simp only[aeE,←lA,cp,List.length_cons,List.length_nil];omega,(fun _ _ e=>afb),?_⟩
 obtain⟨F,eF⟩:∃F,upd K2 id1 (some (.obj (au (xs.take j)++(cp s.cases[j] f y' ++(au (xs.drop (j+1))++rest))) 111))=F:=⟨_,rfl⟩;have kF:∀q,q≠id1→q≠id2→F q=K q:=fun q a b=>by rw[←eF,ag _ _ a,hoth q b]
 have kF' :∀q,K q≠none→q≠id1→nid l≠some q→F q=K q:=fun q a b c=>kF q b fun e=>by
  rcases hor' with h|h
  ·exact a (by rw[e];exact h)
  ·exact c (by rw[e];exact h)
 have hF1:F id1=some (.obj (au (xs.take j)++(cp s.cases[j] f y' ++(au (xs.drop (j+1))++rest))) 111):=by rw[←eF,ah]
 have n12:id1≠id2:=n2 hidK aeO;have hX5:Sized 5 (xs.set j (.agg (cp s.cases[j] f y'))):=fun z hz=>by exact ajF
 have hOw:Ow 111 F 5 id1 y1 (xs.set j (.agg (cp s.cases[j] f y'))):=⟨cap,rest,ag7,by rw[hF1,tZ hjx];simp[AV.cells],ahX,agY,hX5⟩
 have hl' :OwE 189 G F 3 y' ((s.cases[j].log++ [(⟨s.tick,o.subj,w⟩:xx)]).map gw):=by rw[List.map_append];exact .inr ⟨id2,g2,how.same (by rw[←eF,ag _ _ n12.symm])⟩
 have hny:∀q,nid y' =some q→q=id2:=fun q hq=>by have:=how.nid;rw[hq]at this;exact Option.some.inj this
 have nf1:nid f≠some id1:=fun e=>(hys y1 aeR).1 id1 e o1.nid
 have hof:OwE 199 G F 4 f (s.cases[j].fields.map bB):=of.keep fun q e=>kF' q (of.nid e).2.1 (fun e' =>nf1 (by rw[←e'];exact e)) (hap q e)
 have hnid:∀ {y:AV},y∈ [y1,y2,y3,y4]→∀q,nid y=some q→K q≠none:=fun hy q e=>(hoK.mem hy e).2
 have hap2:∀ {y:AV},y∈ [y1,y2,y3,y4]→apart y' y:=fun {y} hy q e1 e2=>by
  have:=hny q e1;subst this;rcases hor' with h|h
  ·exact hnid hy _ e2 h
  ·exact(hys y hy).2 _ h e2
 have hkp:∀ {y:AV},y∈ [y2,y3,y4]→apart y1 y→∀q,nid y=some q→F q=K q:=fun {y} hy ha q e=>by have hy' :y∈ [y1,y2,y3,y4]:=List.mem_cons_of_mem _ hy;refine kF' q (hnid hy' q e) (fun e' =>ha id1 o1.nid (by rw[←e'];exact e)) fun e' =>(hys y hy').2 q e' e
 rw[eF];refine .same (.refl _) ⟨y1,y2,y3,y4,?_,iV.bN (h0:=G) ?_ fun i hi=>(nG i).1 hi,hgk,fun i b hi hb=>?_⟩
 ·rw[kF k n1k.symm (n2 kk aeO),kk]
  simp[stC,hpp,gq,aX]
 ·refine⟨CQ (X:=.agg (cp s.cases[j] f y')) (.inr ⟨id1,hg1,hOw⟩) hnx (fun q h1 h2 hq=>hlw q h1 h2 hq) fun hh=>⟨f,y',rfl,hof,hl',fun q e1 e2=>?_,fun y hy=>⟨(hys y hy).1,hap2 hy⟩⟩,hoK.rv.keep (hkp aeR hoK.a12),hoK.nt.keep (hkp aeR hoK.a13),hoK.rl.keep (hkp aeR hoK.a14),hoK.a12,hoK.a13,hoK.a14,hoK.a23,hoK.a24,hoK.a34⟩
  have:=hny q e2;subst this;rcases hor' with h|h
  ·exact(of.nid e1).2.1 h
  ·exact hap _ e1 h
 ·have hGi:G i=some b:=by rw[oG i hi];exact hb
  rw[kF i (fun e=>by rw[e,hg1]at hGi;cases hGi) (fun e=>by rw[e,g2]at hGi;cases hGi)]
  exact sK _ _ (hfr i b hi hb)
end Go.Proofs.YtokahfmoollblaaGreatDoor
namespace Go.Bf
open Go Go.Ab Go.Proofs.YtokahfmoollblaaGreatDoor
variable {B:Nat}{s:an}{o:OpD}{x:cC}{done:Bool}
def sB(B:Nat)(s:an):Prop:=(∀c∈s.cases,c.log.length≤B)∧s.reviews.length≤B∧s.notices.length≤B
theorem sB.up{C:Nat}(h:sB B s)(hc:B≤C):sB C s:=⟨fun c hcc=>Nat.le_trans (h.1 c hcc) hc,Nat.le_trans h.2.1 hc,Nat.le_trans h.2.2 hc⟩
theorem Ka(o:OpD)(done:Bool)(x:cC)(h:sB B s):sB (B+1) (fm o done s x):=by
 unfold fm;split
 ·unfold iM
  split
  ·refine⟨fun c hc=>?_,Nat.le_succ_of_le h.2.1,Nat.le_succ_of_le h.2.2⟩
   rcases mem_modify hc with hc|⟨hi,rfl⟩
   ·exact Nat.le_succ_of_le (h.1 c hc)
   ·have:=h.1 _ (aeF hi)
    simp only[jG,aeE,List.length_singleton];omega
  ·exact h.up aeK
 ·split
  ·refine⟨fun c hc=>Nat.le_succ_of_le (h.1 c hc),?_,Nat.le_succ_of_le h.2.2⟩
   have:=h.2.1;simp only[bW,aeE,List.length_singleton];omega
  ·split
   ·refine⟨fun c hc=>Nat.le_succ_of_le (h.1 c hc),Nat.le_succ_of_le h.2.1,?_⟩
    have:=h.2.2;simp only[aeE,List.length_singleton];omega
   ·exact h.up aeK
theorem wH(o:OpD)(done:Bool):∀(l:List cC) {B:Nat} {s:an},sB B s→sB (B+l.length) (dF s o l done)
 | [],B,s,h=>h
 |x::l,B,s,h=>(wH o done l (Ka o done x h)).up aeL
theorem DG(s:an)(o:OpD)(done:Bool){l:List cC}{i:Nat}(h:i<l.length):dF s o (l.take (i+1)) done=fm o done (dF s o (l.take i) done) l[i]:=by grind [dF,List.take_succ_eq_append_getElem]
theorem wM(o:OpD)(done:Bool)(id:Txt):∀(l:List cC) (s:an),iY (dF s o l done).cases id=iY s.cases id∧(dF s o l done).cases.length=s.cases.length
 | [],s=>⟨rfl,rfl⟩
 |x::l,s=>by obtain⟨a1,a2⟩:=Kp o done s x id;obtain⟨b1,b2⟩:=wM o done id l (fm o done s x);exact⟨b1.trans a1,b2.trans a2⟩
theorem JK(h:x.kind=1):fm o true s x=iM s o x.arg:=by unfold fm;grind
theorem Ga(h:x.kind=3):fm o done s x=bW s o x.arg:=by simp_all [fm,if_neg,if_pos]
theorem Gb(h:x.kind=4):fm o done s x= {s with notices:=s.notices++ [⟨s.tick,o.case,x.arg⟩]}:=by simp_all [fm,if_neg,if_pos]
theorem DH(h1:¬(x.kind=1∧done=true))(h3:x.kind≠3)(h4:x.kind≠4):fm o done s x=s:=by simp_all [fm,if_neg]
end Go.Bf
namespace Go.Proofs.YtokahfmoollblaaGreatDoor
open Go Go.Ab Go.Bf Tryz
theorem F8{g H:Heap}{k:Nat}{s:an}{j:Nat}(hG:GSt g H k s j)(o:OpD)(hk64:i64 o.kind)(l:List cC)(hll:l.length≤100000000)(done:Bool)(hc:s.cases.length≤1000000)(hgr:sB 1000 s)(hj:done=true→iY s.cases o.case<s.cases.length→o.kind≠6→j=iY s.cases o.case):
  ai prog 50 [.ptr k 0,opA o,ay l,.b done] H fun r H' =>GSt g H' k (dF s o l done) j:=by
 have hkn:H k≠none:=by obtain⟨y1,y2,y3,y4,hk,_⟩:=hG;rw[hk];simp
 refine aeJ func50 60 [] fun hwf=>?_
 simp only[go_sem,opA,opC,ay];intro i5 h5;have n5k:i5≠k:=fun e=>hkn (by rw[←e];exact h5)
 have hg5:g i5=none:=by
  obtain⟨y1,y2,y3,y4,hk,ho,hgk,hfr⟩:=hG;cases hh:g i5 with
  |none=>rfl
  |some b=>have:=hfr i5 b n5k hh;rw[h5]at this;cases this
 have hG5:=hG.box h5 (.obj [.i o.kind,.s o.subj,.s o.case,.s o.field,.s o.to,.i o.val.kind,.i o.val.n,.s o.val.s,.i o.review,.s o.text,.s o.reason,.b o.glass] 46);obtain⟨g5,eg5⟩:∃g5,upd g i5 (some (.obj [.i o.kind,.s o.subj,.s o.case,.s o.field,.s o.to,.i o.val.kind,.i o.val.n,.s o.val.s,.i o.review,.s o.text,.s o.reason,.b o.glass] 46))=g5:=⟨_,rfl⟩;have g55:g5 i5=some (.obj [.i o.kind,.s o.subj,.s o.case,.s o.field,.s o.to,.i o.val.kind,.i o.val.n,.s o.val.s,.i o.review,.s o.text,.s o.reason,.b o.glass] 46):=by rw[←eg5,ah]
 rw[eg5]at hG5;have hback:∀ {H' :Heap} {s' :an},GSt g5 H' k s' j→GSt g H' k s' j:=fun {H' s'} h=>by rw[←eg5]at h;exact(h.unbox n5k hg5).1
 have hgk5:g5 k≠none:=by obtain⟨_,_,_,_,_,_,h,_⟩:=hG5;exact h
 simp only[go_sem,aeA];refine .intro (fun m ρ H2=>∃i:Nat,GSt g5 H2 k (dF s o (l.take i) done) j∧i≤l.length∧m=l.length - i∧lk ρ 0=some (.ptr k 0)∧lk ρ 3=some (.b done)∧lk ρ 5=some (.ptr i5 0)∧lk ρ 10=some (.sl (l.map aY) .no)∧lk ρ 11=some (.i l.length)∧lk ρ 12=some (.i i)) l.length ?_ ?_
 ·refine⟨0,hG5,aeK,rfl,?_,?_,?_,?_,?_,?_⟩<;>simp only[go_sem]
 ·rintro m ρ H2 ⟨i,hS,hi,rfl,r0,r3,r5,r10,r11,r12⟩
  simp only[go_sem,r11,r12];refine .intro (fun e=>?_) (fun e=>?_)
  ·have hlt:i<l.length:=aeH e
   have w1:=aeG i aeK;have hsn:=DG s o done hlt;have hgi:=wH o done (l.take i) hgr;have hgi:sB 1000000000 (dF s o (l.take i) done):=hgi.up agn;obtain⟨hix,hcl⟩:=wM o done o.case (l.take i) s;have ix:=fun k=>eu.eq (xs:=l.map aY) (sz:=3) i afc aeU k
   rw[aeB]at ix;obtain⟨x,ex⟩:∃x,l[i]=x:=⟨_,rfl⟩;rw[ex]at ix hsn;obtain⟨t,et⟩:∃t,dF s o (l.take i) done=t:=⟨_,rfl⟩;rw[et]at hS hsn hgi hix hcl;have hjt:done=true→iY t.cases o.case<t.cases.length→o.kind≠6→j=iY t.cases o.case:=fun a b c=>by rw[hix]at b⊢;rw[hcl]at b;exact hj a b c
   simp only[aY]at ix;simp only[go_sem,r10,r12,ix];intro i9 h9;have kkn:H2 k≠none:=by obtain⟨y1,y2,y3,y4,hk,_⟩:=hS;rw[hk];simp
   have n9k:i9≠k:=fun e=>kkn (by rw[←e];exact h9)
   have hg9:g5 i9=none:=by
    obtain⟨y1,y2,y3,y4,hk,ho,hgk,hfr⟩:=hS;cases hh:g5 i9 with
    |none=>rfl
    |some b=>have:=hfr i9 b n9k hh;rw[h9]at this;cases this
   have n95:i9≠i5:=fun e=>by rw[e,g55]at hg9;cases hg9
   have k5:H2 i5=some (.obj [.i o.kind,.s o.subj,.s o.case,.s o.field,.s o.to,.i o.val.kind,.i o.val.n,.s o.val.s,.i o.review,.s o.text,.s o.reason,.b o.glass] 46):=by obtain⟨_,_,_,_,_,_,_,hfr⟩:=hS;exact hfr i5 _ n5k g55
   have hS9:=hS.box h9 (.obj [.i x.on,.i x.kind,.s x.arg] 145);have hb9:∀ {H' :Heap} {s' :an},GSt (upd g5 i9 (some (.obj [.i x.on,.i x.kind,.s x.arg] 145))) H' k s' j→GSt g5 H' k s' j:=fun {H' s'} h=>(h.unbox n9k hg9).1
   have hlog:=fun(hd:done=true)=>Nh hS9 o x.arg (by rw[hcl];exact hc) hgi.1 (hjt hd)
   have hopen:=EL hS9 o x.arg hk64 hgi.2.1;simp only[opA,opC]at hlog hopen;cases a1:(x.kind==1)
   case true=>
    have e1:x.kind=1:=by simpa using a1
    have a3:(x.kind==3)=false:=by rw[e1];rfl
    have a4:(x.kind==4)=false:=by rw[e1];rfl
    cases done
    ·simp only[go_sem,r3,r12,a1,a3,a4,w1]
     refine⟨_,?_,i+1,by rw[hsn,DH (fun h=>by cases h.2) (by rw[e1];decide) (by rw[e1];decide)];exact hb9 hS9,aeK,rfl,?_,?_,?_,?_,?_,?_⟩
     ·omega
     all_goals simp only[go_sem,r0,r3,r5,r10,r11]
    ·simp only[go_sem,r0,r3,r5,a1,ak,n95.symm,k5]
     refine(hlog rfl).mono fun r H3 h3=>?_
     simp only[go_sem,r12,w1];refine⟨_,?_,i+1,by rw[hsn,JK e1];exact hb9 h3,aeK,rfl,?_,?_,?_,?_,?_,?_⟩
     ·omega
     all_goals simp only[go_sem,r0,r3,r5,r10,r11]
   have e1:¬(x.kind=1∧done=true):=fun h=>by rw[h.1]at a1;cases a1
   cases a3:(x.kind==3)
   case true=>
    have e3:x.kind=3:=by simpa using a3
    simp only[go_sem,r0,r5,a1,a3,ak,n95.symm,k5];refine hopen.mono fun r H3 h3=>?_
    simp only[go_sem,r12,w1];refine⟨_,?_,i+1,by rw[hsn,Ga e3];exact hb9 h3,aeK,rfl,?_,?_,?_,?_,?_,?_⟩
    ·omega
    all_goals simp only[go_sem,r0,r3,r5,r10,r11]
   have e3:x.kind≠3:=by simpa using a3
   cases a4:(x.kind==4)
   case false=>
    have e4:x.kind≠4:=by simpa using a4
    simp only[go_sem,r12,a1,a3,a4,w1];refine⟨_,?_,i+1,by rw[hsn,DH e1 e3 e4];exact hb9 hS9,aeK,rfl,?_,?_,?_,?_,?_,?_⟩
    ·omega
    all_goals simp only[go_sem,r0,r3,r5,r10,r11]
   have e4:x.kind=4:=by simpa using a4
   rw[Gb e4]at hsn;obtain⟨G,sG,nG,oG⟩:=hS9.base;obtain⟨y1,y2,y3,y4,kk,ho,hgk,hfr⟩:=hS9;obtain⟨K,eK⟩:∃K,upd H2 i9 (some (.obj [.i x.on,.i x.kind,.s x.arg] 145))=K:=⟨_,rfl⟩;have k9:K i9=some (.obj [.i x.on,.i x.kind,.s x.arg] 145):=by rw[←eK,ah]
   have k5' :K i5=some (.obj [.i o.kind,.s o.subj,.s o.case,.s o.field,.s o.to,.i o.val.kind,.i o.val.n,.s o.val.s,.i o.review,.s o.text,.s o.reason,.b o.glass] 46):=by rw[←eK,ag _ _ n95.symm];exact k5
   rw[eK]at sG kk ho hfr;have hoK:iV G K y1 y2 y3 y4 t j:=ho.bN fun i hi=>(nG i).2 hi
   obtain⟨pid,pset,palg,ptgt,prules,pkids,pobls,hpp⟩:∃a b c d e f g,t.policy= .mk a b c d e f g:=by cases t.policy;exact⟨_,_,_,_,_,_,_,rfl⟩
   have hst:∀z (n:List FM),stC {t with notices:=n} y1 y2 z y4= [.i t.tick,y1,y2,z,y4,.s pid,.b pset,.i palg,aW ptgt,.sl (prules.map aC) .no,.sl (pkids.map aL) .no,ay pobls,.i t.version]:=fun z n=>aiA
   have hst0:stC t y1 y2 y3 y4= [.i t.tick,y1,y2,y3,y4,.s pid,.b pset,.i palg,aW ptgt,.sl (prules.map aC) .no,.sl (pkids.map aL) .no,ay pobls,.i t.version]:=aiA;rw[hst0]at kk;have p9:=(bF (H:=K) (l:=[k,i5,i9]) (show i9∈ [k,i5,i9] by simp)).trans k9
   have p5:=(bF (H:=K) (l:=[k,i5,i9]) (show i5∈ [k,i5,i9] by simp)).trans k5'
   have pk:=(bF (H:=K) (l:=[k,i5,i9]) (show k∈ [k,i5,i9] by simp)).trans kk
   simp only[go_sem,a1,a3,a4];rw[eK];refine .stage (pick K [k,i5,i9]) [0,1,2,3,4,5,6,7,8,9,10,11,12,13,14,15,16,17] [18] bS aeN ?_;simp only[go_sem,r0,r5,pk,p5,p9];have hap1:Rd K 3 (.sl [kD ⟨t.tick,o.case,x.arg⟩] .full) [kD ⟨t.tick,o.case,x.arg⟩]:=.sl afw .full;have hnl:=hgi.2.2;refine OwE.app (U:=U) (tb:=135) hoK.nt sG hap1 aeX aeO aeP aeX aeR afo fun id y' K2 hid hor how hoth=>?_
   have hor' :K id=none∨nid y3=some id:=by exact ajy
   have n2:∀ {q b t},K q=some (.obj b t)→t≠135→q≠id:=fun {q b t} hq ht e=>by
    rcases hor' with h|h
    ·rw[e,h]at hq;cases hq
    ·exact mD (hoK.nt.nid h).2.2 hq ht e.symm
   have m9:=(hoth i9 (n2 k9 aeO)).trans k9;have m5:=(hoth i5 (n2 k5' aeO)).trans k5';have nik:=n2 kk aeO;have mk:=(hoth k nik).trans kk;refine⟨jb fun q hq=>?_,?_⟩
   ·simp only[List.mem_cons,List.not_mem_nil,or_false]at hq
    rcases hq with rfl|rfl|rfl
    ·rw[mk,kk]
    ·rw[m5,k5']
    ·rw[m9,k9]
   simp only[go_sem];refine⟨cW,fun _ _ e=>afb,?_⟩
   simp only[go_sem,r12,mk,how.rd.fit,how.rd.cells];refine⟨fun _ _ e=>afb,?_⟩
   simp only[go_sem,w1];obtain⟨F,eF⟩:∃F,upd K2 k (some (.obj [.i t.tick,y1,y2,y',y4,.s pid,.b pset,.i palg,aW ptgt,.sl (prules.map aC) .no,.sl (pkids.map aL) .no,ay pobls,.i t.version] 40))=F:=⟨_,rfl⟩;have Fk:F k=(some (.obj [.i t.tick,y1,y2,y',y4,.s pid,.b pset,.i palg,aW ptgt,.sl (prules.map aC) .no,.sl (pkids.map aL) .no,ay pobls,.i t.version] 40)):=by rw[←eF,ah]
   have Fo:∀q,q≠k→F q=K2 q:=fun q hq=>by rw[←eF,ag _ _ hq]
   have hoz:OwE 135 G F 3 y' ((t.notices++ [(⟨t.tick,o.case,x.arg⟩:FM)]).map kD):=by rw[List.map_append];exact .inr ⟨id,hid,how.same (Fo id nik.symm)⟩
   have hop:iV G F y1 y2 y' y4 {t with notices:=t.notices++ [⟨t.tick,o.case,x.arg⟩]} j:=by
    refine iV.nots (h:=K) (h' :=F) hoK hoz (fun q hq=>?_) fun q hq hne hz=>?_
    ·have:id=q:=by have:=how.nid;rw[hq]at this;exact(Option.some.inj this).symm
     rw[←this];exact hor'
    ·have n1:q≠k:=fun e=>hgk ((nG k).1 (by rw[←e];exact hq))
     have n2:q≠id:=fun e=>by
      rcases hor' with h|h
      ·exact hne (by rw[e];exact h)
      ·exact hz (by rw[e];exact h)
     rw[Fo q n1,hoth q n2]
   have hgs:GSt (upd g5 i9 (some (.obj [.i x.on,.i x.kind,.s x.arg] 145))) F k {t with notices:=t.notices++ [⟨t.tick,o.case,x.arg⟩]} j:=by
    refine⟨y1,y2,y',y4,by rw[Fk,hst],iV.bN hop fun i hi=>(nG i).1 hi,hgk,fun i b hi hb=>?_⟩
    have n2:i≠id:=fun e=>by have:=(nG id).1 hid;rw[←e,hb]at this;cases this
    rw[Fo i hi,hoth i n2];exact hfr i b hi hb
   rw[←eF]at hgs;refine⟨_,?_,i+1,by rw[hsn];exact hb9 hgs,aeK,rfl,?_,?_,?_,?_,?_,?_⟩
   ·omega
   all_goals simp only[go_sem,r0,r3,r5,r10,r11]
  ·have hge:i=l.length:=by have:=aeD e;omega
   subst hge;rw[List.take_length]at hS;simp only[go_sem];exact .same (.refl _) (hback hS)
theorem Pz(s:an)(hf:Few s)(h:Heap):ai prog 44 [bY s] h fun r h' =>∃y1 y2 y3,r= .agg (stC s y1 y2 y3 (dW s.roles))∧iV h h' y1 y2 y3 (dW s.roles) s s.cases.length∧Ab.Sub h h' :=by
 have hst:=sn s;have hsc:∀y1 y2 y3,stC s y1 y2 y3 (dW s.roles)=stC s y1 y2 y3 (dW s.roles):=fun _ _ _=>rfl
 have hfc:=hf.cases;have hfg:=hf.log;have hfr:=hf.reviews;have hfn:=hf.notices;obtain⟨tick,cs,rv,nt,ro,⟨pid,pset,palg,ptgt,prules,pkids,pobls⟩,ver⟩:=s;simp only at hfc hfg hfr hfn;rw[hst];simp only[sL,fM,jV,kE,dW,aX];refine aeJ func44 35 [.cell 2 40] fun hwf=>?_
 simp only[go_sem];intro i1 h1;simp only[go_sem];intro i2 h2;have n21:=aH h2;have n2:=aB h2;simp only[go_sem];obtain⟨H,eH⟩:∃H,upd (upd h i1 (some (.obj [.i tick,.sl (cs.map bV) .no,.sl (rv.map gz) .no,.sl (nt.map kD) .no,.sl (ro.map dj) .no,.s pid,.b pset,.i palg,aW ptgt,.sl (prules.map aC) .no,.sl (pkids.map aL) .no,ay pobls,.i ver] 40))) i2 (some (.obj [.i 0,.sl [] .full,.sl [] .full,.sl [] .full,.sl [] .full,.s [],.b false,.i 0,.sl [] .full,.sl [] .full,.sl [] .full,.sl [] .full,.i 0] 40))=H:=⟨_,rfl⟩;have hH:Ab.Sub h H:=afO;have g1:H i1=some (.obj [.i tick,.sl (cs.map bV) .no,.sl (rv.map gz) .no,.sl (nt.map kD) .no,.sl (ro.map dj) .no,.s pid,.b pset,.i palg,aW ptgt,.sl (prules.map aC) .no,.sl (pkids.map aL) .no,ay pobls,.i ver] 40):=agq;have g2:H i2=some (.obj [.i 0,.sl [] .full,.sl [] .full,.sl [] .full,.sl [] .full,.s [],.b false,.i 0,.sl [] .full,.sl [] .full,.sl [] .full,.sl [] .full,.i 0] 40):=agh;rw[eH];clear eH;refine .stage (hm1 i1 (.obj [.i tick,.sl (cs.map bV) .no,.sl (rv.map gz) .no,.sl (nt.map kD) .no,.sl (ro.map dj) .no,.s pid,.b pset,.i palg,aW ptgt,.sl (prules.map aC) .no,.sl (pkids.map aL) .no,ay pobls,.i ver] 40)) [0,1,3,4,6,7,2,9,5,8] [10,11,12,13,14] (.hm1 g1) aeN ?_;simp only[go_sem,gy];refine(wz _ (rv.map gz) H (eL gz 7 (fun _=>rfl) _ _) aeL).mono fun z2 H1 ⟨o2,s1⟩=>?_
 refine⟨.hm1 (s1 _ _ g1),?_⟩;simp only[go_sem];refine(wu _ (nt.map kD) H1 (eL kD 3 (fun _=>rfl) _ _) aeL).mono fun z3 H2 ⟨o3,s2⟩=>?_
 refine⟨.hm1 (s2 _ _ (s1 _ _ g1)),?_⟩;simp only[go_sem];refine(A3 _ (cs.map bV) H2 (eL bV 5 (fun _=>rfl) _ _) aeL).mono fun z1 H3 ⟨o1,s3⟩=>?_
 have s03:Ab.Sub H H3:=s1.trans (s2.trans s3);have q1' :=s03 _ _ g1;have q2' :=s03 _ _ g2;refine⟨.hm1 q1',cW,(fun _ _ e=>afb),?_⟩
 simp only[go_sem,q1',o1.rd.fit,o1.rd.cells,o2.rd.fit,o2.rd.cells,o3.rd.fit,o3.rd.cells];refine⟨fun _ _ e=>afb,fun _ _ e=>afb,fun _ _ e=>afb,?_⟩
 obtain⟨M,eM⟩:∃M,upd H3 i1 (some (.obj [.i tick,z1,z2,z3,.sl (ro.map dj) .no,.s pid,.b pset,.i palg,aW ptgt,.sl (prules.map aC) .no,.sl (pkids.map aL) .no,ay pobls,.i ver] 40))=M:=⟨_,rfl⟩;have oM:∀q,q≠i1→M q=H3 q:=fun q hq=>by rw[←eM,ag _ _ hq]
 have m1:M i1=some (.obj [.i tick,z1,z2,z3,.sl (ro.map dj) .no,.s pid,.b pset,.i palg,aW ptgt,.sl (prules.map aC) .no,.sl (pkids.map aL) .no,ay pobls,.i ver] 40):=by rw[←eM,ah]
 have m2:=(oM i2 n21).trans q2';have hM:Ab.Sub h M:=by rw[←eM];exact(hH.trans s03).put h1 _
 have new:∀ {tb:TypeId} {z:AV} {xs:List AV} {n:Nat} {g:Heap},OwE tb g H3 n z xs→Ab.Sub H g→OwE tb h M n z xs:=fun w hg=>(w.less (hH.trans hg)).keep fun id e=>oM id (cP (w.nid e).1 (hg _ _ g1))
 have w1:=new o1 (s1.trans s2);have w2:=new (o2.sub (s2.trans s3)) (.refl _);have w3:=new (o3.sub s3) s1;have a12:apart z1 z2:=(eJ o1 (o2.there s2.some)).symm;have a13:apart z1 z3:=(eJ o1 (o3.there fun k hk=>hk)).symm
 have a23:apart z2 z3:=eJ o3 (o2.there fun k hk=>hk)
 simp only[go_sem,o1.rd.len,aeA];rw[eM];have h12:i1≠i2:=n21.symm;refine .intro (fun m ρ G=>∃i:Nat,Ab.Sub M G∧i≤cs.length∧m=cs.length - i∧lk ρ 1=some (.ptr i1 0)∧lk ρ 2=some (.ptr i2 0)∧lk ρ 18=some z1∧lk ρ 19=some (.i cs.length)∧lk ρ 20=some (.i i)) cs.length ?_ ?_
 ·refine⟨0,.refl _,aeK,rfl,?_,?_,?_,?_,?_⟩<;>simp only[go_sem]
 ·rintro m ρ G ⟨i,hs,hi,rfl,r1,r2,r18,r19,r20⟩
  have v1:=w1.sub hs;simp only[go_sem,r19,r20];refine .intro (fun e=>?_) (fun e=>?_)
  ·have hlt:i<cs.length:=aeH e
   have w1' :IntKind.i64.wrap ((i:Int)+1)=((i+1:Nat):Int):=aeW;have hfl:=hfg _ (aeF hlt);have hxi:(cs.map bV)[i]'aeL=bV cs[i]:=aeB ..;simp only[go_sem,r18,r20];refine v1.rd.idx (U:=U) (e:=111) i rfl aeL oc aeO fun p hp1=>?_
   have hld:=hp1.all (U:=U) (ty:=111) aeO (by rw[oc,hxi];rfl) (by simp only[go_sem];rw[hxi];rfl)
   obtain⟨c,ec⟩:∃c,cs[i]=c:=⟨_,rfl⟩;rw[hxi,ec]at hld;rw[ec]at hfl hxi;simp only[bV,mY,gI,sW]at hld;simp only[go_sem,hld];intro i4 h4;have k1:=hs _ _ m1;have n41:i4≠i1:=cP h4 k1;obtain⟨G4,eG4⟩:∃G4,upd G i4 (some (.obj [.s c.id,.s c.owner,.s c.state,.sl (c.fields.map bB) .no,.sl (c.log.map gw) .no] 111))=G4:=⟨_,rfl⟩;have sG:Ab.Sub G G4:=ah7;have p1:=sG _ _ k1;have p4:G4 i4=some (.obj [.s c.id,.s c.owner,.s c.state,.sl (c.fields.map bB) .no,.sl (c.log.map gw) .no] 111):=by rw[←eG4,ah]
   simp only[go_sem];rw[eG4];refine .stage (hm2 i1 (.obj [.i tick,z1,z2,z3,.sl (ro.map dj) .no,.s pid,.b pset,.i palg,aW ptgt,.sl (prules.map aC) .no,.sl (pkids.map aL) .no,ay pobls,.i ver] 40) i4 (.obj [.s c.id,.s c.owner,.s c.state,.sl (c.fields.map bB) .no,.sl (c.log.map gw) .no] 111)) [0,1,2,3,4,5,6,7] [8] (.hm2 p1 p4) aeN ?_;simp only[go_sem,r1,rV _ _ n41.symm,rW];refine(xB _ (c.log.map gw) G4 (eL gw 3 (fun _=>rfl) _ _) aeL (bn (fun _=>rfl) _)).pthen ?_
   refine⟨.hm2 p1 p4,?_⟩;simp only[go_sem];obtain⟨id1,hg1,u1⟩:=(v1.sub sG).ow aeL;refine u1.idx (U:=U) (e:=111) i rfl aeL oc aeO ?_;simp only[go_sem];refine⟨cW,(fun _ _ e=>afb),?_⟩
   have u1' :=u1;obtain⟨cap,rest,ey,hid,hr,hcap,hsz⟩:=u1';have hbd:i*5+5≤(au (cs.map bV)++rest).length:=by grind [aeE,aZ,aeA]
   have e5:List.take (i*5+4) (au (cs.map bV)++rest)++ [.sl (c.log.map gw) .no]++List.drop (i*5+4+1) (au (cs.map bV)++rest)=au (cs.map bV)++rest:=by refine(kI hsz i aeL 4 [.sl (c.log.map gw) .no] (aez rfl)).trans ?_;rw[o7];rw[List.getElem?_eq_getElem aeL,hxi];rfl
   simp only[go_sem,r20,hid];rw[e5,tr hid];refine⟨aeK,(fun _ _ e=>afb),?_⟩
   simp only[go_sem,w1'];refine⟨_,?_,i+1,hs.trans sG,aeK,rfl,?_,?_,?_,?_,?_⟩
   ·omega
   all_goals simp only[go_sem,r1,r2,r18,r19]
  ·have hge:i=cs.length:=by grind
   have k1:=hs _ _ m1;have k2:=hs _ _ m2;have n21' :i2≠i1:=n21;simp only[go_sem,r1,r2,k1,k2];have kp:∀b q,h q=none→M q≠none→q≠i2→upd G i2 b q=M q:=fun b q a c d=>by
    rw[ag _ _ d];cases hh:M q with
    |none=>grind
    |some b=>exact hs _ _ hh
   have ne2:∀ {tb:TypeId} {z:AV} {xs:List AV} {n:Nat},OwE tb h M n z xs→tb≠40→∀q,nid z=some q→q≠i2:=fun w ht q e=>mD (w.nid e).2.2 m2 ht.symm
   refine .mk _ (.refl _) (.refl _) ⟨z1,z2,z3,by simp[stC,gq,aX]<;>rfl,⟨⟨cs.map bV,w1.keep fun q e=>kp _ q (w1.nid e).1 (w1.nid e).2.1 (ne2 w1 aeO q e),aeR,fun j a b _=>aeB ..,fun a b=>absurd b (Nat.lt_irrefl _)⟩,w2.keep fun q e=>kp _ q (w2.nid e).1 (w2.nid e).2.1 (ne2 w2 aeO q e),w3.keep fun q e=>kp _ q (w3.nid e).1 (w3.nid e).2.1 (ne2 w3 aeO q e),.inl rfl,a12,a13,fun q _ e=>afb,a23,fun q _ e=>afb,fun q _ e=>afb⟩,(hM.trans hs).put n2 _⟩
end Go.Proofs.YtokahfmoollblaaGreatDoor
namespace Go.Bf
open Go Go.Ab Go.Proofs.YtokahfmoollblaaGreatDoor
def lp(r:iG):List AV:=[.i r.err,aO r.mark,.b r.glass,.i r.val.kind,.i r.val.n,.s r.val.s,.b r.hidden,.i r.at_]
def tO(d:pn):List AV:=opC d.op++ [.i d.version,aO d.mark,.b d.glass,ay d.obls]
def og:List AV:=[.i 0,.v (.complex .f64 0 0),.b false,.i 0,.i 0,.s [],.b false,.i 0]
def kj(x:an×iG×pn×Int):AV:=.tup [bY x.1,.agg (lp x.2.1),.agg (tO x.2.2.1),.i x.2.2.2]
theorem Be{cs ds:List aN}(h:ds.map (·.id)=cs.map (·.id))(id:Txt):findD ds id=findD cs id:=by
 have e:∀l:List aN,findD l id=(l.map (·.id)).findIdx fun x=>geB x id:=fun l=>by rw[List.findIdx_map];rfl
 rw[e,e,h]
theorem MH(id:Txt):geB id id=true:=by
 have:Op.bytesLess id id=false:=by simpa[lt]using lt_irrefl id
 simp[geB,this]
theorem JJ{s:an}{o:OpD}(hr:bL s o=0):findD (dR aR s o).cases o.case=findD s.cases o.case:=by
 unfold dR;rw[if_pos hr];unfold doD
 by_cases k1:o.kind=1
 ·simp only[k1,if_true]
  obtain⟨f,ef⟩:∃f,findD s.cases o.case=f:=⟨_,rfl⟩;have hf:f≤s.cases.length:=by rw[←ef];exact List.findIdx_le_length
  rw[ef];refine(List.findIdx_eq aeL).2 ⟨?_,fun j hj=>?_⟩
  ·have:((List.take f s.cases++ [jG s ⟨o.case,o.subj,jU,[],[]⟩ o.subj [110,101,119]]++List.drop f s.cases)[f]?)=some (jG s ⟨o.case,o.subj,jU,[],[]⟩ o.subj [110,101,119]):=by grind
   rw[(List.getElem_eq_iff _).2 this];exact MH _
  ·have hj2:j<s.cases.length:=by omega
   have:((List.take f s.cases++ [jG s ⟨o.case,o.subj,jU,[],[]⟩ o.subj [110,101,119]]++List.drop f s.cases)[j]?)=some s.cases[j]:=by grind
   rw[(List.getElem_eq_iff _).2 this];have h3:j<s.cases.findIdx fun c=>geB c.id o.case:=by grind [findD]
   simpa using List.not_of_lt_findIdx h3
 ·by_cases k3:o.kind=3
  ·simp only[k3,show¬(3:Int)=1 by decide,if_false,if_true]
   exact Be (kZ (f:=fun c=>jG s {c with fields:=eN c.fields o.field o.val} o.subj [119,114,105,116,101]) (g:=fun c:aN=>c.id) fun c=>rfl) _
  ·by_cases k4:o.kind=4
   ·simp only[k4,show¬(4:Int)=1 by decide,show¬(4:Int)=3 by decide,if_false,if_true]
    exact Be (kZ (f:=fun c=>jG s {c with state:=o.to} o.subj o.to) (g:=fun c:aN=>c.id) fun c=>rfl) _
   grind
theorem Pp{k:Nat}{s:an}{o:OpD}(h:dL k s)(hr:bL s o=0)(hx:iY (dR aR s o).cases o.case<(dR aR s o).cases.length):findD s.cases o.case=iY (dR aR s o).cases o.case:=by rw[←JJ hr];exact GI (qd o h).asc hx
theorem KK{t:Txt}(h:(aR t).2.1=0):(aR t).2.2=0:=by
 unfold aR at h⊢;cases hl:pO t with
 |bad e a=>rw[hl]at h;simp only at h;have:=(uk hl).1;omega
 |ok ts=>
  simp only[zw]at h⊢
  grind
end Go.Bf
namespace Go.Proofs.YtokahfmoollblaaGreatDoor
open Go Go.Ab Go.Bf Tryz
variable {g h H:Heap}{S s:an}{k j:Nat}
theorem KN(c:aN):cN (bV c)=true:=by simp[bV,mY,cN,gF,gI,sW,bn (f:=bB) (fun _=>rfl),bn (f:=gw) (fun _=>rfl)]
theorem SX(s:an):Frz g h (bY s) (bY s):=by
 have:=vp (g:=g) (h:=h) (s:=s) (y1:=fM s.cases) (y2:=jV s.reviews) (y3:=kE s.notices) (y4:=dW s.roles) (.pure (by grind [fM,cN,bn,KN])) (.pure (by simp only[jV,cN];exact bn (fun _=>rfl) _)) (.pure (by simp only[kE,cN];exact bn (fun _=>rfl) _)) (.pure (by simp only[dW,cN];exact bn (fun _=>rfl) _))
 exact afv
theorem MF(l:List cC)(q:Perm):Frz g h (.sl (l.map aY) q) (ay l):=.sl _ _ _ rfl aeK fun i h1 h2 j h3 h4=>by refine .pure ?_;have:cN (l.map aY)[i]=true:=aeU;exact nY this _ aeR
theorem Bh{x:AV}(r:iG)(d:pn)(e:Int)(a:Frz g h x (bY S))(q:Perm):Frz g h (.tup [x,.agg (lp r),.agg (opC d.op++ [.i d.version,aO d.mark,.b d.glass,.sl (d.obls.map aY) q]),.i e]) (kj (S,r,d,e)):=by
 refine .tup _ _ rfl fun i h1 h2=>?_
 rcases i with _|_|_|_|i
 ·exact a
 ·exact ae5
 ·refine .agg _ _ aeZ fun j h3 h4=>?_
  rcases j with _|_|_|_|_|_|_|_|_|_|_|_|_|_|_|_|j
  ·exact ae5
  ·exact ae5
  ·exact ae5
  ·exact ae5
  ·exact ae5
  ·exact ae5
  ·exact ae5
  ·exact ae5
  ·exact ae5
  ·exact ae5
  ·exact ae5
  ·exact ae5
  ·exact ae5
  ·exact ae5
  ·exact ae5
  ·exact MF d.obls q
  ·simp[opC]at h3;omega
 ·exact ae5
 grind
theorem GSt.put(hG:GSt g H k s j){i:Nat}(hi:i≠k)(hgi:g i≠none)(b:Blk):GSt (upd g i (some b)) (upd H i (some b)) k s j:=by
 obtain⟨y1,y2,y3,y4,hk,ho,hgk,hfr⟩:=hG;refine⟨y1,y2,y3,y4,afq,(ho.more (g:=upd g i (some b)) fun q hq _=>afq).keep fun q hq _=>ag _ _ fun e=>?_,afq,fun q c hq hc=>?_⟩
 ·grind [ah]
 grind [ah,ag]
theorem GSt.at(hG:GSt g H k s j){i:Nat}{b:Blk}(hi:i≠k)(hb:g i=some b):H i=some b:=by
 obtain⟨_,_,_,_,_,_,_,hfr⟩:=hG
 grind
theorem GSt.sub{f:Heap}(hG:GSt g H k s j)(hs:Ab.Sub f g)(hk:f k=none):Ab.Sub f H:=fun i b hi=>by obtain⟨_,_,_,_,_,_,_,hfr⟩:=hG;exact hfr i b aeL (hs i b hi)
theorem GSt.same{H':Heap}(hG:GSt g H k s j)(hs:Ab.Sub H H'):GSt g H' k s j:=by
 obtain⟨y1,y2,y3,y4,hk,ho,hgk,hfr⟩:=hG;exact⟨y1,y2,y3,y4,hs _ _ hk,ho.keep fun q _ hne=>by
  cases hh:H q with
  |none=>grind
  |some b=>exact hs _ _ hh,hgk,fun i b hi hb=>hs _ _ (hfr i b hi hb)⟩
theorem rM{pid:Txt}{pset:Bool}{palg:Int}{ptgt:gp}{prules:List cV}{pkids:List bE}{pobls:List cC}(hpp:s.policy= .mk pid pset palg ptgt prules pkids pobls)(y1 y2 y3 y4:AV):stC s y1 y2 y3 y4= [.i s.tick,y1,y2,y3,y4,.s pid,.b pset,.i palg,.sl (ptgt.map cE) .no,.sl (prules.map aC) .no,.sl (pkids.map aL) .no,.sl (pobls.map aY) .no,.i s.version]:=by simp[stC,hpp,gq,aX,aW,ay]
theorem NP(p:bE):∃a b c d e f g,p= .mk a b c d e f g:=by cases p;simp
theorem nh(s:an)(hG:gH k s)(hk:k≤1000)(o:OpD)(ho:oN o)(h:Heap)(he:iB h):ai prog 10 [bY s,opA o] h fun r h' =>r=kj (aI s o)∧h' =h:=
 ai.freeze fun g hg _=>by
 replace he:=he.sub hg;obtain⟨pid,pset,palg,ptgt,prules,pkids,pobls,hpp⟩:∃a b c d e f g,s.policy= .mk a b c d e f g:=by cases s.policy;exact⟨_,_,_,_,_,_,_,rfl⟩
 have hst:bY s= .agg [.i s.tick,.sl (s.cases.map bV) .no,.sl (s.reviews.map gz) .no,.sl (s.notices.map kD) .no,.sl (s.roles.map dj) .no,.s pid,.b pset,.i palg,.sl (ptgt.map cE) .no,.sl (prules.map aC) .no,.sl (pkids.map aL) .no,.sl (pobls.map aY) .no,.i s.version]:=by simp[bY,gq,hpp,fM,jV,kE,dW,aX,aW,ay]
 rw[hst];refine ai.of_wp hU func10 rfl aeN 131 rfl [.cell 4 40,.cell 5 53,.cell 6 55,.tmp 7] rfl (aez rfl) ?_;refine .one hU hm ?_;simp only[go_sem,opA,opC];intro i2 h2;simp only[go_sem];obtain⟨H2,e2⟩:∃H2,upd g i2 (some (.obj [.i s.tick,.sl (s.cases.map bV) .no,.sl (s.reviews.map gz) .no,.sl (s.notices.map kD) .no,.sl (s.roles.map dj) .no,.s pid,.b pset,.i palg,.sl (ptgt.map cE) .no,.sl (prules.map aC) .no,.sl (pkids.map aL) .no,.sl (pobls.map aY) .no,.i s.version] 40))=H2:=⟨_,rfl⟩;have s2:Ab.Sub g H2:=by rw[←e2];exact .aj h2
 have b2:H2 i2=some (.obj [.i s.tick,.sl (s.cases.map bV) .no,.sl (s.reviews.map gz) .no,.sl (s.notices.map kD) .no,.sl (s.roles.map dj) .no,.s pid,.b pset,.i palg,.sl (ptgt.map cE) .no,.sl (prules.map aC) .no,.sl (pkids.map aL) .no,.sl (pobls.map aY) .no,.i s.version] 40):=by rw[←e2,ah]
 have q2:g i2=none:=h2;have sg:Ab.Sub g H2:=s2;rw[e2];clear e2;intro i3 h3;simp only[go_sem];obtain⟨H3,e3⟩:∃H3,upd H2 i3 (some (.obj [.i o.kind,.s o.subj,.s o.case,.s o.field,.s o.to,.i o.val.kind,.i o.val.n,.s o.val.s,.i o.review,.s o.text,.s o.reason,.b o.glass] 46))=H3:=⟨_,rfl⟩;have s3:Ab.Sub H2 H3:=by rw[←e3];exact .aj h3
 have n3_2:i3≠i2:=fun e=>by rw[e,b2]at h3;cases h3
 replace b2:=s3 _ _ b2;have b3:H3 i3=some (.obj [.i o.kind,.s o.subj,.s o.case,.s o.field,.s o.to,.i o.val.kind,.i o.val.n,.s o.val.s,.i o.review,.s o.text,.s o.reason,.b o.glass] 46):=by rw[←e3,ah]
 have q3:g i3=none:=sg.none h3;have sg:Ab.Sub g H3:=sg.trans s3;rw[e3];clear e3;intro i4 h4;simp only[go_sem];obtain⟨H4,e4⟩:∃H4,upd H3 i4 (some (.obj [.i 0,.sl [] .full,.sl [] .full,.sl [] .full,.sl [] .full,.s [],.b false,.i 0,.sl [] .full,.sl [] .full,.sl [] .full,.sl [] .full,.i 0] 40))=H4:=⟨_,rfl⟩;have s4:Ab.Sub H3 H4:=by rw[←e4];exact .aj h4
 have n4_2:i4≠i2:=fun e=>by rw[e,b2]at h4;cases h4
 have n4_3:i4≠i3:=fun e=>by rw[e,b3]at h4;cases h4
 replace b2:=s4 _ _ b2;replace b3:=s4 _ _ b3;have b4:H4 i4=some (.obj [.i 0,.sl [] .full,.sl [] .full,.sl [] .full,.sl [] .full,.s [],.b false,.i 0,.sl [] .full,.sl [] .full,.sl [] .full,.sl [] .full,.i 0] 40):=by rw[←e4,ah]
 have q4:g i4=none:=sg.none h4;have sg:Ab.Sub g H4:=sg.trans s4;rw[e4];clear e4;intro i5 h5;simp only[go_sem];obtain⟨H5,e5⟩:∃H5,upd H4 i5 (some (.obj [.i 0,.v (.complex .f64 0 0),.b false,.i 0,.i 0,.s [],.b false,.i 0] 53))=H5:=⟨_,rfl⟩;have s5:Ab.Sub H4 H5:=by rw[←e5];exact .aj h5
 have n5_2:i5≠i2:=fun e=>by rw[e,b2]at h5;cases h5
 have n5_3:i5≠i3:=fun e=>by rw[e,b3]at h5;cases h5
 have n5_4:i5≠i4:=fun e=>by rw[e,b4]at h5;cases h5
 replace b2:=s5 _ _ b2;replace b3:=s5 _ _ b3;replace b4:=s5 _ _ b4;have b5:H5 i5=some (.obj [.i 0,.v (.complex .f64 0 0),.b false,.i 0,.i 0,.s [],.b false,.i 0] 53):=by rw[←e5,ah]
 have q5:g i5=none:=sg.none h5;have sg:Ab.Sub g H5:=sg.trans s5;rw[e5];clear e5;intro i6 h6;simp only[go_sem];obtain⟨H6,e6⟩:∃H6,upd H5 i6 (some (.obj [.i 0,.s [],.s [],.s [],.s [],.i 0,.i 0,.s [],.i 0,.s [],.s [],.b false,.i 0,.v (.complex .f64 0 0),.b false,.sl [] .full] 55))=H6:=⟨_,rfl⟩;have s6:Ab.Sub H5 H6:=by rw[←e6];exact .aj h6
 have n6_2:i6≠i2:=fun e=>by rw[e,b2]at h6;cases h6
 have n6_3:i6≠i3:=fun e=>by rw[e,b3]at h6;cases h6
 have n6_4:i6≠i4:=fun e=>by rw[e,b4]at h6;cases h6
 have n6_5:i6≠i5:=fun e=>by rw[e,b5]at h6;cases h6
 replace b2:=s6 _ _ b2;replace b3:=s6 _ _ b3;replace b4:=s6 _ _ b4;replace b5:=s6 _ _ b5;have b6:H6 i6=some (.obj [.i 0,.s [],.s [],.s [],.s [],.i 0,.i 0,.s [],.i 0,.s [],.s [],.b false,.i 0,.v (.complex .f64 0 0),.b false,.sl [] .full] 55):=by rw[←e6,ah]
 have q6:g i6=none:=sg.none h6;have sg:Ab.Sub g H6:=sg.trans s6;rw[e6];clear e6;refine WP.Ob hU hm 0 (fun(_:Nat) (ρ:Env) (H' :Heap)=>∃(e a:Int),Ab.Sub g H'∧H' i2=some (.obj [.i s.tick,.sl (s.cases.map bV) .no,.sl (s.reviews.map gz) .no,.sl (s.notices.map kD) .no,.sl (s.roles.map dj) .no,.s pid,.b pset,.i palg,.sl (ptgt.map cE) .no,.sl (prules.map aC) .no,.sl (pkids.map aL) .no,.sl (pobls.map aY) .no,.i s.version] 40)∧H' i4=some (.obj [.i 0,.sl [] .full,.sl [] .full,.sl [] .full,.sl [] .full,.s [],.b false,.i 0,.sl [] .full,.sl [] .full,.sl [] .full,.sl [] .full,.i 0] 40)∧H' i5=some (.obj [.i 0,.v (.complex .f64 0 0),.b false,.i 0,.i 0,.s [],.b false,.i 0] 53)∧H' i6=some (.obj [.i 0,.s [],.s [],.s [],.s [],.i 0,.i 0,.s [],.i 0,.s [],.s [],.b false,.i 0,.v (.complex .f64 0 0),.b false,.sl [] .full] 55)∧lk ρ 2=some (.ptr i2 0)∧lk ρ 4=some (.ptr i4 0)∧lk ρ 5=some (.ptr i5 0)∧lk ρ 6=some (.ptr i6 0)∧lk ρ 12=some (.i e)∧lk ρ 13=some (.i a)∧aI s o=(s,⟨e,naM,false,aq,false,a⟩,yb,e)) rfl ?_ ?_
 ·rintro m ρ H' ⟨e,a,sg',b2,b4,b5,b6,r2,r4,r5,r6,r12,r13,hgd⟩
  refine .vc hU hm ?_;simp only[go_sem,r2,r4,r5,r6,r12,r13,b2,b4,b5,b6,ak,n5_4,n5_4.symm,n6_4,n6_4.symm,n6_5,n6_5.symm];refine .mk _ (.refl _) (.refl _) ⟨((sg'.put q4 _).put q5 _).put q6 _,_,?_,rfl⟩;rw[hgd];exact Bh (S:=s) ⟨e,naM,false,aq,false,a⟩ yb e (by rw[←hst];exact SX s) .full
 intro _;refine .one hU hm ?_;simp only[go_sem];intro i8 h8;simp only[go_sem];obtain⟨H8,e8⟩:∃H8,upd H6 i8 (some (.obj [.v (.complex .f64 0 0),.sl [] .full] 96))=H8:=⟨_,rfl⟩;have s8:Ab.Sub H6 H8:=by rw[←e8];exact .aj h8
 have n8_2:i8≠i2:=fun e=>by rw[e,b2]at h8;cases h8
 have n8_3:i8≠i3:=fun e=>by rw[e,b3]at h8;cases h8
 have n8_4:i8≠i4:=fun e=>by rw[e,b4]at h8;cases h8
 have n8_5:i8≠i5:=fun e=>by rw[e,b5]at h8;cases h8
 have n8_6:i8≠i6:=fun e=>by rw[e,b6]at h8;cases h8
 replace b2:=s8 _ _ b2;replace b3:=s8 _ _ b3;replace b4:=s8 _ _ b4;replace b5:=s8 _ _ b5;replace b6:=s8 _ _ b6;have b8:H8 i8=some (.obj [.v (.complex .f64 0 0),.sl [] .full] 96):=by rw[←e8,ah]
 have q8:g i8=none:=sg.none h8;have sg:Ab.Sub g H8:=sg.trans s8;rw[e8];clear e8;refine .one hU hm ?_;simp only[go_sem];intro i9 h9;simp only[go_sem];obtain⟨H9,e9⟩:∃H9,upd H8 i9 (some (.obj [.i 0,.v (.complex .f64 0 0),.b false,.i 0,.i 0,.s [],.b false,.i 0] 53))=H9:=⟨_,rfl⟩;have s9:Ab.Sub H8 H9:=by rw[←e9];exact .aj h9
 have n9_2:i9≠i2:=fun e=>by rw[e,b2]at h9;cases h9
 have n9_3:i9≠i3:=fun e=>by rw[e,b3]at h9;cases h9
 have n9_4:i9≠i4:=fun e=>by rw[e,b4]at h9;cases h9
 have n9_5:i9≠i5:=fun e=>by rw[e,b5]at h9;cases h9
 have n9_6:i9≠i6:=fun e=>by rw[e,b6]at h9;cases h9
 have n9_8:i9≠i8:=fun e=>by rw[e,b8]at h9;cases h9
 replace b2:=s9 _ _ b2;replace b3:=s9 _ _ b3;replace b4:=s9 _ _ b4;replace b5:=s9 _ _ b5;replace b6:=s9 _ _ b6;replace b8:=s9 _ _ b8;have b9:H9 i9=some (.obj [.i 0,.v (.complex .f64 0 0),.b false,.i 0,.i 0,.s [],.b false,.i 0] 53):=by rw[←e9,ah]
 have q9:g i9=none:=sg.none h9;have sg:Ab.Sub g H9:=sg.trans s9;rw[e9];clear e9;refine .one hU hm ?_;simp only[go_sem];intro i10 h10;simp only[go_sem];obtain⟨H10,e10⟩:∃H10,upd H9 i10 (some (.obj [.i 0,.sl [] .full,.sl [] .full,.sl [] .full,.sl [] .full,.s [],.b false,.i 0,.sl [] .full,.sl [] .full,.sl [] .full,.sl [] .full,.i 0] 40))=H10:=⟨_,rfl⟩;have s10:Ab.Sub H9 H10:=by rw[←e10];exact .aj h10
 have n10_2:i10≠i2:=fun e=>by rw[e,b2]at h10;cases h10
 have n10_3:i10≠i3:=fun e=>by rw[e,b3]at h10;cases h10
 have n10_4:i10≠i4:=fun e=>by rw[e,b4]at h10;cases h10
 have n10_5:i10≠i5:=fun e=>by rw[e,b5]at h10;cases h10
 have n10_6:i10≠i6:=fun e=>by rw[e,b6]at h10;cases h10
 have n10_8:i10≠i8:=fun e=>by rw[e,b8]at h10;cases h10
 have n10_9:i10≠i9:=fun e=>by rw[e,b9]at h10;cases h10
 replace b2:=s10 _ _ b2;replace b3:=s10 _ _ b3;replace b4:=s10 _ _ b4;replace b5:=s10 _ _ b5;replace b6:=s10 _ _ b6;replace b8:=s10 _ _ b8;replace b9:=s10 _ _ b9;have b10:H10 i10=some (.obj [.i 0,.sl [] .full,.sl [] .full,.sl [] .full,.sl [] .full,.s [],.b false,.i 0,.sl [] .full,.sl [] .full,.sl [] .full,.sl [] .full,.i 0] 40):=by rw[←e10,ah]
 have q10:g i10=none:=sg.none h10;have sg:Ab.Sub g H10:=sg.trans s10;rw[e10];clear e10;refine .one hU hm ?_;simp only[go_sem];have hrd:=fun G=>E9 (rdS G s) o hG.few ho.2.2.2 hG.HG
 have hpa:=fun(G:Heap) (hs:Ab.Sub g G)=>zx o.text G (he.sub hs)
 rw[hst]at hrd;simp only[opA,opC]at hrd;refine .one hU hm ?_;simp only[go_sem,b2,b3];refine(hrd _).pthen ?_;simp only[go_sem];refine .cut (fun ρ H' =>H' =H10∧lk ρ 2=some (.ptr i2 0)∧lk ρ 3=some (.ptr i3 0)∧lk ρ 4=some (.ptr i4 0)∧lk ρ 5=some (.ptr i5 0)∧lk ρ 6=some (.ptr i6 0)∧lk ρ 8=some (.ptr i8 0)∧lk ρ 9=some (.ptr i9 0)∧lk ρ 10=some (.ptr i10 0)∧lk ρ 11=some (.b false)∧lk ρ 12=some (.v (.int .i64 (jZ s o).1))∧lk ρ 13=some (.v (.int .i64 (jZ s o).2))) ?_ ?_
 ·refine .vc hU hm ?_
  cases dr:(bL s o==0)
  ·have er:bL s o≠0:=by simpa using dr
   have ep:jZ s o=(bL s o,0):=by unfold jZ;rw[if_neg fun hh=>er hh.1]
   simp only[go_sem,dr];refine⟨rfl,?_,?_,?_,?_,?_,?_,?_,?_,?_,?_,?_⟩<;>simp only[go_sem,ep]
  have er:bL s o=0:=by simpa using dr
  cases d7:(o.kind==7)
  ·have e7:o.kind≠7:=by simpa using d7
   have ep:jZ s o=(bL s o,0):=by unfold jZ;rw[if_neg fun hh=>e7 hh.2]
   simp only[go_sem,b3,dr,d7];refine⟨rfl,?_,?_,?_,?_,?_,?_,?_,?_,?_,?_,?_⟩<;>simp only[go_sem,ep]
  ·have e7:o.kind=7:=by simpa using d7
   have ep:jZ s o=((aR o.text).2.1,(aR o.text).2.2):=by unfold jZ;rw[if_pos ⟨er,e7⟩]
   simp only[go_sem,b3,dr,d7];refine(hpa _ sg).pthen ?_;obtain⟨⟨pp,e,a⟩,epp⟩:∃x,aR o.text=x:=⟨_,rfl⟩;rw[epp]at ep;simp only[go_sem,kH,epp];refine⟨rfl,?_,?_,?_,?_,?_,?_,?_,?_,?_,?_,?_⟩<;>simp only[go_sem,ep]
 rintro ρ H' ⟨rfl,r2,r3,r4,r5,r6,r8,r9,r10,r11,r12,r13⟩
 refine .one hU hm ?_;cases de:((jZ s o).1 !=0)
 case true=>
  have ee:(jZ s o).1≠0:=by simpa using de
  simp only[go_sem,r2,r4,r5,r6,r12,r13,de];exact⟨0,(jZ s o).1,(jZ s o).2,sg,b2,b4,b5,b6,rfl,rfl,by unfold aI;rw[if_pos ee]⟩
 have ee:(jZ s o).1=0:=by simpa using de
 simp only[go_sem,r12,de];obtain⟨hr0,hform,hpar⟩:=uE ee;have hfg:=LW (Jr hG.todL hform);have hask:=fun G=>Sp (rdS G s) o hG.few ho.1
 have hdec:=fun G=>Ej s.policy hG.pol (fL s o) hfg G
 have hm6:=xM (fL s o) s.policy;have hol:=DS (fL s o) hG.mK;have hmk:gJ s o=fK (fL s o) s.policy:=rfl;obtain⟨⟨m,ob⟩,em⟩:∃x,fK (fL s o) s.policy=x:=⟨_,rfl⟩;rw[em]at hdec hm6 hol hmk;simp only at hm6 hol;rw[hpp]at hdec;simp only[aL,aW,ay,aX,bM,rsA,aO]at hdec;rw[hst]at hask;simp only[opA,opC,bM]at hask;have p2:=(bF (H:=H') (l:=[i2,i3]) (show i2∈ [i2,i3] by simp)).trans b2
 have p3:=(bF (H:=H') (l:=[i2,i3]) (show i3∈ [i2,i3] by simp)).trans b3
 refine .one hU hm ?_;simp only[go_sem];refine .calls (pick H' [i2,i3]) [0,1,2,3,4,5,6,7,8,9,10] bS aeN rfl ?_;simp only[go_sem,r2,r3,p2,p3];refine(hask _).pthen ?_;refine⟨bS,?_⟩;simp only[go_sem];refine(hdec _).pthen ?_;refine⟨bS,?_⟩;simp only[go_sem,r8,b8];refine⟨bS.put (by simp[pick,n8_2,n8_3]) _,?_⟩
 obtain⟨H11,eH11⟩:∃H11,upd H' i8 (some (.obj [.v (.complex .f64 (hbit m.1) (hbit m.2)),.sl (ob.map aY) .no] 96))=H11:=⟨_,rfl⟩;replace b2:H11 i2=some (.obj [.i s.tick,.sl (s.cases.map bV) .no,.sl (s.reviews.map gz) .no,.sl (s.notices.map kD) .no,.sl (s.roles.map dj) .no,.s pid,.b pset,.i palg,.sl (ptgt.map cE) .no,.sl (prules.map aC) .no,.sl (pkids.map aL) .no,.sl (pobls.map aY) .no,.i s.version] 40):=by rw[←eH11,ag _ _ n8_2.symm];exact b2
 replace b3:H11 i3=some (.obj [.i o.kind,.s o.subj,.s o.case,.s o.field,.s o.to,.i o.val.kind,.i o.val.n,.s o.val.s,.i o.review,.s o.text,.s o.reason,.b o.glass] 46):=by rw[←eH11,ag _ _ n8_3.symm];exact b3
 replace b4:H11 i4=some (.obj [.i 0,.sl [] .full,.sl [] .full,.sl [] .full,.sl [] .full,.s [],.b false,.i 0,.sl [] .full,.sl [] .full,.sl [] .full,.sl [] .full,.i 0] 40):=by rw[←eH11,ag _ _ n8_4.symm];exact b4
 replace b5:H11 i5=some (.obj [.i 0,.v (.complex .f64 0 0),.b false,.i 0,.i 0,.s [],.b false,.i 0] 53):=by rw[←eH11,ag _ _ n8_5.symm];exact b5
 replace b6:H11 i6=some (.obj [.i 0,.s [],.s [],.s [],.s [],.i 0,.i 0,.s [],.i 0,.s [],.s [],.b false,.i 0,.v (.complex .f64 0 0),.b false,.sl [] .full] 55):=by rw[←eH11,ag _ _ n8_6.symm];exact b6
 replace b9:H11 i9=some (.obj [.i 0,.v (.complex .f64 0 0),.b false,.i 0,.i 0,.s [],.b false,.i 0] 53):=by rw[←eH11,ag _ _ n9_8];exact b9
 replace b10:H11 i10=some (.obj [.i 0,.sl [] .full,.sl [] .full,.sl [] .full,.sl [] .full,.s [],.b false,.i 0,.sl [] .full,.sl [] .full,.sl [] .full,.sl [] .full,.i 0] 40):=by rw[←eH11,ag _ _ n10_8];exact b10
 replace b8:H11 i8=some (.obj [.v (.complex .f64 (hbit m.1) (hbit m.2)),.sl (ob.map aY) .no] 96):=by rw[←eH11,ah]
 replace sg:Ab.Sub g H11:=by rw[←eH11];exact sg.put q8 _
 rw[eH11];clear eH11;have hbr:=fun G=>Ju s o m hm6.m9 (by have:=hG.nr;omega) (by have:=hG.roles;omega) hG.tick hG.ticks G
 rw[hst]at hbr;simp only[opA,opC,aO]at hbr;obtain⟨gl,egl⟩:∃gl,tL s o m=gl:=⟨_,rfl⟩;have hgl:fD s o=gl:=by unfold fD;rw[hmk];exact egl
 rw[egl]at hbr;have p2:=(bF (H:=H11) (l:=[i2,i3,i8]) (show i2∈ [i2,i3,i8] by simp)).trans b2
 have p3:=(bF (H:=H11) (l:=[i2,i3,i8]) (show i3∈ [i2,i3,i8] by simp)).trans b3
 have p8:=(bF (H:=H11) (l:=[i2,i3,i8]) (show i8∈ [i2,i3,i8] by simp)).trans b8
 refine .one hU hm ?_;simp only[go_sem];refine .stage (pick H11 [i2,i3,i8]) [0,1,2,3,4,5,7,6] [8,9,10] bS aeN ?_;simp only[go_sem,r2,r3,r8,r9,p2,p3,p8];refine(hbr _).pthen ?_;refine⟨bS,cW,fun _ _ e=>afb,?_⟩
 simp only[go_sem,r9,b9];refine⟨fun _ _ e=>afb,fun _ _ e=>afb,?_⟩
 obtain⟨H12,eH12⟩:∃H12,upd H11 i9 (some (.obj [.i 0,.v (.complex .f64 (hbit m.1) (hbit m.2)),.b gl,.i 0,.i 0,.s [],.b false,.i 0] 53))=H12:=⟨_,rfl⟩;replace b2:H12 i2=some (.obj [.i s.tick,.sl (s.cases.map bV) .no,.sl (s.reviews.map gz) .no,.sl (s.notices.map kD) .no,.sl (s.roles.map dj) .no,.s pid,.b pset,.i palg,.sl (ptgt.map cE) .no,.sl (prules.map aC) .no,.sl (pkids.map aL) .no,.sl (pobls.map aY) .no,.i s.version] 40):=by rw[←eH12,ag _ _ n9_2.symm];exact b2
 replace b3:H12 i3=some (.obj [.i o.kind,.s o.subj,.s o.case,.s o.field,.s o.to,.i o.val.kind,.i o.val.n,.s o.val.s,.i o.review,.s o.text,.s o.reason,.b o.glass] 46):=by rw[←eH12,ag _ _ n9_3.symm];exact b3
 replace b4:H12 i4=some (.obj [.i 0,.sl [] .full,.sl [] .full,.sl [] .full,.sl [] .full,.s [],.b false,.i 0,.sl [] .full,.sl [] .full,.sl [] .full,.sl [] .full,.i 0] 40):=by rw[←eH12,ag _ _ n9_4.symm];exact b4
 replace b5:H12 i5=some (.obj [.i 0,.v (.complex .f64 0 0),.b false,.i 0,.i 0,.s [],.b false,.i 0] 53):=by rw[←eH12,ag _ _ n9_5.symm];exact b5
 replace b6:H12 i6=some (.obj [.i 0,.s [],.s [],.s [],.s [],.i 0,.i 0,.s [],.i 0,.s [],.s [],.b false,.i 0,.v (.complex .f64 0 0),.b false,.sl [] .full] 55):=by rw[←eH12,ag _ _ n9_6.symm];exact b6
 replace b8:H12 i8=some (.obj [.v (.complex .f64 (hbit m.1) (hbit m.2)),.sl (ob.map aY) .no] 96):=by rw[←eH12,ag _ _ n9_8.symm];exact b8
 replace b10:H12 i10=some (.obj [.i 0,.sl [] .full,.sl [] .full,.sl [] .full,.sl [] .full,.s [],.b false,.i 0,.sl [] .full,.sl [] .full,.sl [] .full,.sl [] .full,.i 0] 40):=by rw[←eH12,ag _ _ n10_9];exact b10
 replace b9:H12 i9=some (.obj [.i 0,.v (.complex .f64 (hbit m.1) (hbit m.2)),.b gl,.i 0,.i 0,.s [],.b false,.i 0] 53):=by rw[←eH12,ah]
 replace sg:Ab.Sub g H12:=by rw[←eH12];exact sg.put q9 _
 rw[eH12];clear eH12;obtain⟨dn,edn⟩:∃dn,(decide (m=bg)||gl)=dn:=⟨_,rfl⟩
 have hdn:tP s o=dn:=by unfold tP;rw[hmk,hgl];exact edn
 have pe:=(nb hm6.m9).pe;refine .cut (fun ρ H' =>H' =H12∧lk ρ 2=some (.ptr i2 0)∧lk ρ 3=some (.ptr i3 0)∧lk ρ 4=some (.ptr i4 0)∧lk ρ 5=some (.ptr i5 0)∧lk ρ 6=some (.ptr i6 0)∧lk ρ 8=some (.ptr i8 0)∧lk ρ 9=some (.ptr i9 0)∧lk ρ 10=some (.ptr i10 0)∧lk ρ 11=some (.b dn)∧lk ρ 13=some (.v (.int .i64 (jZ s o).2))) ?_ ?_
 ·refine .vc hU hm ?_
  cases dp:(m==bg)
  ·have e1:decide (m=bg)=false:=decide_eq_false (by simpa using dp)
   rw[e1,Bool.false_or]at edn;simp only[go_sem,r8,r9,b8,b9,pe,dp];refine⟨rfl,?_,?_,?_,?_,?_,?_,?_,?_,?_,?_⟩<;>simp only[go_sem,r2,r3,r4,r5,r6,r8,r9,r10,r13,edn]
  ·have e1:decide (m=bg)=true:=decide_eq_true (by simpa using dp)
   rw[e1,Bool.true_or]at edn;simp only[go_sem,r8,b8,pe,dp];refine⟨rfl,?_,?_,?_,?_,?_,?_,?_,?_,?_,?_⟩<;>simp only[go_sem,r2,r3,r4,r5,r6,r8,r9,r10,r13,edn]
 clear r2 r3 r4 r5 r6 r8 r9 r10 r11 r12 r13
 rintro ρ H' ⟨rfl,r2,r3,r4,r5,r6,r8,r9,r10,r11,r13⟩
 have how:=fun G=>Pz s hG.few G
 rw[hst]at how;refine .one hU hm ?_;simp only[go_sem,r2,b2];refine(how _).mono fun r H13 ⟨y1,y2,y3,er,hown,hs13⟩=>?_
 subst er;rw[rM hpp];simp only[dW];simp only[go_sem,r10,hs13 _ _ b10];obtain⟨H14,e14⟩:∃H14,upd H13 i10 (some (.obj [.i s.tick,y1,y2,y3,.sl (s.roles.map dj) .no,.s pid,.b pset,.i palg,.sl (ptgt.map cE) .no,.sl (prules.map aC) .no,.sl (pkids.map aL) .no,.sl (pobls.map aY) .no,.i s.version] 40))=H14:=⟨_,rfl⟩;have hS:GSt H' H14 i10 s s.cases.length:=⟨y1,y2,y3,dW s.roles,by rw[←e14,ah,rM hpp];rfl,hown.keep (fun q hq _=>by rw[←e14];exact ag _ _ fun e=>by rw[e,b10]at hq;cases hq),by rw[b10];simp,fun i b hi hb=>by rw[←e14,ag _ _ hi];exact hs13 _ _ hb⟩
 rw[e14];clear e14;have sGB:=sg;have hroom:s.reviews.length≤1000:=hG.nrev;refine .cut (fun ρ H2=>GSt H' H2 i10 (if gl=true then bW s o o.reason else s) s.cases.length∧lk ρ 2=some (.ptr i2 0)∧lk ρ 3=some (.ptr i3 0)∧lk ρ 4=some (.ptr i4 0)∧lk ρ 5=some (.ptr i5 0)∧lk ρ 6=some (.ptr i6 0)∧lk ρ 8=some (.ptr i8 0)∧lk ρ 9=some (.ptr i9 0)∧lk ρ 10=some (.ptr i10 0)∧lk ρ 11=some (.b dn)∧lk ρ 13=some (.v (.int .i64 (jZ s o).2))) ?_ ?_
 ·refine .vc hU hm ?_
  have c9:=hS.at n10_9.symm b9;have c3:=hS.at n10_3.symm b3;have hop:=EL hS o o.reason ho.1 aeK;simp only[opA,opC]at hop;cases gl
  ·simp only[go_sem,r9,c9]
   refine⟨hS,?_,?_,?_,?_,?_,?_,?_,?_,?_,?_⟩<;>simp only[go_sem,r2,r3,r4,r5,r6,r8,r9,r10,r11,r13]
  ·simp only[go_sem,r3,r9,r10,c9,c3]
   refine hop.mono fun r H3 h3=>?_
   simp only[go_sem];refine⟨h3,?_,?_,?_,?_,?_,?_,?_,?_,?_,?_⟩<;>simp only[go_sem,r2,r3,r4,r5,r6,r8,r9,r10,r11,r13]
 clear hS r2 r3 r4 r5 r6 r8 r9 r10 r11 r13
 rintro ρ H2 ⟨hS,r2,r3,r4,r5,r6,r8,r9,r10,r11,r13⟩
 have hbd:cU s o=dF (if dn=true then dR aR (if gl=true then bW s o o.reason else s) o else(if gl=true then bW s o o.reason else s)) o ob dn:=by unfold cU;rw[hgl,hdn,hmk]
 have hO1:dL k (if gl=true then bW s o o.reason else s):=by
  split
  ·exact CP o _ hG.todL (by have:=hG.nr;omega)
  ·exact hG.todL
 have hc1:(if gl=true then bW s o o.reason else s).cases=s.cases:=by split<;>rfl
 have hp1:(if gl=true then bW s o o.reason else s).policy= .mk pid pset palg ptgt prules pkids pobls:=by split<;>exact hpp
 have hg1:sB 999 (if gl=true then bW s o o.reason else s):=by
  have h1:=hG.nr;have h2:=hG.nn;have h3:=fun c hc=>(hG.case c hc).log2
  split
  ·exact⟨fun c hc=>by have:=h3 c hc;omega,by simp only[bW,aeE,List.length_singleton];omega,by simp only[bW];omega⟩
  ·exact⟨fun c hc=>by have:=h3 c hc;omega,aeK,aeK⟩
 have hr1:bL (if gl=true then bW s o o.reason else s) o=0:=by
  split
  ·rename_i hgt
   have hgo:=yM hform (D8 (hgl.trans hgt));rw[←hr0];unfold bL;have k5:o.kind≠5:=aeK;have k6:o.kind≠6:=aeK;have k8:o.kind≠8:=aeK;simp only[k5,k6,k8,if_false];rfl
  ·exact hr0
 obtain⟨s1,es1⟩:∃s1,(if gl=true then bW s o o.reason else s)=s1:=⟨_,rfl⟩
 rw[es1]at hS hbd hO1 hc1 hp1 hg1 hr1;have hre:nD s o=⟨if dn=true then 0 else 12,m,gl,if(dn && o.kind==2 && !ko ob o.field)=true then dV (bw s.cases o.case).fields o.field else aq,dn && o.kind==2 && ko ob o.field,0⟩:=by unfold nD;rw[hgl,hdn,hmk]
 have hve:=hO1.ver;have b9n:H' i9≠none:=by rw[b9];simp
 refine .cut (fun ρ H3=>lk ρ 2=some (.ptr i2 0)∧lk ρ 3=some (.ptr i3 0)∧lk ρ 4=some (.ptr i4 0)∧lk ρ 5=some (.ptr i5 0)∧lk ρ 6=some (.ptr i6 0)∧lk ρ 8=some (.ptr i8 0)∧lk ρ 9=some (.ptr i9 0)∧lk ρ 10=some (.ptr i10 0)∧lk ρ 11=some (.b dn)∧lk ρ 13=some (.v (.int .i64 (jZ s o).2))∧∃(GB:Heap) (j:Nat),GSt GB H3 i10 (if dn=true then dR aR s1 o else s1) j∧Ab.Sub g GB∧(dn=true→iY (if dn=true then dR aR s1 o else s1).cases o.case<(if dn=true then dR aR s1 o else s1).cases.length→o.kind≠6→j=iY (if dn=true then dR aR s1 o else s1).cases o.case)∧GB i2=some (.obj [.i s.tick,.sl (s.cases.map bV) .no,.sl (s.reviews.map gz) .no,.sl (s.notices.map kD) .no,.sl (s.roles.map dj) .no,.s pid,.b pset,.i palg,.sl (ptgt.map cE) .no,.sl (prules.map aC) .no,.sl (pkids.map aL) .no,.sl (pobls.map aY) .no,.i s.version] 40)∧GB i3=some (.obj [.i o.kind,.s o.subj,.s o.case,.s o.field,.s o.to,.i o.val.kind,.i o.val.n,.s o.val.s,.i o.review,.s o.text,.s o.reason,.b o.glass] 46)∧GB i4=some (.obj [.i 0,.sl [] .full,.sl [] .full,.sl [] .full,.sl [] .full,.s [],.b false,.i 0,.sl [] .full,.sl [] .full,.sl [] .full,.sl [] .full,.i 0] 40)∧GB i5=some (.obj [.i 0,.v (.complex .f64 0 0),.b false,.i 0,.i 0,.s [],.b false,.i 0] 53)∧GB i6=some (.obj [.i 0,.s [],.s [],.s [],.s [],.i 0,.i 0,.s [],.i 0,.s [],.s [],.b false,.i 0,.v (.complex .f64 0 0),.b false,.sl [] .full] 55)∧GB i8=some (.obj [.v (.complex .f64 (hbit m.1) (hbit m.2)),.sl (ob.map aY) .no] 96)∧GB i9=some (.obj [.i (if dn=true then 0 else 12),.v (.complex .f64 (hbit m.1) (hbit m.2)),.b gl,.v (.int .i64 (if(dn && o.kind==2 && !ko ob o.field)=true then dV (bw s.cases o.case).fields o.field else aq).kind),.v (.int .i64 (if(dn && o.kind==2 && !ko ob o.field)=true then dV (bw s.cases o.case).fields o.field else aq).n),.s (if(dn && o.kind==2 && !ko ob o.field)=true then dV (bw s.cases o.case).fields o.field else aq).s,.b (dn && o.kind==2 && ko ob o.field),.i 0] 53)) ?_ ?_
 ·refine .vc hU hm ?_
  have c9:=hS.at n10_9.symm b9;have c3:=hS.at n10_3.symm b3;have c8:=hS.at n10_8.symm b8;have c2:=hS.at n10_2.symm b2;cases dn
  ·simp only[go_sem,r9,r11,c9]
   refine⟨?_,?_,?_,?_,?_,?_,?_,?_,?_,?_,upd H' i9 _,s.cases.length,hS.put n10_9.symm b9n _,sGB.put q9 _,fun e=>afb,ahZ,ah0,ah1,ah2,ah3,ah4,ah ..⟩<;>simp only[go_sem,r2,r3,r4,r5,r6,r8,r9,r10,r11,r13]
  ·obtain⟨z1,z2,z3,z4,hk10,hrd⟩:=hS.rd
   have sH2:Ab.Sub g H2:=hS.sub sGB q10;have hdo:=Ms hrd o hO1.few hO1.mK ho.2.2.2 hO1.HG ⟨hve.1,aeK⟩ (he.sub sH2);have hjj:=fun hx (_:o.kind≠6)=>Pp (o:=o) hO1 hr1 hx
   rw[rM hp1]at hk10 hdo;simp only[opA,opC]at hdo;simp only[go_sem,r3,r10,r11,hk10,c3];refine hdo.mono fun r H3 ⟨hs3,j,hOS,hj⟩=>?_
   have hj:=hj hr1;obtain⟨x1,x2,x3,x4,er,hOP⟩:=hOS.parts;subst er;obtain⟨did,dset,dalg,dtgt,drules,dkids,dobls,hpd⟩:=NP (dR aR s1 o).policy;rw[rM hpd];have k10:=hs3 _ _ hk10;obtain⟨H4,e4⟩:∃H4,upd H3 i10 (some (.obj [.v (.int .i64 (dR aR s1 o).tick),x1,x2,x3,x4,.s did,.b dset,.i dalg,.sl (dtgt.map cE) .no,.sl (drules.map aC) .no,.sl (dkids.map aL) .no,.sl (dobls.map aY) .no,.v (.int .i64 (dR aR s1 o).version)] 40))=H4:=⟨_,rfl⟩;have hS4:GSt H' H4 i10 (dR aR s1 o) j:=by
    obtain⟨_,_,_,_,_,_,hgk,hfr⟩:=hS;refine⟨x1,x2,x3,x4,by rw[←e4,ah,rM hpd],(hOP.keep fun q hq _=>by rw[←e4];exact ag _ _ fun e=>by rw[e,hk10]at hq;cases hq).bN fun q hq=>?_,hgk,fun i b hi hb=>by rw[←e4,ag _ _ hi];exact hs3 _ _ (hfr i b hi hb)⟩
    cases hh:H' q with
    |none=>rfl
    |some b=>
     by_cases e:q=i10
     ·rw[e,hk10]at hq;cases hq
     ·rw[hfr q b e hh]at hq;cases hq
   have d9:=hS4.at n10_9.symm b9;have d3:=hS4.at n10_3.symm b3;have d8:=hS4.at n10_8.symm b8;have d2:=hS4.at n10_2.symm b2;have hjx:true=true→iY (dR aR s1 o).cases o.case<(dR aR s1 o).cases.length→o.kind≠6→j=iY (dR aR s1 o).cases o.case:=fun _ hx h6=>hj.trans (hjj hx h6)
   have hhi:=fun G=>MK ob aeK o.field G
   simp only[ay]at hhi;have hca:=fun G=>Co (rdS G s) o.case hG.few
   rw[hst]at hca;have hcf:(bw s.cases o.case).fields.length≤1000000000:=by
    unfold bw;split
    ·by_cases hlt:findD s.cases o.case<s.cases.length
     ·rw[show s.cases.getD (findD s.cases o.case) o9=s.cases[findD s.cases o.case] by simp[List.getD,List.getElem?_eq_getElem hlt]]
      have:=(hG.case _ (aeF hlt)).nfields;omega
     ·rw[show s.cases.getD (findD s.cases o.case) o9=o9 by simp[List.getD,List.getElem?_eq_none (Nat.le_of_not_lt hlt)]]
      exact agS
    ·exact agS
   have hfd:=fun G=>DT (rdC G (bw s.cases o.case)) o.field hcf
   simp only[bV,mY,gI,sW]at hca hfd;simp only[go_sem,r3,r10,k10];rw[e4];clear e4;cases d7:(o.kind==2)
   ·simp only[go_sem,r3,r9,d9,d3,d7,n9_3.symm]
    refine⟨?_,?_,?_,?_,?_,?_,?_,?_,?_,?_,upd H' i9 _,j,hS4.put n10_9.symm b9n _,sGB.put q9 _,(fun _=>hjx rfl),ahZ,ah0,ah1,ah2,ah3,ah4,ah ..⟩<;>simp only[go_sem,r2,r3,r4,r5,r6,r8,r9,r10,r11,r13]
   ·simp only[go_sem,r3,r8,d3,d8,d7]
    refine(hhi _).pthen ?_;cases hh:ko ob o.field
    ·simp only[go_sem,r2,r3,r9,d9,d3,d2,d7,n9_2.symm,n9_3.symm]
     refine(hca _).pthen ?_;simp only[go_sem];intro i14 h14;have t9:i14≠i9:=fun e=>by rw[e,ah]at h14;cases h14
     have t3:i14≠i3:=fun e=>by rw[e,ag _ _ n9_3.symm,d3]at h14;cases h14
     simp only[go_sem,r3,d3,n9_3.symm,t3.symm];refine(hfd _).pthen ?_;simp only[go_sem,r9,t9.symm,aS];refine⟨?_,?_,?_,?_,?_,?_,?_,?_,?_,?_,upd (upd H' i9 _) i9 _,j,((hS4.put n10_9.symm b9n _).same (.aj h14)).put n10_9.symm (by rw[ah];simp) _,(sGB.put q9 _).put q9 _,(fun _=>hjx rfl),by rw[ag _ _ n9_2.symm,ag _ _ n9_2.symm];exact b2,by rw[ag _ _ n9_3.symm,ag _ _ n9_3.symm];exact b3,by rw[ag _ _ n9_4.symm,ag _ _ n9_4.symm];exact b4,by rw[ag _ _ n9_5.symm,ag _ _ n9_5.symm];exact b5,by rw[ag _ _ n9_6.symm,ag _ _ n9_6.symm];exact b6,by rw[ag _ _ n9_8.symm,ag _ _ n9_8.symm];exact b8,ah ..⟩<;>simp only[go_sem,r2,r3,r4,r5,r6,r8,r9,r10,r11,r13]
    ·simp only[go_sem,r3,r9,d9,d3,d7,n9_3.symm]
     refine⟨?_,?_,?_,?_,?_,?_,?_,?_,?_,?_,upd H' i9 _,j,hS4.put n10_9.symm b9n _,sGB.put q9 _,(fun _=>hjx rfl),ahZ,ah0,ah1,ah2,ah3,ah4,ah ..⟩<;>simp only[go_sem,r2,r3,r4,r5,r6,r8,r9,r10,r11,r13]
 clear hS b2 b3 b4 b5 b6 b8 b9 b10 r2 r3 r4 r5 r6 r8 r9 r10 r11 r13
 rintro ρ H3 ⟨r2,r3,r4,r5,r6,r8,r9,r10,r11,r13,GB,j,hS,sG2,hjx,b2,b3,b4,b5,b6,b8,b9⟩
 have hO2:dL (k+1) (if dn=true then dR aR s1 o else s1):=by
  split
  ·exact qd o hO1
  ·exact {hO1 with ver:=⟨hO1.ver.1,by have:=hO1.ver.2;omega⟩}
 obtain⟨s2,es2⟩:∃s2,(if dn=true then dR aR s1 o else s1)=s2:=⟨_,rfl⟩
 rw[es2]at hS hjx hbd hO2;have hdu:=F8 hS o ho.1 ob aeK dn (by have:=hO2.ncases;omega) ⟨fun c hc=>by have:=(hO2.case c hc).log2;omega,hO2.nrev,hO2.nnot⟩ hjx
 rw[←hbd]at hdu;simp only[opA,opC,ay]at hdu;have c3:=hS.at n10_3.symm b3;have c8:=hS.at n10_8.symm b8;refine .one hU hm ?_;simp only[go_sem,r3,r8,r10,r11,c3,c8];refine hdu.mono fun r H4 h4=>?_
 simp only[go_sem];clear c3 c8 hdu hS;have hat:(jZ s o).2=0:=by
  unfold jZ at ee⊢;split
  ·rename_i hc;rw[if_pos hc]at ee;exact KK ee
  ·rfl
 have hbl:(cU s o).cases.length≤1000000:=by rw[hbd,yA];have:=hO2.ncases;omega
 obtain⟨x1,x2,x3,x4,k10,hOP,_,_⟩:=id h4;have hov:=NH hOP.rd hbl;obtain⟨did,dset,dalg,dtgt,drules,dkids,dobls,hpd⟩:=NP (cU s o).policy;have hfz:∀H5,(∀q,GB q=none→H5 q=H4 q)→Frz g H5 (.agg (stC (cU s o) x1 x2 x3 x4)) (bY (cU s o)):=fun H5 hq=>((hOP.keep fun q hg _=>hq q hg).bN fun q hg=>by
  cases hh:g q with
  |none=>rfl
  |some b=>rw[sG2 _ _ hh]at hg;cases hg).frz
 rw[rM hpd]at k10 hov hfz;have c2:=h4.at n10_2.symm b2;have c3:=h4.at n10_3.symm b3;have c4:=h4.at n10_4.symm b4;have c5:=h4.at n10_5.symm b5;have c6:=h4.at n10_6.symm b6;have c8:=h4.at n10_8.symm b8;have c9:=h4.at n10_9.symm b9;have sg4:Ab.Sub g H4:=h4.sub sG2 q10;refine .one hU hm ?_;simp only[go_sem,r10,k10];refine hov.pthen ?_;cases dov:sE (cU s o)
 case true=>simp only[go_sem,r2,r4,r5,r6,r13];exact⟨0,6,0,sg4,c2,c4,c5,c6,rfl,by rw[hat],by unfold aI;rw[if_neg (by rw[ee];simp),if_pos dov]⟩
 have hgd:aI s o=(cU s o,⟨if dn=true then 0 else 12,m,gl,if(dn && o.kind==2 && !ko ob o.field)=true then dV (bw s.cases o.case).fields o.field else aq,dn && o.kind==2 && ko ob o.field,0⟩,⟨o,s.version,m,gl,ob⟩,0):=by unfold aI;rw[if_neg (by rw[ee];simp),if_neg (by rw[dov];decide),hre,hmk,hgl]
 simp only[go_sem];have p2:=(bF (H:=H4) (l:=[i2,i3,i8,i9,i10]) (show i2∈ [i2,i3,i8,i9,i10] by simp)).trans c2
 have p3:=(bF (H:=H4) (l:=[i2,i3,i8,i9,i10]) (show i3∈ [i2,i3,i8,i9,i10] by simp)).trans c3
 have p8:=(bF (H:=H4) (l:=[i2,i3,i8,i9,i10]) (show i8∈ [i2,i3,i8,i9,i10] by simp)).trans c8
 have p9:=(bF (H:=H4) (l:=[i2,i3,i8,i9,i10]) (show i9∈ [i2,i3,i8,i9,i10] by simp)).trans c9
 have p10:=(bF (H:=H4) (l:=[i2,i3,i8,i9,i10]) (show i10∈ [i2,i3,i8,i9,i10] by simp)).trans k10
 have t4:pick H4 [i2,i3,i8,i9,i10] i4=none:=by simp[pick,n4_2,n4_3,n8_4.symm,n9_4.symm,n10_4.symm]
 have t5:pick H4 [i2,i3,i8,i9,i10] i5=none:=by simp[pick,n5_2,n5_3,n8_5.symm,n9_5.symm,n10_5.symm]
 have t6:pick H4 [i2,i3,i8,i9,i10] i6=none:=by simp[pick,n6_2,n6_3,n8_6.symm,n9_6.symm,n10_6.symm]
 refine .one hU hm ?_;simp only[go_sem];refine .calls (pick H4 [i2,i3,i8,i9,i10]) [0,1,2,3,4,5,6,7,8,9,10,11,12,13,14,15] bS aeN rfl ?_;simp only[go_sem,r2,r3,r4,r5,r6,r8,r9,r10,p2,p3,p8,p9,p10,c4,c5,c6,n5_4,n5_4.symm,n6_4,n6_4.symm,n6_5,n6_5.symm];refine⟨bS.put t4 _,(bS.put t4 _).put t5 _,((bS.put t4 _).put t5 _).put t6 _,?_⟩;refine .mk _ (.refl _) (.refl _) ⟨((sg4.put q4 _).put q5 _).put q6 _,_,?_,rfl⟩;rw[hgd,←rM hpd];exact Bh (S:=cU s o) ⟨if dn=true then 0 else 12,m,gl,if(dn && o.kind==2 && !ko ob o.field)=true then dV (bw s.cases o.case).fields o.field else aq,dn && o.kind==2 && ko ob o.field,0⟩ ⟨o,s.version,m,gl,ob⟩ 0 (by
  rw[rM hpd];exact hfz _ fun q hq=>by
   have x6:q≠i6:=fun e=>by rw[e,b6]at hq;cases hq
   have x5:q≠i5:=fun e=>by rw[e,b5]at hq;cases hq
   have x4:q≠i4:=fun e=>by rw[e,b4]at hq;cases hq
   rw[ag _ _ x6,ag _ _ x5,ag _ _ x4]) .no
end Go.Proofs.YtokahfmoollblaaGreatDoor
namespace Go.Ab
open Go
theorem QX(n:Nat)(hn:n<18446744073709551616):IntKind.u64.wrap (n:Int)=n:=RY .u64 n rfl aiw
theorem Xe(n:Int):IntKind.u64.wrap n=((n % 18446744073709551616).toNat:Int):=by grind [Int.emod_nonneg,Int,IntKind.wrap,IntKind.signed,IntKind.bits]
theorem RZ(n:Nat):IntKind.u64.wrap (n:Int)=((n % 18446744073709551616:Nat):Int):=by rfl
theorem FW(a b:Nat)(f:BitVec 64→BitVec 64→BitVec 64):IntKind.u64.wrap (((f (BitVec.ofInt IntKind.u64.bits (a:Int)) (BitVec.ofInt IntKind.u64.bits (b:Int))).toNat:Nat):Int)=((f (BitVec.ofNat 64 a) (BitVec.ofNat 64 b)).toNat:Int):=by exact QX _ (f _ _).isLt
theorem Qj(a b k:Nat)(ha:a<2 ^ k)(hlt:a+b*2 ^ k<18446744073709551616):(BitVec.ofNat 64 a|||BitVec.ofNat 64 (b*2 ^ k)).toNat=a+b*2 ^ k:=by exact ajJ
theorem Qd(n:Nat)(hn:n<18446744073709551616):(BitVec.ofNat 64 18446744073709551615 ^^^ BitVec.ofNat 64 n).toNat=18446744073709551615 - n:=by
 have e:BitVec.ofNat 64 18446744073709551615 ^^^ BitVec.ofNat 64 n= ~~~ BitVec.ofNat 64 n:=by rfl
 rw[e,BitVec.toNat_not,BitVec.toNat_ofNat,Nat.mod_eq_of_lt aeK]
section
variable {U : TypeId → TI} {ty : TypeId} {K : AV → Prop}
@[go_sem high] theorem Yr(n:Nat)(hn:n<18446744073709551616):unA .xor (.v (.int .u64 (n:Int))) K=K (.v (.int .u64 ((18446744073709551615 - n:Nat):Int))):=by
 have h:=(FW 18446744073709551615 n (· ^^^ ·)).trans (congrArg (fun z:Nat=>(z:Int)) (Qd n hn))
 exact(xY ..).trans (congrArg (fun z=>K (.v (.int .u64 z))) h)
@[go_sem high] theorem X1(n:Int)(h1: -9223372036854775808≤n)(h2:n≤9223372036854775807):unA .xor (.i n) K=K (.i (-n - 1)):=by
 have e:(BitVec.ofInt 64 (-1) ^^^ BitVec.ofInt 64 n)= ~~~ BitVec.ofInt 64 n:=by rfl
 have e2:(((BitVec.ofInt 64 (-1) ^^^ BitVec.ofInt 64 n).toNat:Nat):Int)=(-n - 1) % 18446744073709551616:=by grind [BitVec.toNat_not,BitVec.ofInt,BitVec.toNat_ofInt]
 have h:IntKind.i64.wrap (((BitVec.ofInt 64 (-1) ^^^ BitVec.ofInt 64 n).toNat:Nat):Int)= -n - 1:=by grind [IntKind.wrap,IntKind.signed,IntKind.bits]
 exact(xY ..).trans (congrArg (fun z=>K (.i z)) h)
theorem u64_and(n k:Nat)(hn:n<18446744073709551616)(hk:k≤63):cq U .and ty (.v (.int .u64 (n:Int))) (.v (.int .u64 ((2 ^ k - 1:Nat):Int))) K=K (.v (.int .u64 ((n % 2 ^ k:Nat):Int))):=by
 have h63:2 ^ k≤2 ^ 63:=Nat.pow_le_pow_right aeO hk;have e:(BitVec.ofNat 64 n &&& BitVec.ofNat 64 (2 ^ k - 1)).toNat=n % 2 ^ k:=by grind [BitVec.toNat_and,BitVec.toNat_ofNat,Nat.mod_eq_of_lt,Nat.and_two_pow_sub_one_eq_mod]
 have h:=(FW n (2 ^ k - 1) (· &&& ·)).trans (congrArg (fun z:Nat=>(z:Int)) e)
 exact(L2 ..).trans (congrArg (fun z=>K (.v (.int .u64 z))) h)
@[go_sem high] theorem u64_or(a b k:Nat)(ha:a<2 ^ k)(hlt:a+b*2 ^ k<18446744073709551616):cq U .or ty (.v (.int .u64 (a:Int))) (.v (.int .u64 ((b*2 ^ k:Nat):Int))) K=K (.v (.int .u64 ((a+b*2 ^ k:Nat):Int))):=by
 have h:=(FW a (b*2 ^ k) (· ||| ·)).trans (congrArg (fun z:Nat=>(z:Int)) (Qj a b k ha hlt))
 exact(Vx ..).trans (congrArg (fun z=>K (.v (.int .u64 z))) h)
theorem C3(n k:Nat)(kk:IntKind)(hk:k≤63):cq U .shr ty (.v (.int .u64 (n:Int))) (.v (.int kk (k:Int))) K=K (.v (.int .u64 ((n / 2 ^ k:Nat):Int))):=by grind [L3,min,Int,IntKind.bits,Int.fdiv_eq_ediv_of_nonneg,Int.le_of_lt,Int.pow_pos]
@[go_sem high] theorem QM(n k:Nat)(kk:IntKind)(hk:k≤63):cq U .shl ty (.v (.int .u64 (n:Int))) (.v (.int kk (k:Int))) K=K (.v (.int .u64 ((n*2 ^ k % 18446744073709551616:Nat):Int))):=by
 rw[Re];have:min (k:Int).toNat IntKind.u64.bits=k:=aiw;rw[this,show((n:Int)*2 ^ k)=((n*2 ^ k:Nat):Int) by simp,RZ]
 exact propext ⟨fun h=>h.2,fun h=>⟨Int.natCast_nonneg k,h⟩⟩
@[go_sem high] theorem WU(m:Nat):cq U .shl ty (.v (.int .u64 (m:Int))) (.v (.int .u64 1)) K=K (.v (.int .u64 ((m*2 % 18446744073709551616:Nat):Int))):=QM m 1 .u64 aeO
@[go_sem high] theorem WV(m:Nat):cq U .shr ty (.v (.int .u64 (m:Int))) (.v (.int .u64 1)) K=K (.v (.int .u64 ((m / 2:Nat):Int))):=C3 m 1 .u64 aeO
@[go_sem high] theorem WW(m:Nat):cq U .shr ty (.v (.int .u64 (m:Int))) (.v (.int .u64 7)) K=K (.v (.int .u64 ((m / 128:Nat):Int))):=C3 m 7 .u64 aeO
@[go_sem high] theorem WX(m:Nat):cq U .shr ty (.v (.int .u64 (m:Int))) (.v (.int .u64 8)) K=K (.v (.int .u64 ((m / 256:Nat):Int))):=C3 m 8 .u64 aeO
@[go_sem high] theorem WT(m:Nat)(hm:m<18446744073709551616):cq U .and ty (.v (.int .u64 (m:Int))) (.v (.int .u64 1)) K=K (.v (.int .u64 ((m % 2:Nat):Int))):=u64_and m 1 hm aeO
@[go_sem high] theorem TV(m:Nat)(hm:m<18446744073709551616):cq U .and ty (.v (.int .u64 (m:Int))) (.v (.int .u64 127)) K=K (.v (.int .u64 ((m % 128:Nat):Int))):=u64_and m 7 hm aeO
@[go_sem high] theorem TW(m:Nat)(hm:m<18446744073709551616):cq U .and ty (.v (.int .u64 (m:Int))) (.v (.int .u64 255)) K=K (.v (.int .u64 ((m % 256:Nat):Int))):=u64_and m 8 hm aeO
@[go_sem high] theorem Lo(m:Nat)(hm:m<128):cq U .or ty (.v (.int .u64 (m:Int))) (.v (.int .u64 128)) K=K (.v (.int .u64 ((m+128:Nat):Int))):=u64_or m 1 7 hm aeK
theorem wu8(n:Nat):IntKind.u8.wrap (n:Int)=((UInt8.ofNat n).toNat:Int):=by rfl
@[go_sem high] theorem Vd(c:UInt8):cq U .and ty (.v (.int .u8 (c.toNat:Int))) (.v (.int .u8 127)) K=K (.v (.int .u8 ((c.toNat % 128:Nat):Int))):=by
 have hc:=c.toNat_lt;have e:(BitVec.ofNat 8 c.toNat &&& BitVec.ofNat 8 127).toNat=c.toNat % 128:=by rw[BitVec.toNat_and,BitVec.toNat_ofNat,BitVec.toNat_ofNat,Nat.mod_eq_of_lt aeK,Nat.mod_eq_of_lt aeK];exact Nat.and_two_pow_sub_one_eq_mod c.toNat 7
 have h:IntKind.u8.wrap (((BitVec.ofInt IntKind.u8.bits (c.toNat:Int) &&& BitVec.ofInt IntKind.u8.bits 127).toNat:Nat):Int)=((c.toNat % 128:Nat):Int):=by grind [IntKind.wrap,IntKind.signed,IntKind.bits]
 exact(L2 ..).trans (congrArg (fun z=>K (.v (.int .u8 z))) h)
end
end Go.Ab
namespace Go.Proofs.YtokahfmoollblaaGreatDoor
open Go Go.Ab Go.Bf Tryz
variable {g h h0 H h':Heap}{y R:AV}{l p:Txt}{f:FuncId}{args cs:List AV}{Q:AV→Heap→Prop}{s s':RS}{a k n:Nat}{lo hi most:Int}{o:OpD}{ds:List pn}{sp S spl spj:List Nat}{d:D}{P:Program}{ρ:Env}{e e1:cm}
abbrev lK(h h' :Heap)(y:AV)(l:Txt):Prop:=Acc U 5 h h' y (l.map aK)
theorem u5n:(U 5).sz≠0:=aeO
theorem Zy:(U 5).bytes≠0:=aeO
theorem lK.frz(ha:lK g h y l):Frz g h y (.sl (l.map aK) .no):=by
 obtain⟨q,rfl⟩:=Acc.row ha;refine .sl _ _ _ rfl aeK fun i h1 h2 j h3 h4=> .keep _ ?_
 simp only[aeB,aK,AV.cells,List.getElem_singleton];exact agC
theorem lK.pure(hf:∀g,Ab.Sub h g→ai prog f args g fun r h' =>lK g h' r l):ai prog f args h fun r h' =>r= .sl (l.map aK) .no∧h' =h:=
 ai.freeze fun g hg _=>(hf g hg).mono fun r h' hr=>⟨hr.1,_,lK.frz hr,rfl⟩
theorem lK.app{v:AV}{m:Txt}(ha:lK g h y l)(hsrc:∀k:List AV→Prop,k (m.map aK)→iS U 5 h v k)(hlen:l.length+m.length≤140737488355328)
  (hk:∀y' h',lK g h' y' (l++m)→Q y' h'):apK U h y v Q (.slice 5):=
 Acc.app ha u5n Zy hsrc (by grind [u5,jO]) (by grind [u5,jO]) (by grind [TU]) fun y' h' hy _=>hk y' h' aeL
theorem A4(y:AV)(l:Txt)(h:Heap)(hb:By h y l)(hl:l.length≤140737488355328):
  ai prog 55 [y] h fun r h' =>lK h h' r l:=by
 refine aeJ func55 8 [.tmp 2] fun hwf=>?_
 simp only[go_sem];refine hb.Tk fun b hbn=>?_
 simp only[go_sem];refine jq.intro (fun e=>?_) (fun e=>?_)
 ·have hl0:l= []:=Classical.byContradiction fun hh=>by grind
  subst hl0;simp only[go_sem];exact .same (.refl _) (Acc.full (.refl _))
 ·simp only[go_sem]
  rw[hb.src u5];simp only[go_sem];refine⟨aeK,fun hn=>?_,fun hn=>?_⟩
  ·have hl0:l= []:=by simp_all
   subst hl0;simp only[go_sem];exact .same (.refl _) (Acc.full (.refl _))
  ·refine .own fun id hid=>?_
   simp only[go_sem];exact .same (.refl _) ⟨(Ab.Sub.refl h).new hid _,.inr ⟨id,hid,rfl,by rw[ah,u5,aeA]⟩⟩
theorem T6(n:Int)(hn:i64 n):∃m:Nat,IntKind.u64.wrap n=(m:Int)∧m<18446744073709551616∧(0≤n→m*2 % 18446744073709551616=zig n)∧(n<0→18446744073709551615 - m*2 % 18446744073709551616=zig n):=by
 unfold i64 at hn;refine⟨(n % 18446744073709551616).toNat,Xe n,aeK,fun h=>?_,fun h=>?_⟩<;>unfold zig
 ·grind
 grind
theorem IN(y:AV)(l:Txt)(n:Int)(h:Heap)(hb:By h y l)(hl:l.length≤1000000)(hn:i64 n):
  ai prog 182 [y,.i n] h fun r h' =>lK h h' r (l++iZ n):=by
 obtain⟨m,hm0,hm2,hm3,hm4⟩:=T6 n hn;have hz:=ON hn;have hz64:=FI hn;refine ai.of_wp hU func182 rfl aeZ 32 rfl [.tmp 4] rfl (aez rfl) ?_;refine .cut (fun ρ g=>g=h∧lk ρ 0=some y∧lk ρ 1=some (.i n)) (.vc hU hm ?_) ?_
 ·simp only[go_sem]
  refine⟨rfl,?_,?_⟩<;>simp only[go_sem]
 rintro ρ g ⟨rfl,r0,r1⟩
 refine .cut (fun ρ g' =>g' =g∧lk ρ 0=some y∧lk ρ 1=some (.i n)∧lk ρ 5=some (.v (.int .u64 ((m*2 % 18446744073709551616:Nat):Int)))) (.vc hU hm ?_) ?_
 ·simp only[go_sem,r0,r1,hm0]
  refine⟨rfl,?_,?_,?_⟩<;>simp only[go_sem,r0,r1]
 clear r0 r1
 rintro ρ g' ⟨rfl,r0,r1,r5⟩
 refine .cut (fun ρ g=>g=g'∧lk ρ 0=some y∧lk ρ 5=some (.v (.int .u64 ((zig n:Nat):Int)))) (.vc hU hm ?_) ?_
 ·cases d1:decide (n<0)
  ·have h0:=aeD d1
   simp only[go_sem,r0,r1,r5,d1,hm3 aeK];rw[←hm3 aeK]at*;refine⟨rfl,?_,?_⟩<;>simp only[go_sem,r0,r5]
  ·have h0:=aeC d1
   simp only[go_sem,r0,r1,r5,d1,hm4 h0,show m*2 % 18446744073709551616<18446744073709551616 from aeK]
   refine⟨rfl,?_,?_⟩<;>simp only[go_sem,r0]
 clear r0 r1 r5 hm3 hm4
 rintro ρ g ⟨rfl,r0,r5⟩
 refine .vc hU hm ?_;simp only[go_sem,r0,r5];refine(A4 y l g hb aeK).mono fun r h1 ha=>?_
 simp only[go_sem,r0,r5];refine .intro (fun k ρ h' =>∃(v:Nat) (o:Txt) (z:AV),lK g h' z (l++o)∧o++o8 k v=iZ n∧v<128 ^ k∧v<18446744073709551616∧0<k∧o.length≤10∧lk ρ 5=some (.v (.int .u64 (v:Int)))∧lk ρ 6=some z) 10 ?_ ?_
 ·refine⟨zig n,[],r,aeL,rfl,hz,hz64,aeO,aeR,?_,?_⟩<;>simp only[go_sem,r5]
 clear r0 r5
 rintro k ρ h' ⟨v,o,z,ha,ho,hv,hv64,hk,hol,r5,r6⟩
 obtain⟨k,rfl⟩:∃j,k=j+1:=⟨k - 1,aeK⟩;have hlo:=congrArg List.length ho;rw[aeE]at hlo;have hnl:=ja n;cases d1:decide ((128:Int)≤(v:Int))
 ·have h0:=aeD d1
  have e:o8 (k+1) v= [UInt8.ofNat v]:=by unfold o8;grind
  simp only[go_sem,r5,r6,d1,wu8];refine lK.app ha (m:=[UInt8.ofNat v]) (fun _ hk=>hk) aeL fun z' h2 ha' =>?_
  simp only[go_sem];refine .same (.refl _) ?_;rw[←ho,e,←List.append_assoc];exact ha'
 ·have h0:=aeC d1
  have e:o8 (k+1) v=UInt8.ofNat (v % 128+128)::o8 k (v / 128):=by conv=>lhs;unfold o8;rw[if_neg aeK]
  rw[e]at hlo ho;simp only[List.length_cons]at hlo;have hk1:0<k:=by grind
  simp only[go_sem,r5,r6,d1,hv64,Lo _ (Nat.mod_lt v (show 128>0 by decide)),wu8]
  refine lK.app ha (m:=[UInt8.ofNat (v % 128+128)]) (fun _ hk=>hk) aeL fun z' h2 ha' =>?_
  simp only[go_sem,r5];refine⟨k,aeK,v / 128,o++ [UInt8.ofNat (v % 128+128)],z',?_,?_,?_,aeK,hk1,?_,?_,?_⟩
  ·grind
  ·grind
  ·omega
  ·grind
  ·rfl
  rfl
theorem CM(y:AV)(l:Txt)(n:Int)(h:Heap)(hb:By h y l)(hl:l.length≤1000000)(hn:i64 n):
  ai prog 182 [y,.i n] h fun r h' =>r= .sl ((l++iZ n).map aK) .no∧h' =h:=
 lK.pure fun g hg=>IN y l n g (hb.sub hg) hl hn
theorem Ok(y:AV)(l s:Txt)(h:Heap)(hb:By h y l)(hl:l.length≤1000000)(hs:s.length≤1000000):
  ai prog 183 [y,.s s] h fun r h' =>lK h h' r (l++dI s):=by
 have hn:i64 (s.length:Int):=⟨aeK,aeK⟩;refine aeJ func183 11 [.tmp 4] fun hwf=>?_
 simp only[go_sem];refine(IN y l s.length h hb hl hn).mono fun r h' ha=>?_
 simp only[go_sem];have hnl:=ja s.length;refine lK.app ha (m:=s) (fun _ hk=>(TH ..).mpr ⟨aeZ,u5,hk⟩) aeL fun z' h2 ha' =>?_
 simp only[go_sem];refine .same (.refl _) ?_;unfold dI;rw[←List.append_assoc];exact ha'
theorem xX(y:AV)(l s:Txt)(h:Heap)(hb:By h y l)(hl:l.length≤1000000)(hs:s.length≤1000000):
  ai prog 183 [y,.s s] h fun r h' =>r= .sl ((l++dI s).map aK) .no∧h' =h:=
 lK.pure fun g hg=>Ok y l s g (hb.sub hg) hl hs
theorem IY(y:AV)(l:Txt)(v:bu)(h:Heap)(hb:By h y l)(hl:l.length≤900000)(hk:i64 v.kind)(hn:i64 v.n)(hs:v.s.length≤1000000):
  ai prog 184 [y,aS v] h fun r h' =>r= .sl ((l++oK v).map aK) .no∧h' =h:=by
 have hnl:=ja v.kind;have hl2:(l++iZ v.kind).length≤1000000:=aeL;refine aeJ func184 20 [.tmp 4] fun hwf=>?_
 simp only[go_sem,aS];intro id hid;simp only[go_sem];refine(CM y l v.kind _ (hb.new hid) aeK hk).pthen ?_;simp only[go_sem];refine(zY v.kind _).pthen ?_;simp only[go_sem];cases d1:(v.kind==3||v.kind==5)
 ·have e:¬(v.kind=3∨v.kind=5):=by grind
  simp only[go_sem];refine(CM (.sl ((l++iZ v.kind).map aK) .no) (l++iZ v.kind) v.n _ (.sl _ _) hl2 hn).pthen ?_;simp only[go_sem];refine .mk _ (.refl _) (.aj hid) ⟨?_,rfl⟩;unfold oK;rw[if_neg e,List.append_assoc];rfl
 ·have e:v.kind=3∨v.kind=5:=by grind
  simp only[go_sem];refine(xX (.sl ((l++iZ v.kind).map aK) .no) (l++iZ v.kind) v.s _ (.sl _ _) hl2 hs).pthen ?_;simp only[go_sem];refine .mk _ (.refl _) (.aj hid) ⟨?_,rfl⟩;unfold oK;rw[if_pos e,List.append_assoc];rfl
theorem Fx(b:Bool)(h:Heap):ai prog 179 [.b b] h fun r h' =>r=aS (dP b)∧h' =h:=by
 refine aeJ func179 8 [.cell 2 44] fun hwf=>?_
 simp only[go_sem];intro i1 h1;simp only[go_sem];intro i2 h2;have hne:=aH h2;have n2:=aB h2;cases b
 ·exact akg
 ·exact akg
def RO(s:RS):Blk:=.obj [.sl (s.b.map aK) .no,.i (s.at_:Int),.b s.bad] 314
def WfR(s:RS):Prop:=s.at_≤s.b.length∧s.b.length≤1000000
def RC(f:FuncId)(args:List AV)(s:RS)(R:AV)(s' :RS):Prop:=∀(h:Heap) (id:Nat),h id=some (RO s)→ai prog f (.ptr id 0::args) h fun r h' =>r=R∧h' =upd h id (some (RO s'))
theorem RC.go(hc:RC f args s R s'){id:Nat}(hid:h id=some (RO s))(k:Q R (upd h id (some (RO s')))):ai prog f (.ptr id 0::args) h Q:=
 (hc h id hid).mono fun r h' ⟨e1,e2⟩=>ahq
theorem zF(h:WfR s):WfR (mE s a):=by
 unfold mE;split
 ·rename_i hc
  exact⟨by have:=h.1;show a≤s.b.length;omega,h.2⟩
 omega
theorem zG:∀(f i u:Nat) (l:Txt),(rF f i u l).2≤i+l.length∧((rF f i u l).2=0∨i<(rF f i u l).2)
 |0,_,_,_=>⟨Nat.zero_le _,.inl rfl⟩
 |_+1,_,_,[]=>⟨Nat.zero_le _,.inl rfl⟩
 |f+1,i,u,c::r=>by
  unfold rF;split
  ·omega
  ·split
   ·simp
   ·obtain⟨h1,h2⟩:=zG f (i+1) (u+c.toNat % 128*128 ^ i) r
    grind
theorem mA(h:WfR s):WfR (rIn s lo hi).2:=by
 unfold rIn;split
 ·exact h
 ·simp only
  split
  ·exact zF h
  ·have:=(zG 10 0 0 (s.b.drop s.at_)).1
   exact⟨aeL,h.2⟩
theorem pH(s:RS)(a:Nat):RC 227 [.i (a:Int)] s (.tup []) (mE s a):=fun h id hid=>by
 refine aeJ func227 28 [] fun hwf=>?_
 have g:=hid;have d0:decide ((0:Int)≤(a:Int))=true:=decide_eq_true aeK;unfold RO at g;cases d1:s.bad
 ·rw[d1]at g
  cases d2:decide ((a:Int)≤(s.at_:Int))
  ·have h2:=aeD d2
   simp only[go_sem,g,d0,d2];exact .mk _ (.refl _) (.refl _) ⟨rfl,by simp_all [mE,if_neg,bH]⟩
  ·have h2:=aeC d2
   simp only[go_sem,g,d0,d2];exact .mk _ (.refl _) (.refl _) ⟨rfl,by rw[mE,if_pos ⟨d1,aeK⟩];rfl⟩
 ·rw[d1]at g
  simp only[go_sem,g];exact .mk _ (.refl _) (.refl _) ⟨rfl,by simp_all [mE,if_neg,bH]⟩
theorem LY(s:RS):RC 228 [] s (.i (s.at_:Int)) s:=fun h id hid=>by
 refine aeJ func228 7 [.tmp 2] fun hwf=>?_
 have g:=hid;unfold RO at g;simp only[go_sem,g];exact ahw
theorem Ak(s:RS):RC 230 [] s (.i (if s.bad then 7 else 0)) s:=fun h id hid=>by
 refine aeJ func230 7 [.tmp 2] fun hwf=>?_
 have g:=hid;unfold RO at g;cases d1:s.bad<;>rw[d1]at g<;>simp only[go_sem,g]<;>exact .mk _ (.refl _) (.refl _) ⟨rfl,(bH hid).symm⟩
theorem SQ(s:RS):RC 180 [] s (.i (if KR s then 0 else 7)) s:=fun h id hid=>by
 refine aeJ func180 15 [.tmp 2] fun hwf=>?_
 have g:=hid;unfold RO at g;cases d1:decide ((s.at_:Int)<(s.b.length:Int))
 ·have h1:=aeD d1
  simp only[go_sem,g,aeA,d1];refine⟨.of aeN,?_⟩;refine(Ak s).go hid ?_;rw[bH hid];simp only[go_sem];refine .mk _ (.refl _) (.refl _) ⟨?_,rfl⟩;unfold KR;rw[decide_eq_true (show s.b.length≤s.at_ by omega)]
  cases s.bad<;>rfl
 ·have h1:=aeC d1
  simp only[go_sem,g,aeA,d1];refine⟨.of aeN,?_⟩;refine .mk _ (.refl _) (.refl _) ⟨?_,(bH hid).symm⟩;unfold KR;rw[decide_eq_false (show¬s.b.length≤s.at_ by omega)]
  rfl
theorem Qr(y:AV)(l:Txt)(h:Heap)(hb:By h y l)(hl:l.length≤1000000):
  ai prog 174 [y] h fun r h' =>∃id,h id=none∧r= .ptr id 0∧h' =upd h id (some (RO ⟨l,0,false⟩)):=by
 refine aeJ func174 7 [.tmp 2] fun hwf=>?_
 simp only[go_sem];refine(lK.pure fun g hg=>A4 y l g (hb.sub hg) aeK).pthen ?_
 simp only[go_sem];intro id hid;simp only[go_sem];exact .mk _ (.refl _) (.refl _) ⟨id,hid,rfl,rfl⟩
theorem KE(s:RS)(hw:WfR s)(h:Heap)(id:Nat)(hid:h id=some (RO s)):
  ai prog 266 [.ptr id 0] h fun r h' =>r= .tup [.v (.int .i64 (rF 10 0 0 (s.b.drop s.at_)).1),.i ((rF 10 0 0 (s.b.drop s.at_)).2:Nat)]∧h' =h:=by
 refine aeJ func266 74 [.tmp 2,.tmp 3] fun hwf=>?_
 have hw1:=hw.1;have hw2:=hw.2;have g:=hid;unfold RO at g;simp only[go_sem];generalize hx:rF 10 0 0 (s.b.drop s.at_)=x;refine .intro (fun k ρ h' =>h' =h∧∃(i u:Nat),k+i=10∧rF k i u (s.b.drop (s.at_+i))=x∧u<128 ^ i∧lk ρ 0=some (.ptr id 0)∧lk ρ 4=some (.v (.int .u64 (u:Int)))∧lk ρ 5=some (.i (i:Int))) 10 ?_ ?_
 ·refine⟨rfl,0,0,rfl,hx,aeO,?_,?_,?_⟩<;>simp only[go_sem]
  all_goals rfl
 rintro k ρ h' ⟨rfl,i,u,hki,hr,hu,r0,r4,r5⟩
 rcases k with _|k
 ·have d1:decide ((i:Int)<10)=false:=decide_eq_false aeK
  simp only[go_sem,r0,r4,r5,d1];exact⟨.of aeN,.mk _ (.refl _) (.refl _) ⟨agV,rfl⟩⟩
 have d1:decide ((i:Int)<10)=true:=decide_eq_true aeK;have w1:IntKind.i64.wrap ((s.at_:Int)+(i:Int))=((s.at_+i:Nat):Int):=afi;have w2:=aeG i aeK
 by_cases hc:s.at_+i<s.b.length
 case neg=>have d2:decide (((s.at_+i:Nat):Int)<(s.b.length:Int))=false:=decide_eq_false aeK;simp only[go_sem,r0,r4,r5,d1,g,w1,aeA,d2];rw[List.drop_eq_nil_of_le aeK]at hr;exact⟨.of aeN,.mk _ (.refl _) (.refl _) ⟨agV,rfl⟩⟩
 have d2:decide (((s.at_+i:Nat):Int)<(s.b.length:Int))=true:=decide_eq_true aeK;rw[List.drop_eq_getElem_cons hc]at hr;generalize hcc:s.b[s.at_+i]=c at hr;simp only[go_sem,r0,r4,r5,d1,g,w1,aeA,d2];refine⟨.of aeN,.of aeN,?_⟩;refine .at (s.at_+i) (by simpa using hc) aeU ?_
 simp only[go_sem,r0,r4,r5,aeB,hcc,aK];have hclt:=c.toNat_lt;have pw:(2:Nat) ^ (7*i)=128 ^ i:=by rw[Nat.pow_mul]
 have p9:(128:Nat) ^ 9=9223372036854775808:=aeO;unfold rF at hr
 by_cases hb:(i=9∧1<c.toNat)∨(0<i∧c.toNat=0)
 ·rw[if_pos hb]at hr
  by_cases h9:i=9∧1<c.toNat
  ·have d3:((i:Int)==9)=true:=by simp;omega
   have d4:decide ((1:Int)<(c.toNat:Int))=true:=decide_eq_true aeK;simp only[go_sem,r0,r4,r5,d3,d4];exact .mk _ (.refl _) (.refl _) ⟨agV,rfl⟩
  ·have hb:0<i∧c.toNat=0:=by omega
   have d4:decide ((1:Int)<(c.toNat:Int))=false:=decide_eq_false aeK;have d5:decide ((0:Int)<(i:Int))=true:=decide_eq_true aeK;have d6:((c.toNat:Int)==0)=true:=afn;cases d3:((i:Int)==9)<;>simp only[go_sem,r0,r4,r5,d3,d4,d5,d6]<;>exact .mk _ (.refl _) (.refl _) ⟨agV,rfl⟩
 rw[if_neg hb]at hr;have hi9:i≤9:=aeK;have hle:c.toNat % 128*128 ^ i+u<18446744073709551616:=by
  by_cases e9:i=9
  ·subst e9
   rw[p9]at hu⊢;omega
  ·have h1:(128:Nat) ^ i≤128 ^ 8:=Nat.pow_le_pow_right aeO aeK
   have h2:(128:Nat) ^ 8=72057594037927936:=aeO;exact akH
 have w3:IntKind.u64.wrap ((c.toNat % 128:Nat):Int)=((c.toNat % 128:Nat):Int):=QX _ aeK;have w4:IntKind.i64.wrap ((7:Int)*(i:Int))=((7*i:Nat):Int):=afi;have w5:IntKind.u64.wrap ((7*i:Nat):Int)=((7*i:Nat):Int):=QX _ aeK;have h63:7*i≤63:=aeK;have hu' :u<2 ^ (7*i):=by rw[pw];exact hu
 have hor:u+c.toNat % 128*2 ^ (7*i)<18446744073709551616:=by rw[pw];omega
 have wS:c.toNat % 128*2 ^ (7*i) % 18446744073709551616=c.toNat % 128*2 ^ (7*i):=Nat.mod_eq_of_lt aeK;have three:(i=9∧c.toNat≤1∧c.toNat≠0)∨(i<9∧0<i∧c.toNat≠0)∨i=0:=aeK;cases d7:decide ((c.toNat:Int)<128)
 ·have h7:=aeD d7
  rw[if_neg aeK]at hr;have hnew:u+c.toNat % 128*2 ^ (7*i)<128 ^ (i+1):=by rw[pw,Nat.pow_succ];exact akH
  rw[←pw,Nat.add_assoc]at hr;generalize hU' :u+c.toNat % 128*2 ^ (7*i)=u' at hr hnew hor;rcases three with⟨t1,t2,t3⟩|⟨t1,t2,t3⟩|t1
  ·have d3:((i:Int)==9)=true:=by simp;omega
   have d4:decide ((1:Int)<(c.toNat:Int))=false:=decide_eq_false aeK;have d5:decide ((0:Int)<(i:Int))=true:=decide_eq_true aeK;have d6:((c.toNat:Int)==0)=false:=afn;simp only[go_sem,r0,r4,r5,d3,d4,d5,d6,w3,w4,w5,h63,wS,hu',hU',hor,d7,w2];refine⟨k,aeK,rfl,i+1,u',aeK,hr,hnew,?_,?_,?_⟩<;>simp only[go_sem,r0]
  ·have d3:((i:Int)==9)=false:=by simp;omega
   have d5:decide ((0:Int)<(i:Int))=true:=decide_eq_true aeK;have d6:((c.toNat:Int)==0)=false:=afn;simp only[go_sem,r0,r4,r5,d3,d5,d6,w3,w4,w5,h63,wS,hu',hU',hor,d7,w2];refine⟨k,aeK,rfl,i+1,u',aeK,hr,hnew,?_,?_,?_⟩<;>simp only[go_sem,r0]
  ·have d3:((i:Int)==9)=false:=by simp;omega
   have d5:decide ((0:Int)<(i:Int))=false:=decide_eq_false aeK;simp only[go_sem,r0,r4,r5,d3,d5,w3,w4,w5,h63,wS,hu',hU',hor,d7,w2];refine⟨k,aeK,rfl,i+1,u',aeK,hr,hnew,?_,?_,?_⟩<;>simp only[go_sem,r0]
 ·have h7:=aeC d7
  rw[if_pos aeK]at hr;have ec:c.toNat % 128=c.toNat:=aeK;rw[←pw]at hr;have hU0:u+c.toNat*2 ^ (7*i)=u+c.toNat % 128*2 ^ (7*i):=by rw[ec]
  rw[hU0]at hr;generalize hU' :u+c.toNat % 128*2 ^ (7*i)=u' at hr hor;have w6:IntKind.i64.wrap ((u' / 2:Nat):Int)=((u' / 2:Nat):Int):=aU _ aeK;have b1:(-9223372036854775808:Int)≤((u' / 2:Nat):Int):=aeK;have b2:((u' / 2:Nat):Int)≤9223372036854775807:=aeK;have un:unzig u' =if u' % 2=1 then -((u' / 2:Nat):Int) - 1 else((u' / 2:Nat):Int):=rfl
  cases d8:(((u' % 2:Nat):Int)==1)
  ·have h8:¬u' % 2=1:=by intro hh;rw[hh]at d8;cases d8
   rw[if_neg h8]at un;rw[un]at hr;rcases three with⟨t1,t2,t3⟩|⟨t1,t2,t3⟩|t1
   ·have d3:((i:Int)==9)=true:=by simp;omega
    have d4:decide ((1:Int)<(c.toNat:Int))=false:=decide_eq_false aeK;have d5:decide ((0:Int)<(i:Int))=true:=decide_eq_true aeK;have d6:((c.toNat:Int)==0)=false:=afn;simp only[go_sem,r0,r4,r5,d3,d4,d5,d6,w3,w4,w5,h63,wS,hu',hU',hor,d7,w6,d8,w2];exact .mk _ (.refl _) (.refl _) ⟨agV,rfl⟩
   ·have d3:((i:Int)==9)=false:=by simp;omega
    have d5:decide ((0:Int)<(i:Int))=true:=decide_eq_true aeK;have d6:((c.toNat:Int)==0)=false:=afn;simp only[go_sem,r0,r4,r5,d3,d5,d6,w3,w4,w5,h63,wS,hu',hU',hor,d7,w6,d8,w2];exact .mk _ (.refl _) (.refl _) ⟨agV,rfl⟩
   ·have d3:((i:Int)==9)=false:=by simp;omega
    have d5:decide ((0:Int)<(i:Int))=false:=decide_eq_false aeK;simp only[go_sem,r0,r4,r5,d3,d5,w3,w4,w5,h63,wS,hu',hU',hor,d7,w6,d8,w2];exact .mk _ (.refl _) (.refl _) ⟨agV,rfl⟩
  ·have h8:u' % 2=1:=by have:=eq_of_beq d8;omega
   rw[if_pos h8]at un;rw[un]at hr;rcases three with⟨t1,t2,t3⟩|⟨t1,t2,t3⟩|t1
   ·have d3:((i:Int)==9)=true:=by simp;omega
    have d4:decide ((1:Int)<(c.toNat:Int))=false:=decide_eq_false aeK;have d5:decide ((0:Int)<(i:Int))=true:=decide_eq_true aeK;have d6:((c.toNat:Int)==0)=false:=afn;simp only[go_sem,r0,r4,r5,d3,d4,d5,d6,w3,w4,w5,h63,wS,hu',hU',hor,d7,w6,d8,b1,b2,w2];exact .mk _ (.refl _) (.refl _) ⟨agV,rfl⟩
   ·have d3:((i:Int)==9)=false:=by simp;omega
    have d5:decide ((0:Int)<(i:Int))=true:=decide_eq_true aeK;have d6:((c.toNat:Int)==0)=false:=afn;simp only[go_sem,r0,r4,r5,d3,d5,d6,w3,w4,w5,h63,wS,hu',hU',hor,d7,w6,d8,b1,b2,w2];exact .mk _ (.refl _) (.refl _) ⟨agV,rfl⟩
   ·have d3:((i:Int)==9)=false:=by simp;omega
    have d5:decide ((0:Int)<(i:Int))=false:=decide_eq_false aeK;simp only[go_sem,r0,r4,r5,d3,d5,w3,w4,w5,h63,wS,hu',hU',hor,d7,w6,d8,b1,b2,w2];exact .mk _ (.refl _) (.refl _) ⟨agV,rfl⟩
theorem RC.step(hc:RC f args s R s'){id:Nat}(hid:h id=some (RO s))
  (k:∀h2,h2=upd h id (some (RO s'))→h2 id=some (RO s')→(∀b,upd h2 id b=upd h id b)→Q R h2):ai prog f (.ptr id 0::args) h Q:=
 hc.go hid (k _ rfl (ah ..) fun b=>by grind [ah,ag])
theorem Eg(s:RS)(hw:WfR s)(lo hi:Int):RC 226 [.i lo,.i hi] s (.v (.int .i64 (rIn s lo hi).1)) (rIn s lo hi).2:=fun h id hid=>by
 have hw1:=hw.1;have hw2:=hw.2;refine aeJ func226 45 [.tmp 6] fun hwf=>?_
 have g:=hid;unfold RO at g;cases d1:s.bad
 case true=>rw[d1]at g;simp only[go_sem,g];exact .mk _ (.refl _) (.refl _) ⟨by rw[rIn,if_pos d1];rfl,by rw[rIn,if_pos d1,bH hid]⟩
 have e:rIn s lo hi=(let x:=rF 10 0 0 (s.b.drop s.at_);if x.2=0∨x.1<lo∨hi<x.1 then(0,mE s s.at_)else(x.1,{s with at_:=s.at_+x.2})):=by simp_all [rIn,if_neg]
 rw[d1]at g;simp only[go_sem,g];refine(KE s hw h id hid).pthen ?_;have hlen:=(zG 10 0 0 (s.b.drop s.at_)).1;rw[List.length_drop]at hlen;generalize rF 10 0 0 (s.b.drop s.at_)=x at e hlen⊢;obtain⟨n,z⟩:=x;simp only at e hlen⊢
 by_cases hb:z=0∨n<lo∨hi<n
 ·rw[if_pos hb]at e
  rw[e];have fin:∀P:Prop,P→P:=fun _ p=>p
  rcases Decidable.em (z=0)with c1|c1
  ·have d2:((z:Int)==0)=true:=by grind
   simp only[go_sem,g,d2];refine(pH s s.at_).go hid ?_;exact ajx
  have d2:((z:Int)==0)=false:=aeL;rcases Decidable.em (n<lo)with c2|c2
  ·simp only[go_sem,g,d2,decide_eq_true c2]
   refine(pH s s.at_).go hid ?_;exact ajx
  ·simp only[go_sem,g,d2,decide_eq_false c2,decide_eq_true (show hi<n by omega)]
   refine(pH s s.at_).go hid ?_;exact ajx
 ·rw[if_neg hb]at e
  rw[e];have d2:((z:Int)==0)=false:=aeL;have w1:IntKind.i64.wrap ((s.at_:Int)+(z:Int))=((s.at_+z:Nat):Int):=aeW;simp only[go_sem,g,d2,decide_eq_false (show¬n<lo by omega),decide_eq_false (show¬hi<n by omega),w1]
  exact .mk _ (.refl _) (.refl _) ⟨rfl,by grind [RO]⟩
theorem GF(s:RS)(hw:WfR s):RC 175 [] s (.v (.int .i64 (gD s).1)) (gD s).2:=fun h id hid=>by
 refine aeJ func175 5 [.tmp 2] fun hwf=>?_
 simp only[go_sem];refine(Eg s hw _ _).go hid ?_;exact ajx
theorem CU(hw:WfR s)(h0:lo≤0)(h1:0≤hi):lo≤(rIn s lo hi).1∧(rIn s lo hi).1≤hi:=by grind [rIn]
theorem gS(hw:WfR s)(hm:0≤most):WfR (bZ s most).2:=by
 have h1:=mA (lo:=0) (hi:=most) hw;have h2:=CU (lo:=0) (hi:=most) hw (Int.le_refl 0) hm;unfold bZ;simp only;split
 ·exact zF h1
 ·exact⟨aeL,h1.2⟩
theorem qe(s:RS)(hw:WfR s)(most:Int)(hmo:0≤most):RC 176 [.i most] s (.s (bZ s most).1) (bZ s most).2:=fun h id hid=>by
 have hx:=mA (lo:=0) (hi:=most) hw;have hx2:=CU (lo:=0) (hi:=most) hw (Int.le_refl 0) hmo;refine aeJ func176 59 [.tmp 4] fun hwf=>?_
 have g:=hid;unfold RO at g;simp only[go_sem,g];refine(Eg s hw 0 most).step hid ?_;have e:bZ s most=(let x:=rIn s 0 most;if x.2.bad∨(x.2.b.length:Int) - x.2.at_<x.1 then([],mE x.2 s.at_)else((x.2.b.drop x.2.at_).take x.1.toNat,{x.2 with at_:=x.2.at_+x.1.toNat})):=rfl
 generalize rIn s 0 most=x at e hx hx2⊢;obtain⟨n,t⟩:=x;simp only at e hx hx2⊢;obtain⟨m,rfl⟩:=Int.eq_ofNat_of_zero_le hx2.1;have ht1:=hx.1;have ht2:=hx.2;intro h2 eh2 hid2 hup;have g2:=hid2;unfold RO at g2;have w1:IntKind.i64.wrap ((t.b.length:Int) - (t.at_:Int))=(t.b.length:Int) - (t.at_:Int):=aU _ aeK;clear eh2 hid g
 by_cases hb:t.bad=true∨(t.b.length:Int) - t.at_<((m:Nat):Int)
 ·rw[if_pos hb]at e
  rw[e];cases d1:t.bad<;>rw[d1]at g2
  ·have hb:(t.b.length:Int) - t.at_<((m:Nat):Int):=by grind
   simp only[go_sem,g2,w1,aeA,decide_eq_true hb];exact ajX
  ·simp only[go_sem,g2]
   exact ajX
 ·rw[if_neg hb]at e
  rw[e];have d1:t.bad=false:=by grind
  rw[d1]at g2;have hle:t.at_+m≤t.b.length:=aeK;have w2:IntKind.i64.wrap ((t.at_:Int)+(m:Int))=((t.at_+m:Nat):Int):=aeW;have w3:IntKind.i64.wrap (((t.at_+m:Nat):Int) - (m:Int))=(t.at_:Int):=aeW;simp only[go_sem,g2,w1,aeA,decide_eq_false (show¬(t.b.length:Int) - t.at_<((m:Nat):Int) by omega)]
  refine⟨.of aeN,?_⟩;simp only[go_sem,g2,w2,w3,aeA];exact⟨.of aeN,aeK,aeK,aeK,.mk _ (.refl _) (.refl _) ⟨by rw[show t.at_+m - t.at_=m by omega];rfl,by grind [RO]⟩⟩
structure RAt (h0:Heap) (id:Nat) (h:Heap) (s:RS):Prop where
 here:h id=some (RO s)
 sub:∀j b,j≠id→h0 j=some b→h j=some b
theorem RAt.start{id:Nat}(hid:h id=some (RO s)):RAt h id h s:=⟨hid,fun _ _ _ e=>e⟩
theorem RAt.fin{id:Nat}(hr:RAt h0 id h s):Ab.Sub (upd h0 id (some (RO s))) h:=fun j b e=>by
 by_cases hj:j=id
 ·subst hj;rw[ah]at e;rw[hr.here,e]
 ·rw[ag _ _ hj]at e;exact hr.sub j b hj e
theorem RAt.ne{id i:Nat}(hr:RAt h0 id h s)(hi:h i=none):i≠id:=fun e=>by rw[e,hr.here]at hi;grind
theorem RAt.none{id i:Nat}(hr:RAt h0 id h s)(hi:h i=Option.none):h0 i=Option.none:=by
 cases e:h0 i with
 |none=>rfl
 |some b=>rw[hr.sub i b (hr.ne hi) e]at hi;omega
theorem RAt.put{id i:Nat}{b:Option Blk}(hr:RAt h0 id h s)(hi:h0 i=Option.none)(hn:i≠id):RAt h0 id (upd h i b) s:=
 ⟨by rw[ag _ _ (Ne.symm hn)];exact hr.here,fun j c hj e=>by
  rw[ag _ _ fun e2=>aeL]
  exact hr.sub j c hj e⟩
theorem RAt.step{id:Nat}(hr:RAt h0 id h s)(hc:RC f args s R s')(k:∀h2,RAt h0 id h2 s'→(∀j,j≠id→h2 j=h j)→Q R h2):ai prog f (.ptr id 0::args) h Q:=
 hc.go hr.here (k _ ⟨ah ..,fun j b hj e=>by rw[ag _ _ hj];exact hr.sub j b hj e⟩ fun j hj=>ag _ _ hj)
theorem I1(hw:WfR s):WfR (qC s).2:=by
 have h1:=mA (lo:=1) (hi:=5) hw;unfold qC;simp only;generalize rIn s 1 5=x at h1⊢;have h2:WfR (if oT x.1=true then((⟨x.1,0,(bZ x.2 64).1⟩,(bZ x.2 64).2):bu×RS)else(⟨x.1,(gD x.2).1,[]⟩,(gD x.2).2)).2:=by
  split
  ·grind [gS]
  ·exact mA h1
 generalize (if oT x.1=true then((⟨x.1,0,(bZ x.2 64).1⟩,(bZ x.2 64).2):bu×RS)else(⟨x.1,(gD x.2).1,[]⟩,(gD x.2).2))=y at h2⊢
 split
 ·exact aiU
 ·split
  ·exact zF h2
  ·exact aiU
theorem HJ(s:RS)(hw:WfR s):RC 178 [] s (aS (qC s).1) (qC s).2:=fun h id hid=>by
 have hw1:=mA (lo:=1) (hi:=5) hw;refine aeJ func178 31 [.cell 2 44] fun hwf=>?_
 simp only[go_sem];intro i1 h1;have a0:=RAt.start hid;have n1:=a0.ne h1;have m1:=a0.none h1;have a1:=a0.put (b:=some (.obj [.i 0,.i 0,.s []] 44)) m1 n1;simp only[go_sem];refine a1.step (LY s) fun g1 b1 k1=>?_
 have c1:=k1 i1 n1;rw[ah]at c1;clear a0 a1 k1;simp only[go_sem];refine b1.step (Eg s hw 1 5) fun g2 b2 k2=>?_
 have c2:=(k2 i1 n1).trans c1;clear b1 c1 k2;simp only[go_sem];intro i2 h2;have n2:=b2.ne h2;have m2:=b2.none h2;have n21:i2≠i1:=fun e=>by rw[e,c2]at h2;cases h2
 have e:qC s=(let x:=rIn s 1 5;let y:bu×RS:=if oT x.1 then(let t:=bZ x.2 64;(⟨x.1,0,t.1⟩,t.2))else(let t:=gD x.2;(⟨x.1,t.1,[]⟩,t.2));if y.2.bad then(aq,y.2)else if bz y.1=false then(aq,mE y.2 s.at_)else y):=rfl
 generalize rIn s 1 5=x at e hw1 b2⊢;obtain⟨kd,t⟩:=x;simp only at e hw1 b2⊢;have b3:=b2.put (b:=some (.obj [.i kd,.i 0,.s []] 44)) m2 n2;have c3:upd g2 i2 (some (.obj [.i kd,.i 0,.s []] 44)) i1=_:=(ag _ _ (Ne.symm n21)).trans c2;have d3:upd g2 i2 (some (.obj [.i kd,.i 0,.s []] 44)) i2=_:=ah ..;clear b2 c2 h2;simp only[go_sem,ah];generalize upd g2 i2 (some (.obj [.i kd,.i 0,.s []] 44))=g3 at b3 c3 d3⊢;refine(zY kd _).pthen ?_;simp only[go_sem];cases dt:(kd==3||kd==5)
 ·have et:oT kd=false:=dt
  rw[et]at e;simp only[Bool.false_eq_true,if_false]at e;simp only[go_sem];refine b3.step (GF t hw1) fun g4 b4 k4=>?_
  have c4:=(k4 i1 n1).trans c3;have d4:=(k4 i2 n2).trans d3;have e5:qC s=(if(gD t).2.bad then(aq,(gD t).2)else if bz (⟨kd,(gD t).1,[]⟩:bu)=false then(aq,mE (gD t).2 s.at_)else((⟨kd,(gD t).1,[]⟩:bu),(gD t).2)):=e
  have wT:WfR (gD t).2:=mA hw1;have b5:=b4.put (b:=(some (.obj [.i kd,.v (.int .i64 (gD t).1),.s []] 44))) m2 n2;have c5:upd g4 i2 (some (.obj [.i kd,.v (.int .i64 (gD t).1),.s []] 44)) i1=_:=(ag _ _ (Ne.symm n21)).trans c4;have d5:upd g4 i2 (some (.obj [.i kd,.v (.int .i64 (gD t).1),.s []] 44)) i2=_:=ah ..;simp only[go_sem,d4];generalize upd g4 i2 (some (.obj [.i kd,.v (.int .i64 (gD t).1),.s []] 44))=g5 at b5 c5 d5⊢;clear b4 c4 d4 k4 e;refine b5.step (Ak _) fun g6 b6 k6=>?_
  have c6:=(k6 i1 n1).trans c5;have d6:=(k6 i2 n2).trans d5;clear b5 c5 d5 k6;cases db:(gD t).2.bad
  ·rw[db,if_neg aeO]at e5
   simp only[go_sem,db,d6];refine(fY (⟨kd,(gD t).1,[]⟩:bu) g6).pthen ?_;cases dv:bz (⟨kd,(gD t).1,[]⟩:bu)
   ·exact ajI
   ·exact akv
  ·exact akw
 ·have et:oT kd=true:=dt
  rw[et]at e;simp only[if_true]at e;simp only[go_sem];refine b3.step (qe t hw1 64 aeO) fun g4 b4 k4=>?_
  have c4:=(k4 i1 n1).trans c3;have d4:=(k4 i2 n2).trans d3;have e5:qC s=(if(bZ t 64).2.bad then(aq,(bZ t 64).2)else if bz (⟨kd,0,(bZ t 64).1⟩:bu)=false then(aq,mE (bZ t 64).2 s.at_)else((⟨kd,0,(bZ t 64).1⟩:bu),(bZ t 64).2)):=e
  have wT:WfR (bZ t 64).2:=gS hw1 aeO;have b5:=b4.put (b:=(some (.obj [.i kd,.i 0,.s (bZ t 64).1] 44))) m2 n2;have c5:upd g4 i2 (some (.obj [.i kd,.i 0,.s (bZ t 64).1] 44)) i1=_:=(ag _ _ (Ne.symm n21)).trans c4;have d5:upd g4 i2 (some (.obj [.i kd,.i 0,.s (bZ t 64).1] 44)) i2=_:=ah ..;simp only[go_sem,d4];generalize upd g4 i2 (some (.obj [.i kd,.i 0,.s (bZ t 64).1] 44))=g5 at b5 c5 d5⊢;clear b4 c4 d4 k4 e;refine b5.step (Ak _) fun g6 b6 k6=>?_
  have c6:=(k6 i1 n1).trans c5;have d6:=(k6 i2 n2).trans d5;clear b5 c5 d5 k6;cases db:(bZ t 64).2.bad
  ·rw[db,if_neg aeO]at e5
   simp only[go_sem,db,d6];refine(fY (⟨kd,0,(bZ t 64).1⟩:bu) g6).pthen ?_;cases dv:bz (⟨kd,0,(bZ t 64).1⟩:bu)
   ·exact ajI
   ·exact akv
  ·exact akw
theorem I0(hw:WfR s):WfR (pY s).2:=by grind [pY,mA,I1]
theorem Th(s:RS)(hw:WfR s)(q:Perm):RC 177 [.sl (s.b.map aK) q] s (aS (pY s).1) (pY s).2:=fun h id hid=>by
 have hw1:=hw.1;have hw2:=hw.2;refine aeJ func177 25 [.cell 4 44] fun hwf=>?_
 simp only[go_sem];intro i1 h1;have a0:=RAt.start hid;have n1:=a0.ne h1;have m1:=a0.none h1;have a1:=a0.put (b:=some (.obj [.i 0,.i 0,.s []] 44)) m1 n1;simp only[go_sem];refine a1.step (LY s) fun g1 b1 k1=>?_
 have c1:=k1 i1 n1;rw[ah]at c1;clear a0 a1 k1
 by_cases hlt:s.at_<s.b.length
 ·have d1:decide ((s.at_:Int)<(s.b.length:Int))=true:=decide_eq_true aeK
  simp only[go_sem,aeA,d1];refine b1.step (LY s) fun g2 b2 k2=>?_
  have c2:=(k2 i1 n1).trans c1;clear b1 c1 k2;simp only[go_sem];refine .at s.at_ aeL aeU ?_;have hg:s.b.getD s.at_ 0=s.b[s.at_]:=aeL;generalize hcc:s.b[s.at_]=c at hg;cases d2:((c.toNat:Int)==0)
  ·have hne:c≠0:=fun e=>by simp_all
   have e:pY s=qC s:=by simp_all [pY,if_neg]
   rw[e];simp only[go_sem,aeB,hcc,aK,d2];refine b2.step (HJ s hw) fun g3 b3 k3=>?_
   have c3:=(k3 i1 n1).trans c2;simp only[go_sem,c3,ah,aS];exact ahz
  ·have he:c=0:=by have:=eq_of_beq d2;exact UInt8.toNat_inj.1 aeL
   have e:pY s=(aq,(rIn (rIn s 0 0).2 0 0).2):=by simp_all [pY,if_pos]
   rw[e];simp only[go_sem,aeB,hcc,aK,d2];refine b2.step (Eg s hw 0 0) fun g3 b3 k3=>?_
   have c3:=(k3 i1 n1).trans c2;simp only[go_sem];refine b3.step (Eg _ (mA hw) 0 0) fun g4 b4 k4=>?_
   have c4:=(k4 i1 n1).trans c3;simp only[go_sem,c4,ah];exact .mk _ (.refl _) (b4.put m1 n1).fin ⟨rfl,rfl⟩
 ·have d1:decide ((s.at_:Int)<(s.b.length:Int))=false:=decide_eq_false aeK
  have e:pY s=qC s:=by simp_all [pY,if_neg]
  rw[e];simp only[go_sem,aeA,d1];refine b1.step (HJ s hw) fun g3 b3 k3=>?_
  have c3:=(k3 i1 n1).trans c1;simp only[go_sem,c3,ah,aS];exact ahz
theorem Dr(a b:Txt)(p q:Perm)(h:Heap):ai prog 129 [.sl (a.map aK) p,.sl (b.map aK) q] h fun r h' =>r= .b (decide (a=b))∧h' =h:=by
 refine aeJ func129 10 [.tmp 4] fun hwf=>?_
 simp only[go_sem];exact .same (.refl _) ⟨by grind [ax],rfl⟩
structure OpL (o:OpD):Prop where
 subj:o.subj.length≤100000
 case:o.case.length≤100000
 field:o.field.length≤100000
 to:o.to.length≤100000
 val:o.val.s.length≤100000
 text:o.text.length≤100000
 reason:o.reason.length≤100000
def opT(o:OpD):List Txt:=[o.subj,o.case,o.field,o.to]
theorem NT(o:OpD)(h64:oN o)(hl:OpL o)(h:Heap):ai prog 134 [opA o] h fun r h' =>r= .sl ((iE o).map aK) .no∧h' =h:=by
 obtain⟨k1,k2,k3,k4⟩:=h64;have hnk:=ja o.kind;obtain⟨l1,l2,l3,l4,l5,l6,l7⟩:=hl;have t1:=dw o.subj;have t2:=dw o.case;have t3:=dw o.field;have t4:=dw o.to;refine aeJ func134 46 [.tmp 2] fun hwf=>?_
 simp only[go_sem,opA,opC];intro id hid;simp only[go_sem];refine(CM (.sl [] .full) [] o.kind _ (.nil _) aeR k1).pthen ?_;simp only[go_sem];generalize hH:upd h id _=H;have hHid:H id=some (.obj (opC o) 46):=by rw[←hH];exact ah ..
 have hsub:Ab.Sub h H:=by rw[←hH];exact(Sub.refl h).new hid _
 unfold opC at hHid;clear hH;refine .intro (fun m ρ h' =>h' =H∧∃i:Nat,i≤4∧m=4 - i∧lk ρ 1=some (.ptr id 0)∧lk ρ 3=some (.sl ((iZ o.kind++(((opT o).map dI).take i).flatten).map aK) .no)∧(∃q,lk ρ 17=some (.sl ((opT o).map .s) q))∧lk ρ 18=some (.i 4)∧lk ρ 19=some (.i i)) 4 ?_ ?_
 ·refine⟨rfl,0,aeK,rfl,?_,?_,?_,?_,?_⟩
  ·rfl
  ·simp only[go_sem]
   simp
  ·refine⟨?_,?_⟩
   rotate_left
   ·simp only[go_sem]
    rfl
  ·rfl
  rfl
 rintro m ρ h' ⟨rfl,i,hi,rfl,r1,r3,⟨q,r17⟩,r18,r19⟩
 have hLl:((opT o).map dI).length=4:=rfl;have hOl:(opT o).length=4:=rfl;have hF:((opT o).map dI).flatten.length≤400040:=by grind [opT]
 have hf:=pJ ((opT o).map dI) i;have hall:∀t∈opT o,t.length≤100000:=by simp_all [opT]
 by_cases hc:i<4
 ·have d1:decide ((i:Int)<4)=true:=decide_eq_true aeK
  have w1:IntKind.i64.wrap ((i:Int)+1)=((i+1:Nat):Int):=aeW;have hs:=ov ((opT o).map dI) i aeK;rw[aeB]at hs;have ht:=hall _ (aeF (show i<(opT o).length by omega))
  simp only[go_sem,r1,r3,r17,r18,r19,d1];refine .at i aeL aeU ?_;simp only[go_sem,r1,r3,r17,r18,r19,aeB];refine(xX _ (iZ o.kind++(((opT o).map dI).take i).flatten) (opT o)[i] _ (.sl _ _) aeL aeK).pthen ?_;simp only[go_sem,r1,r3,r17,r18,r19,w1];refine⟨3 - i,aeK,rfl,i+1,aeK,aeK,?_,?_,⟨q,?_⟩,?_,?_⟩
  ·simp only[go_sem,r1]
  ·simp only[go_sem,hs,List.append_assoc]
   rfl
  ·simp only[go_sem,r17]
  ·simp only[go_sem,r18]
  ·simp only[go_sem]
 ·have e:i=4:=by omega
  subst e;have e4:(((opT o).map dI).take 4).flatten=dI o.subj++(dI o.case++(dI o.field++dI o.to)):=by simp[opT]
  rw[e4]at r3 hf;have d1:decide ((4:Int)<4)=false:=rfl;generalize hP:iZ o.kind++(dI o.subj++(dI o.case++(dI o.field++dI o.to)))=P1 at r3;have hP1:P1.length≤400050:=aeL;simp only[go_sem,r1,r3,r17,r18,r19,hHid,d1];refine .quiet aeN ?_;simp only[go_sem,r1,r3,r17,r18,r19,hHid,d1];refine⟨_,IY _ P1 o.val _ (.sl _ _) aeK k2 k3 aeK,?_⟩;have e2:(oK o.val).length≤100020:=by grind [oK,aeE,ja,dw]
  simp only[go_sem,r1,hHid];refine⟨_,CM _ (P1++oK o.val) o.review _ (.sl _ _) aeL k4,?_⟩;generalize hP2:P1++oK o.val++iZ o.review=P2;have hP2l:P2.length≤500080:=by grind [ja,aeE]
  simp only[go_sem,r1,hHid];refine .quiet aeN ?_;simp only[go_sem,r1,hHid];refine⟨_,xX _ P2 o.text _ (.sl _ _) aeK aeK,?_⟩;have e3:=dw o.text;simp only[go_sem,r1,hHid];refine⟨_,xX _ (P2++dI o.text) o.reason _ (.sl _ _) aeL aeK,?_⟩;generalize hP3:P2++dI o.text++dI o.reason=P3;have e4:=dw o.reason;have hP3l:P3.length≤800000:=aeL;simp only[go_sem,r1,hHid];refine(Fx o.glass _).pthen ?_;simp only[go_sem];refine(IY _ P3 (dP o.glass) _ (.sl _ _) aeK ?_ ?_ ?_).pthen ?_
  ·cases o.glass<;>exact⟨aeO,aeO⟩
  ·cases o.glass<;>exact⟨aeO,aeO⟩
  ·cases o.glass<;>decide
  simp only[go_sem];refine .mk _ (.refl _) hsub ⟨?_,rfl⟩
  grind [iE,List.append_assoc,ax]
theorem lK.base(hs:Ab.Sub h H)(ha:lK H g y l):lK h g y l:=by
 obtain⟨h1,h2|⟨id,i1,h2,h3⟩⟩:=ha
 ·exact⟨hs.trans h1,.inl h2⟩
 ·exact⟨hs.trans h1,.inr ⟨id,hs.none i1,h2,h3⟩⟩
theorem Qs(ch:BitVec 64)(o:OpD)(h64:oN o)(hl:OpL o)(hp:(iE o).length≤1000000)(h:Heap):ai prog 67 [.v (.int .u64 (ch.toNat:Int)),opA o] h fun r h' =>lK h h' r (eC ch o):=by
 refine aeJ func67 20 [.tmp 4] fun hwf=>?_
 simp only[go_sem,opA,opC];intro id hid;generalize hH:upd h id _=H;have hHid:H id=some (.obj (opC o) 46):=by rw[←hH];exact ah ..
 have hsub:Ab.Sub h H:=by rw[←hH];exact(Sub.refl h).new hid _
 clear hH;simp only[go_sem];refine .intro (fun k ρ g=>∃(i:Nat) (v:BitVec 64) (l:Txt) (z:AV),lK H g z l∧i+k=8∧l++qR k v=qR 8 ch∧lk ρ 0=some (.v (.int .u64 (v.toNat:Int)))∧lk ρ 3=some (.ptr id 0)∧lk ρ 5=some z∧lk ρ 6=some (.i (i:Int))) 8 ?_ ?_
 ·refine⟨0,ch,[],_,Acc.full (.refl _),rfl,rfl,?_,?_,?_,?_⟩<;>simp only[go_sem]
  all_goals rfl
 rintro k ρ g ⟨i,v,l,z,ha,hk,hv,r0,r3,r5,r6⟩
 have hll:=congrArg List.length hv;rw[aeE,iX,iX]at hll;rcases k with _|k
 ·have d1:decide ((i:Int)<8)=false:=decide_eq_false aeK
  have hg:=ha.1 _ _ hHid;unfold opC at hg;rw[show qR 0 v= []from rfl,List.append_nil]at hv
  subst hv;simp only[go_sem,r0,r3,r5,r6,d1,hg];refine(NT o h64 hl g).pthen ?_;simp only[go_sem];refine lK.app ha (m:=iE o) (fun _ hk=>hk) aeK fun z' h2 ha' =>?_
  simp only[go_sem];exact .same (.refl _) (ha'.base hsub)
 ·have d1:decide ((i:Int)<8)=true:=decide_eq_true aeK
  have w1:IntKind.i64.wrap ((i:Int)+1)=((i+1:Nat):Int):=aeW;simp only[go_sem,r0,r3,r5,r6,d1,wu8];refine lK.app ha (m:=[UInt8.ofNat v.toNat]) (fun _ hk=>hk) aeL fun z' h2 ha' =>?_
  have e8:v.toNat / 256=(v>>>8).toNat:=ahe;simp only[go_sem,r0,r3,r5,r6,w1,e8];refine⟨k,aeK,i+1,v>>>8,l++ [UInt8.ofNat v.toNat],z',ha',aeK,?_,?_,?_,?_,?_⟩
  ·grind [qR]
  all_goals simp only[go_sem,r3]
theorem Hl(ch:BitVec 64)(o:OpD)(h64:oN o)(hl:OpL o)(hp:(iE o).length≤1000000)(h:Heap):ai prog 67 [.v (.int .u64 (ch.toNat:Int)),opA o] h fun r h' =>r= .sl ((eC ch o).map aK) .no∧h' =h:=
 lK.pure fun g _=>Qs ch o h64 hl hp g
theorem uH(hw:WfR s):i64 (gD s).1:=CU hw aeO aeO
theorem Jn:i64 aq.kind∧i64 aq.n:=⟨⟨aeO,aeO⟩,⟨aeO,aeO⟩⟩
theorem IZ:(mE s a).b=s.b:=by grind [mE]
theorem RF:(rIn s lo hi).2.b=s.b:=by grind [rIn,IZ]
theorem xR{m:Int}:(bZ s m).2.b=s.b:=by grind [bZ,IZ,RF]
theorem Qn(hw:WfR s):i64 (qC s).1.kind∧i64 (qC s).1.n:=by
 have hz:=Jn;have h1:=mA (lo:=1) (hi:=5) hw;have h2: -1≤(rIn s 1 5).1∧(rIn s 1 5).1≤5:=by grind [rIn]
 unfold qC;simp only;generalize rIn s 1 5=x at h1 h2⊢;have h3:i64 (if oT x.1=true then((⟨x.1,0,(bZ x.2 64).1⟩,(bZ x.2 64).2):bu×RS)else(⟨x.1,(gD x.2).1,[]⟩,(gD x.2).2)).1.kind∧i64 (if oT x.1=true then((⟨x.1,0,(bZ x.2 64).1⟩,(bZ x.2 64).2):bu×RS)else(⟨x.1,(gD x.2).1,[]⟩,(gD x.2).2)).1.n:=by
  split
  ·exact⟨⟨aeL,aeL⟩,⟨aeR,aeR⟩⟩
  ·exact⟨⟨aeL,aeL⟩,uH h1⟩
 generalize (if oT x.1=true then((⟨x.1,0,(bZ x.2 64).1⟩,(bZ x.2 64).2):bu×RS)else(⟨x.1,(gD x.2).1,[]⟩,(gD x.2).2))=y at h3⊢
 split
 ·exact hz
 ·split
  ·exact hz
  ·exact h3
theorem CV(hw:WfR s):i64 (pY s).1.kind∧i64 (pY s).1.n:=by grind [pY,Jn,Qn]
def ru:OpD:=⟨0,[],[],[],[],aq,0,[],[],false⟩
def J9(l:Txt):AV:=.tup [opA ((oS l).getD ru),.v (.bool (oS l).isSome)]
theorem Ty(l:Txt):rOp l=(let k:=gD ⟨l,0,false⟩;let s1:=bZ k.2 16;let s2:=bZ s1.2 16;let s3:=bZ s2.2 16;let s4:=bZ s3.2 16;let v:=pY s4.2;let r:=gD v.2;let t:=bZ r.2 4096;let w:=bZ t.2 64;let g:=qC w.2
 (⟨k.1,s1.1,s2.1,s3.1,s4.1,v.1,r.1,t.1,w.1,eqV g.1 (dP true)⟩,g.2)):=rfl
theorem f_l(h:OpF o):OpL o:=by
 obtain⟨a,b,c,d,e,f,g⟩:=h;refine⟨aeK,aeK,aeK,aeK,?_,aeK,aeK⟩;rcases e with e|e
 ·rw[e];decide
 ·by_cases hk:o.val.kind=3∨o.val.kind=5
  ·have:=(vW e hk).2;omega
  grind [B2]
theorem RAt.base{id:Nat}(hr:RAt h id g s)(hn:h id=Option.none):Ab.Sub h g:=fun j b e=>hr.sub j b aeL e
set_option maxHeartbeats 1000000 in
theorem MI(l:Txt)(q:Perm)(hl:l.length≤1000000)(h:Heap):ai prog 128 [.sl (l.map aK) q] h fun r h' =>r=J9 l∧h' =h:=by
 refine aeJ func128 58 [.cell 2 46,.tmp 3] fun hwf=>?_
 simp only[go_sem];intro i1 h1;simp only[go_sem];refine(Qr _ l _ (.sl _ _) hl).mono fun r g ⟨id,hid,er,eg⟩=>?_
 subst er;have n1:i1≠id:=fun e=>aiR
 have m0:h id=none:=by simp_all [ag,Ne.symm]
 have w0:WfR ⟨l,0,false⟩:=⟨Nat.zero_le _,hl⟩;have b0:RAt h id g ⟨l,0,false⟩:=⟨by simp_all [ah],fun j b hj e=>by
  rw[eg,ag _ _ hj,ag _ _ fun e2=>aeL]
  exact e⟩
 have c0:g i1=some (.obj (opC ru) 46):=by rw[eg,ag _ _ n1];exact ah ..
 clear eg hid;simp only[go_sem];intro i2 h2;have n2:=b0.ne h2;have m1:=h1;have m2:=b0.none h2;have n21:i2≠i1:=fun e=>aeL
 clear h2;have e:=Ty l;simp only at e;have g0e:g=g:=rfl;generalize g=g0 at b0 c0⊢;clear g0e;simp only[go_sem];have b0' :=b0.put (b:=(some (.obj [.i 0,.s [],.s [],.s [],.s [],.i 0,.i 0,.s [],.i 0,.s [],.s [],.b false] 46))) m2 n2;have c0' :upd g0 i2 (some (.obj [.i 0,.s [],.s [],.s [],.s [],.i 0,.i 0,.s [],.i 0,.s [],.s [],.b false] 46)) i1=_:=(ag _ _ (Ne.symm n21)).trans c0;have d0' :upd g0 i2 (some (.obj [.i 0,.s [],.s [],.s [],.s [],.i 0,.i 0,.s [],.i 0,.s [],.s [],.b false] 46)) i2=_:=ah ..;clear b0 c0;generalize upd g0 i2 (some (.obj [.i 0,.s [],.s [],.s [],.s [],.i 0,.i 0,.s [],.i 0,.s [],.s [],.b false] 46))=g1 at b0' c0' d0'⊢;have b1:=b0';have c1:=c0';have d1:=d0';clear b0' c0' d0';refine b1.step (GF _ w0) fun g2 b2 k2=>?_
 have c2:=(k2 i1 n1).trans c1;have d2:=(k2 i2 n2).trans d1;clear b1 c1 d1 k2;have w1:=mA (lo:= -9223372036854775808) (hi:=9223372036854775807) w0;have q1:=uH w0
 change WfR (gD _).2 at w1
 have hb1:(gD ⟨l,0,false⟩).2.b=l:=RF;generalize gD ⟨l,0,false⟩=x1 at e w1 q1 hb1 b2⊢;obtain⟨v1,s1⟩:=x1;simp only at e w1 q1 hb1 b2⊢;simp only[go_sem,d2,ah];have b2' :=b2.put (b:=(some (.obj [.i v1,.s [],.s [],.s [],.s [],.i 0,.i 0,.s [],.i 0,.s [],.s [],.b false] 46))) m2 n2;have c2' :upd g2 i2 (some (.obj [.i v1,.s [],.s [],.s [],.s [],.i 0,.i 0,.s [],.i 0,.s [],.s [],.b false] 46)) i1=_:=(ag _ _ (Ne.symm n21)).trans c2;have d2' :upd g2 i2 (some (.obj [.i v1,.s [],.s [],.s [],.s [],.i 0,.i 0,.s [],.i 0,.s [],.s [],.b false] 46)) i2=_:=ah ..;clear b2 c2 d2;generalize upd g2 i2 (some (.obj [.i v1,.s [],.s [],.s [],.s [],.i 0,.i 0,.s [],.i 0,.s [],.s [],.b false] 46))=g3 at b2' c2' d2'⊢;have b3:=b2';have c3:=c2';have d3:=d2';clear b2' c2' d2';refine b3.step (qe _ w1 16 aeO) fun g4 b4 k4=>?_
 have c4:=(k4 i1 n1).trans c3;have d4:=(k4 i2 n2).trans d3;clear b3 c3 d3 k4;have w2:=gS (most:=16) w1 aeO;have hb2:(bZ s1 16).2.b=l:=xR.trans hb1;generalize bZ s1 16=x2 at e w2 hb2 b4⊢;obtain⟨v2,s2⟩:=x2;simp only at e w2 hb2 b4⊢;simp only[go_sem];refine b4.step (qe _ w2 16 aeO) fun g5 b5 k5=>?_
 have c5:=(k5 i1 n1).trans c4;have d5:=(k5 i2 n2).trans d4;clear b4 c4 d4 k5;have w3:=gS (most:=16) w2 aeO;have hb3:(bZ s2 16).2.b=l:=xR.trans hb2;generalize bZ s2 16=x3 at e w3 hb3 b5⊢;obtain⟨v3,s3⟩:=x3;simp only at e w3 hb3 b5⊢;simp only[go_sem];refine b5.step (qe _ w3 16 aeO) fun g6 b6 k6=>?_
 have c6:=(k6 i1 n1).trans c5;have d6:=(k6 i2 n2).trans d5;clear b5 c5 d5 k6;have w4:=gS (most:=16) w3 aeO;have hb4:(bZ s3 16).2.b=l:=xR.trans hb3;generalize bZ s3 16=x4 at e w4 hb4 b6⊢;obtain⟨v4,s4⟩:=x4;simp only at e w4 hb4 b6⊢;simp only[go_sem];refine b6.step (qe _ w4 16 aeO) fun g7 b7 k7=>?_
 have c7:=(k7 i1 n1).trans c6;have d7:=(k7 i2 n2).trans d6;clear b6 c6 d6 k7;have w5:=gS (most:=16) w4 aeO;have hb5:(bZ s4 16).2.b=l:=xR.trans hb4;generalize bZ s4 16=x5 at e w5 hb5 b7⊢;obtain⟨v5,s5⟩:=x5;simp only at e w5 hb5 b7⊢;simp only[go_sem,d7,ah];have b7' :=b7.put (b:=(some (.obj [.i v1,.s v2,.s v3,.s v4,.s v5,.i 0,.i 0,.s [],.i 0,.s [],.s [],.b false] 46))) m2 n2;have c7' :upd g7 i2 (some (.obj [.i v1,.s v2,.s v3,.s v4,.s v5,.i 0,.i 0,.s [],.i 0,.s [],.s [],.b false] 46)) i1=_:=(ag _ _ (Ne.symm n21)).trans c7;have d7' :upd g7 i2 (some (.obj [.i v1,.s v2,.s v3,.s v4,.s v5,.i 0,.i 0,.s [],.i 0,.s [],.s [],.b false] 46)) i2=_:=ah ..;clear b7 c7 d7;generalize upd g7 i2 (some (.obj [.i v1,.s v2,.s v3,.s v4,.s v5,.i 0,.i 0,.s [],.i 0,.s [],.s [],.b false] 46))=g8 at b7' c7' d7'⊢;have b8:=b7';have c8:=c7';have d8:=d7';clear b7' c7' d7';rw[show l.map aK=s5.b.map aK by grind]
 refine b8.step (Th _ w5 _) fun g9 b9 k9=>?_
 have c9:=(k9 i1 n1).trans c8;have d9:=(k9 i2 n2).trans d8;clear b8 c8 d8 k9;have w6:=I0 w5;have q6:=CV w5;generalize pY s5=x6 at e w6 q6 b9⊢;obtain⟨v6,s6⟩:=x6;simp only at e w6 q6 b9⊢;simp only[go_sem,d9,ah,aS];have b9' :=b9.put (b:=(some (.obj [.i v1,.s v2,.s v3,.s v4,.s v5,.i v6.kind,.i v6.n,.s v6.s,.i 0,.s [],.s [],.b false] 46))) m2 n2;have c9' :upd g9 i2 (some (.obj [.i v1,.s v2,.s v3,.s v4,.s v5,.i v6.kind,.i v6.n,.s v6.s,.i 0,.s [],.s [],.b false] 46)) i1=_:=(ag _ _ (Ne.symm n21)).trans c9;have d9' :upd g9 i2 (some (.obj [.i v1,.s v2,.s v3,.s v4,.s v5,.i v6.kind,.i v6.n,.s v6.s,.i 0,.s [],.s [],.b false] 46)) i2=_:=ah ..;clear b9 c9 d9;generalize upd g9 i2 (some (.obj [.i v1,.s v2,.s v3,.s v4,.s v5,.i v6.kind,.i v6.n,.s v6.s,.i 0,.s [],.s [],.b false] 46))=g10 at b9' c9' d9'⊢;have b10:=b9';have c10:=c9';have d10:=d9';clear b9' c9' d9';refine b10.step (GF _ w6) fun g11 b11 k11=>?_
 have c11:=(k11 i1 n1).trans c10;have d11:=(k11 i2 n2).trans d10;clear b10 c10 d10 k11;have w7:=mA (lo:= -9223372036854775808) (hi:=9223372036854775807) w6;have q7:=uH w6
 change WfR (gD _).2 at w7
 generalize gD s6=x7 at e w7 q7 b11⊢;obtain⟨v7,s7⟩:=x7;simp only at e w7 q7 b11⊢;simp only[go_sem,d11,ah];have b11' :=b11.put (b:=(some (.obj [.i v1,.s v2,.s v3,.s v4,.s v5,.i v6.kind,.i v6.n,.s v6.s,.i v7,.s [],.s [],.b false] 46))) m2 n2;have c11' :upd g11 i2 (some (.obj [.i v1,.s v2,.s v3,.s v4,.s v5,.i v6.kind,.i v6.n,.s v6.s,.i v7,.s [],.s [],.b false] 46)) i1=_:=(ag _ _ (Ne.symm n21)).trans c11;have d11' :upd g11 i2 (some (.obj [.i v1,.s v2,.s v3,.s v4,.s v5,.i v6.kind,.i v6.n,.s v6.s,.i v7,.s [],.s [],.b false] 46)) i2=_:=ah ..;clear b11 c11 d11;generalize upd g11 i2 (some (.obj [.i v1,.s v2,.s v3,.s v4,.s v5,.i v6.kind,.i v6.n,.s v6.s,.i v7,.s [],.s [],.b false] 46))=g12 at b11' c11' d11'⊢;have b12:=b11';have c12:=c11';have d12:=d11';clear b11' c11' d11';refine b12.step (qe _ w7 4096 aeO) fun g13 b13 k13=>?_
 have c13:=(k13 i1 n1).trans c12;have d13:=(k13 i2 n2).trans d12;clear b12 c12 d12 k13;have w8:=gS (most:=4096) w7 aeO;generalize bZ s7 4096=x8 at e w8 b13⊢;obtain⟨v8,s8⟩:=x8;simp only at e w8 b13⊢;simp only[go_sem];refine b13.step (qe _ w8 64 aeO) fun g14 b14 k14=>?_
 have c14:=(k14 i1 n1).trans c13;have d14:=(k14 i2 n2).trans d13;clear b13 c13 d13 k14;have w9:=gS (most:=64) w8 aeO;generalize bZ s8 64=x9 at e w9 b14⊢;obtain⟨v9,s9⟩:=x9;simp only at e w9 b14⊢;simp only[go_sem,d14,ah];have b14' :=b14.put (b:=(some (.obj [.i v1,.s v2,.s v3,.s v4,.s v5,.i v6.kind,.i v6.n,.s v6.s,.i v7,.s v8,.s v9,.b false] 46))) m2 n2;have c14' :upd g14 i2 (some (.obj [.i v1,.s v2,.s v3,.s v4,.s v5,.i v6.kind,.i v6.n,.s v6.s,.i v7,.s v8,.s v9,.b false] 46)) i1=_:=(ag _ _ (Ne.symm n21)).trans c14;have d14' :upd g14 i2 (some (.obj [.i v1,.s v2,.s v3,.s v4,.s v5,.i v6.kind,.i v6.n,.s v6.s,.i v7,.s v8,.s v9,.b false] 46)) i2=_:=ah ..;clear b14 c14 d14;generalize upd g14 i2 (some (.obj [.i v1,.s v2,.s v3,.s v4,.s v5,.i v6.kind,.i v6.n,.s v6.s,.i v7,.s v8,.s v9,.b false] 46))=g15 at b14' c14' d14'⊢;have b15:=b14';have c15:=c14';have d15:=d14';clear b14' c14' d14';refine b15.step (HJ _ w9) fun g16 b16 k16=>?_
 have c16:=(k16 i1 n1).trans c15;have d16:=(k16 i2 n2).trans d15;clear b15 c15 d15 k16;have w10:=I1 w9;generalize qC s9=x10 at e w10 b16⊢;obtain⟨v10,s10⟩:=x10;simp only at e w10 b16⊢;simp only[go_sem];refine(Fx true _).pthen ?_;simp only[go_sem,d16,ah,aS,dP];generalize hgl:(v10.kind==1 && (v10.n==1 && v10.s== []))=gl;have egl:eqV v10 (dP true)=gl:=hgl;rw[egl]at e;clear egl hgl;have b16' :=b16.put (b:=(some (.obj [.i v1,.s v2,.s v3,.s v4,.s v5,.i v6.kind,.i v6.n,.s v6.s,.i v7,.s v8,.s v9,.b gl] 46))) m2 n2;have c16' :upd g16 i2 (some (.obj [.i v1,.s v2,.s v3,.s v4,.s v5,.i v6.kind,.i v6.n,.s v6.s,.i v7,.s v8,.s v9,.b gl] 46)) i1=_:=(ag _ _ (Ne.symm n21)).trans c16;have d16' :upd g16 i2 (some (.obj [.i v1,.s v2,.s v3,.s v4,.s v5,.i v6.kind,.i v6.n,.s v6.s,.i v7,.s v8,.s v9,.b gl] 46)) i2=_:=ah ..;clear b16 c16 d16;generalize upd g16 i2 (some (.obj [.i v1,.s v2,.s v3,.s v4,.s v5,.i v6.kind,.i v6.n,.s v6.s,.i v7,.s v8,.s v9,.b gl] 46))=g17 at b16' c16' d16'⊢;have b17:=b16';have c17:=c16';have d17:=d16';clear b16' c16' d16';refine b17.step (SQ _) fun g18 b18 k18=>?_
 have c18:=(k18 i1 n1).trans c17;have d18:=(k18 i2 n2).trans d17;clear b17 c17 d17 k18;generalize ho:(⟨v1,v2,v3,v4,v5,v6,v7,v8,v9,gl⟩:OpD)=o at e;have hd:g18 i2=some (.obj (opC o) 46):=by rw[d18,←ho];rfl
 have h64:oN o:=by rw[←ho];exact⟨q1,q6.1,q6.2,q7⟩
 have hc:g18 i1=some (.obj (opC ru) 46):=c18;clear d18 c18 ho;have hnone:∀(g:Heap),RAt h id g s10→oS l=none→nL [opA ru,.b false] g fun r h' =>r=J9 l∧h' =h:=fun g hg en=>.mk _ (.refl _) (hg.base m0) ⟨by unfold J9;rw[en];rfl,rfl⟩
 unfold opC ru aq at hc;unfold opC at hd;cases de:KR s10
 ·have en:oS l=none:=by grind [oS]
  simp only[go_sem,de,hc,ah];exact ahP
 simp only[go_sem,de,hd];refine(Cw o _).pthen ?_;cases df:dH o
 ·exact akC
 have hF:=oA df;simp only[go_sem,hd];refine(NT o h64 (f_l hF) _).pthen ?_;simp only[go_sem];rw[hb5];refine(Dr (iE o) l _ _ _).pthen ?_;cases dp:decide (iE o=l)
 ·exact akC
 ·have en:oS l=some o:=by grind [oS]
  simp only[go_sem,hc,hd,ah];exact .mk _ (.refl _) ((b18.put m1 n1).base m0) ⟨by unfold J9;rw[en];rfl,rfl⟩
theorem Rq(s q:BitVec 64):IntKind.u64.wrap (IntKind.u64.wrap (((BitVec.ofInt 64 (s.toNat:Int) ^^^ BitVec.ofInt 64 (q.toNat:Int)).toNat:Nat):Int)*1099511628211)=(((s ^^^ q)*1099511628211#64).toNat:Int):=by rw[BitVec.ofInt_natCast,BitVec.ofInt_natCast,BitVec.ofNat_toNat,BitVec.ofNat_toNat,BitVec.setWidth_eq,BitVec.setWidth_eq];generalize s ^^^ q=x;rw[QX _ x.isLt];have e:(x.toNat:Int)*1099511628211=((x.toNat*1099511628211:Nat):Int):=aeK;rw[e,RZ,BitVec.toNat_mul,BitVec.toNat_ofNat]
theorem Sn(p:BitVec 64):p.toNat % 256=(p &&& 255#64).toNat:=by exact(Nat.and_two_pow_sub_one_eq_mod p.toNat 8).symm
theorem Mf(prev:BitVec 64)(y:AV)(l:Txt)(h:Heap)(hb:By h y l)(hl:l.length≤1000000):
  ai prog 73 [.v (.int .u64 (prev.toNat:Int)),y] h fun r h' =>r= .v (.int .u64 ((vh prev l).toNat:Int))∧h' =h:=by
 refine aeJ func73 31 [.tmp 4] fun hwf=>?_
 simp only[go_sem];refine .intro (fun k ρ g=>g=h∧∃(i:Nat) (p s:BitVec 64),i+k=8∧J2 k p s=J2 8 prev 14695981039346656037#64∧lk ρ 0=some (.v (.int .u64 (p.toNat:Int)))∧lk ρ 1=some y∧lk ρ 5=some (.v (.int .u64 (s.toNat:Int)))∧lk ρ 8=some (.i (i:Int))) 8 ?_ ?_
 ·refine⟨rfl,0,prev,14695981039346656037#64,rfl,rfl,?_,?_,?_,?_⟩<;>simp only[go_sem]
  rfl
 rintro k ρ g ⟨rfl,i,p,s,hk,hv,r0,r1,r5,r8⟩
 rcases k with _|k
 ·have d1:decide ((i:Int)<8)=false:=decide_eq_false aeK
  simp only[go_sem,r0,r1,r5,r8,d1,hb.len];refine .intro (fun k ρ g' =>g' =g∧∃(i:Nat) (s:BitVec 64),i+k=l.length∧(l.drop i).foldl (fun h c=>fnv h c.toNat) s=vh prev l∧lk ρ 5=some (.v (.int .u64 (s.toNat:Int)))∧lk ρ 18=some y∧lk ρ 19=some (.i (l.length:Int))∧lk ρ 20=some (.i (i:Int))) l.length ?_ ?_
  ·refine⟨rfl,0,s,aeK,by grind [J4,vh],?_,?_,?_,?_⟩<;>simp only[go_sem,r5,r1]
   all_goals rfl
  clear r0 r1 r5 r8 hv
  rintro k ρ g' ⟨rfl,i,s,hk,hv,r5,r18,r19,r20⟩
  rcases k with _|k
  ·have d1:decide ((i:Int)<(l.length:Int))=false:=decide_eq_false aeK
   simp only[go_sem,r5,r18,r19,r20,d1];rw[List.drop_eq_nil_of_le aeK]at hv;exact .same (.refl _) ⟨by rw[←hv];rfl,rfl⟩
  ·have hlt:i<l.length:=by omega
   have d1:decide ((i:Int)<(l.length:Int))=true:=decide_eq_true aeK;have w1:IntKind.i64.wrap ((i:Int)+1)=((i+1:Nat):Int):=aeW;rw[List.drop_eq_getElem_cons hlt]at hv;simp only[go_sem,r5,r18,r19,r20,d1];refine hb.idx i rfl hlt u5 u5a fun q hq=>?_
   generalize l[i]=c at hq hv;have hcl:=c.toNat_lt;have w2:IntKind.u64.wrap (c.toNat:Int)=((BitVec.ofNat 64 c.toNat).toNat:Int):=aeZ;have hx:=hq (fun v=>v=aK c)
   simp only[go_sem,r5,r18,r19,r20,hq _,aK,w2,w1];refine⟨k,aeK,rfl,i+1,fnv s c.toNat,aeK,aeL,?_,?_,?_,?_⟩<;>simp only[go_sem,r18,r19,fnv]
   exact congrArg (fun z=>some (AV.v (Value.int IntKind.u64 z))) (Rq s _)
 ·have d1:decide ((i:Int)<8)=true:=decide_eq_true aeK
  have w1:IntKind.i64.wrap ((i:Int)+1)=((i+1:Nat):Int):=aeW;have e8:p.toNat / 256=(p>>>8).toNat:=ahe;have hp:=p.isLt;simp only[go_sem,r0,r1,r5,r8,d1,w1,show p.toNat<18446744073709551616 from hp,Sn,e8]
  refine⟨k,aeK,rfl,i+1,p>>>8,fnv s (p &&& 255#64).toNat,aeK,by grind [J3],?_,?_,?_,?_⟩<;>simp only[go_sem,r1,fnv,BitVec.ofNat_toNat,BitVec.setWidth_eq]
  exact congrArg (fun z=>some (AV.v (Value.int IntKind.u64 z))) (Rq s _)
def cL(s:an):List AV:=[.i s.tick,fM s.cases,jV s.reviews,kE s.notices,dW s.roles]++gq s.policy++ [.i s.version]
def lM(jid:Nat)(e:cm)(yl:AV):Blk:=.obj ([.ptr jid 0]++cL e.s++ [yl,.v (.int .u64 (e.ch.toNat:Int))]) 126
theorem bT(s:an):∃a1 a2 a3 a4 a5 a6 a7,cL s= [.i s.tick,fM s.cases,jV s.reviews,kE s.notices,dW s.roles,a1,a2,a3,a4,a5,a6,a7,.i s.version]:=by obtain⟨tick,cases,reviews,notices,roles,policy,version⟩:=s;obtain⟨id,set,alg,tgt,rules,kids,obls⟩:=policy;exact⟨_,_,_,_,_,_,_,rfl⟩
def BO(e:cm)(l:Txt):AV:=.tup [opA ((jj e l).getD ru),.v (.bool (jj e l).isSome)]
theorem Iw(hl:l.length≤1000000)(h:oS l=some o):oN o:=by
 unfold oS at h;split at h
 ·cases h
  have w0:WfR ⟨l,0,false⟩:=⟨Nat.zero_le _,hl⟩;have w1:WfR (gD ⟨l,0,false⟩).2:=mA w0;have w2:=gS (most:=16) w1 aeO;have w3:=gS (most:=16) w2 aeO;have w4:=gS (most:=16) w3 aeO;have w5:=gS (most:=16) w4 aeO;exact⟨uH w0,(CV w5).1,(CV w5).2,uH (I0 w5)⟩
 grind
theorem My(l:Txt)(q:Perm)(e:cm)(yl:AV)(jid x:Nat)(h:Heap)(hl:l.length≤900000)(hx:h x=some (lM jid e yl)):ai prog 58 [.ptr x 0,.sl (l.map aK) q] h fun r h' =>r=BO e l∧h' =h:=by
 obtain⟨a1,a2,a3,a4,a5,a6,a7,es⟩:=bT e.s;have g:=hx;unfold lM at g;rw[es]at g;simp only[List.cons_append,List.nil_append]at g;refine aeJ func58 33 [.cell 4 46,.tmp 5] fun hwf=>?_
 simp only[go_sem];intro i1 h1;have n1:i1≠x:=fun e=>aeL
 by_cases hs:l.length<8
 ·have d1:decide ((l.length:Int)<8)=true:=decide_eq_true aeK
  have er:jj e l=none:=by simp_all [jj,if_pos]
  simp only[go_sem,aeA,d1,ah];exact .mk _ (.refl _) ((Sub.refl h).new h1 _) ⟨ah8,rfl⟩
 have d1:decide ((l.length:Int)<8)=false:=decide_eq_false aeK;simp only[go_sem,aeA,d1];refine⟨aeK,aeK,?_⟩;refine(MI (l.drop 8) _ aeL _).pthen ?_;have er0:jj e l=(match oS (l.drop 8)with|some o=>if eC e.ch o=l then some o else none|none=>none):=by unfold jj;grind
 cases hg:oS (l.drop 8)with
 |none=>
  have er:jj e l=none:=aeL;simp only[go_sem,J9,hg,opA,opC,ru,aq,Option.getD,Option.isSome];intro i2 h2;have n2:=aB h2;have n21:=aH h2;simp only[go_sem,ak,n21,n21.symm,n1,n1.symm];generalize hH:upd (upd h i1 _) i2 _=H;have k1:H i1=some (.obj (opC ru) 46):=af4;have k2:H i2=some (.obj (opC ru) 46):=agZ;have kx:H x=some (lM jid e yl):=by rw[←hH,ag _ _ (fun e2=>aeL),ag _ _ (Ne.symm n1)];omega
  have hsub:Ab.Sub h H:=afs;clear hH g;unfold lM at kx;rw[es]at kx;simp only[List.cons_append,List.nil_append]at kx;unfold opC ru aq at k1;refine .quiet aeN ?_;simp only[go_sem];simp only[go_sem,k1,ah];exact akl
 |some o=>
  obtain⟨hf,hp⟩:=get_some hg;have h64:=Iw aeL hg;have er1:jj e l=if eC e.ch o=l then some o else none:=aeL
  simp only[go_sem,J9,hg,opA,opC,Option.getD,Option.isSome];intro i2 h2;have n2:=aB h2;have n21:=aH h2;simp only[go_sem,ak,n21,n21.symm,n1,n1.symm];generalize hH:upd (upd h i1 _) i2 _=H;have k1:H i1=some (.obj (opC ru) 46):=af4;have k2:H i2=some (.obj (opC o) 46):=agZ;have kx:H x=some (lM jid e yl):=by rw[←hH,ag _ _ (fun e2=>aeL),ag _ _ (Ne.symm n1)];omega
  have hsub:Ab.Sub h H:=afs;clear hH g;unfold lM at kx;rw[es]at kx;simp only[List.cons_append,List.nil_append]at kx;unfold opC ru aq at k1;unfold opC at k2;refine .quiet aeN ?_;simp only[go_sem,kx,k2];refine⟨_,Hl e.ch o h64 (f_l (oA hf)) aeL _,?_⟩;simp only[go_sem];refine⟨_,Dr (eC e.ch o) l _ _ _,?_⟩;cases dp:decide (eC e.ch o=l)
  ·have er:jj e l=none:=by grind
   simp only[go_sem,k1,ah];exact akl
  ·have er:jj e l=some o:=by grind
   simp only[go_sem,k1,k2,ah];exact akl
def ldA(d:pn):AV:=.agg (tO d)
def nK(h:Heap)(y:AV)(ds:List pn)(sp:List Nat):Prop:=(y= .sl [] .full∧ds= []∧sp= [])∨∃k,y= .sl (ds.map ldA) (.own k)∧h k=some (.spare ds.length 16)∧sp= [k]
theorem uD:(U 55).sz=16:=aeZ
theorem nK.row(hg:nK h y ds sp):∃q,y= .sl (ds.map ldA) q:=by rcases hg with⟨rfl,rfl,_⟩|⟨k,rfl,_⟩<;>exact⟨_,rfl⟩
theorem nK.touch(hg:nK h y ds sp)(ht:Touch S h h')(hn:∀i∈sp,i∉S):nK h' y ds sp:=by
 rcases hg with⟨rfl,rfl,rfl⟩|⟨k,rfl,k1,rfl⟩
 ·exact .inl ⟨rfl,rfl,rfl⟩
 ·exact .inr ⟨k,rfl,ht _ _ (hn k aeR) k1,rfl⟩
theorem nK.has(hg:nK h y ds sp):∀i∈sp,∃n,h i=some (.spare n 16):=by
 rcases hg with⟨rfl,rfl,rfl⟩|⟨k,rfl,k1,rfl⟩
 ·simp
 grind
theorem y8(ds:List pn):Sized 16 (ds.map ldA):=fun z hz=>by obtain⟨d,_,rfl⟩:=List.mem_map.1 hz;rfl
theorem uDb:∃n,(U 55).bytes=n∧n≠0∧n≤1000:=⟨_,rfl,aeO,aeO⟩
theorem nK.app{d:pn}{q:Perm}(hg:nK h y ds sp)(hl:ds.length≤1000000)
  (hk:∀y' h' sp',nK h' y' (ds++ [d]) sp'→Touch sp h h'→(∀i∈sp',i∈sp∨h i=none)→Q y' h'):apK U h y (.sl [ldA d] q) Q (.slice 55):=by
 obtain⟨n,hb,hb0,hb1⟩:=uDb;have hm:(ds.length+1)*n≤140737488355328:=by
  have:=Nat.mul_le_mul (show ds.length+1≤1000001 by omega) hb1
  omega
 have s2:Sized 16 [ldA d]:=y8 [d];rcases hg with⟨rfl,rfl,rfl⟩|⟨k,rfl,k1,rfl⟩
 ·refine(qF ..).mpr ⟨aeO,aeK,?_⟩
  refine⟨by simp[Sized],by grind [uD],aeL,And.intro (fun hn=>by cases hn) (fun hn=>oL.own fun id hid=>?_)⟩
  rw[uD];exact hk _ _ [id] (.inr ⟨id,rfl,aiR,rfl⟩) (.of ((Ab.Sub.refl h).new hid _)) aeL
 ·refine(Ck ..).mpr ⟨aeO,aeK,?_⟩
  refine⟨by grind [uD,y8],by grind [uD],aeL,by grind [uD],?_⟩
  rw[uD];exact hk _ _ [k] (.inr ⟨k,aeR,aiR,rfl⟩) .upd aeR
theorem Ix(e:cm)(s:an)(d:pn)(p:Txt)(q:Perm)(jid x:Nat)(yl:AV)(sp:List Nat)(h:Heap)(hx:h x=some (lM jid e yl))(hg:nK h yl e.log sp)(hl:e.log.length≤1000000)(hp:p.length≤1000000):
  ai prog 59 [.ptr x 0,bY s,.agg (tO d),.sl (p.map aK) q] h fun r h' =>r= .tup []∧∃yl' sp',h' x=some (lM jid {e with s:=s,log:=e.log++ [d],ch:=vh e.ch p} yl')∧nK h' yl' (e.log++ [d]) sp'∧Touch (x::sp) h h'∧(∀i∈sp',i∈sp∨h i=none):=by
 obtain⟨a1,a2,a3,a4,a5,a6,a7,es⟩:=bT e.s;obtain⟨b1,b2,b3,b4,b5,b6,b7,es2⟩:=bT s;have g:=hx;unfold lM at g;rw[es]at g;simp only[List.cons_append,List.nil_append]at g;rw[show bY s= .agg (cL s)from rfl,es2]
 refine ai.of_wp hU func59 rfl aeZ 31 rfl [] rfl (aez rfl) ?_;refine .one hU hm ?_;simp only[go_sem];intro i1 h1;simp only[go_sem,tO,opC];intro i2 h2;have n2:=aB h2;have n21:=aH h2;have x1:i1≠x:=fun e=>ahF
 have x2:i2≠x:=fun e=>ahG
 generalize hH:upd (upd h i1 _) i2 _=H;have k1:H i1=some (.obj [.i s.tick,fM s.cases,jV s.reviews,kE s.notices,dW s.roles,b1,b2,b3,b4,b5,b6,b7,.i s.version] 40):=by rw[←hH,ag _ _ (Ne.symm n21),ah]
 have k2:H i2=some (.obj [.i d.op.kind,.s d.op.subj,.s d.op.case,.s d.op.field,.s d.op.to,.i d.op.val.kind,.i d.op.val.n,.s d.op.val.s,.i d.op.review,.s d.op.text,.s d.op.reason,.b d.op.glass,.i d.version,aO d.mark,.b d.glass,ay d.obls] 55):=by rw[←hH,ah]
 have kx:H x=_:=(by rw[←hH,ag _ _ (Ne.symm x2),ag _ _ (Ne.symm x1)]:H x=h x).trans g
 have hsub:Ab.Sub h H:=afs;clear hH g;simp only[go_sem];refine .one hU hm ?_;simp only[go_sem,kx,k1];generalize hK:upd H x _=K;have kx2:K x=some (.obj [.ptr jid 0,.i s.tick,fM s.cases,jV s.reviews,kE s.notices,dW s.roles,b1,b2,b3,b4,b5,b6,b7,.i s.version,yl,.v (.int .u64 (e.ch.toNat:Int))] 126):=by rw[←hK,ah]
 have k22:K i2=_:=(by rw[←hK,ag _ _ x2]:K i2=H i2).trans k2
 have hT:Touch [x] H K:=by rw[←hK];exact .upd
 clear hK
 show WP _ _ _ _ _ _
 refine .one hU hm ?_;simp only[go_sem];refine .last (hm2 x (.obj [.ptr jid 0,.i s.tick,fM s.cases,jV s.reviews,kE s.notices,dW s.roles,b1,b2,b3,b4,b5,b6,b7,.i s.version,yl,.v (.int .u64 (e.ch.toNat:Int))] 126) i2 (.obj [.i d.op.kind,.s d.op.subj,.s d.op.case,.s d.op.field,.s d.op.to,.i d.op.val.kind,.i d.op.val.n,.s d.op.val.s,.i d.op.review,.s d.op.text,.s d.op.reason,.b d.op.glass,.i d.version,aO d.mark,.b d.glass,ay d.obls] 55)) [0,1,2,3,4,5,6,7,8,9] (.hm2 kx2 k22) aeN rfl aeN rfl ?_;simp only[go_sem,kx2,k22,rV _ _ (Ne.symm x2),rW];have hno:∀i∈sp,i≠x∧i≠i1∧i≠i2:=fun i hi=>by obtain⟨n,hn⟩:=hg.has i hi;exact⟨fun e=>(by rw[e,hx]at hn;cases hn),fun e=>aeL,fun e=>aeL⟩
 have hgK:nK K yl e.log sp:=(hg.touch (S:=[]) (.of hsub) aeR).touch hT aeL;refine hgK.app hl fun z G sp' hg4 ht4 hsp' =>?_
 have kx3:=ht4 _ _ aeL kx2;have k23:=ht4 _ _ aeL k22;have xG:∀i∈sp',i≠x:=fun i hi e2=>by obtain⟨n,hn⟩:=hg4.has i hi;rw[e2,kx3]at hn;cases hn
 refine⟨.hm2 kx3 k23,?_⟩;have hrow:=hg4.row;obtain⟨qz,ez⟩:=hrow;subst ez;simp only[go_sem,kx3];refine .vc hU hm ?_;simp only[go_sem,ah];refine(Mf e.ch _ p _ (.sl _ _) hp).pthen ?_;simp only[go_sem,ah,eD];have hF:Touch [x] G (upd G x (some (.obj [.ptr jid 0,.i s.tick,fM s.cases,jV s.reviews,kE s.notices,dW s.roles,b1,b2,b3,b4,b5,b6,b7,.i s.version,(.sl ((e.log++ [d]).map ldA) qz),.v (.int .u64 ((vh e.ch p).toNat:Int))] 126))):=.upd;refine .same (.refl _) ⟨rfl,_,sp',?_,hg4.touch hF aeL,?_,fun i hi=>?_⟩
 ·simp_all [lM,ah]
 ·exact((((Touch.of (S:=[]) hsub).trans hT).trans ht4).trans hF).mono aeL
 ·rcases hsp' i hi with h3|h3
  ·grind
  ·right
   have:K i=none:=h3;cases hh:h i with
   |none=>rfl
   |some b=>have hxi:i≠x:=xG i hi;have:=hT _ _ aeL (hsub _ _ hh);rw[h3]at this;cases this
def jr(h:Heap)(x jid did:Nat)(e:cm)(spl spj:List Nat):Prop:=
 ∃yl,h x=some (lM jid e yl)∧nK h yl e.log spl∧JAt h 211 jid did e.ps e.down spj
theorem Dv(x jid did:Nat)(e:cm)(spl spj:List Nat)(h:Heap)(he:jr h x jid did e spl spj):ai prog 27 [.ptr x 0] h fun r h' =>r= .v (.int .u64 (e.ch.toNat:Int))∧h' =h:=by
 obtain⟨yl,hx,hg,hj⟩:=he;obtain⟨a1,a2,a3,a4,a5,a6,a7,es⟩:=bT e.s;have g:=hx;unfold lM at g;rw[es]at g;refine aeJ func27 7 [.tmp 2] fun hwf=>?_
 simp only[go_sem,g];exact aeV
theorem DM(x jid did:Nat)(e:cm)(spl spj:List Nat)(h:Heap)(he:jr h x jid did e spl spj)(hl:e.ps.length≤1000000)(hp:∀p∈e.ps,p.length≤1000000):ai prog 30 [.ptr x 0] h fun r h' =>∃q,r= .sl (e.ps.map lq) q∧Ab.Sub h h' :=by
 obtain⟨yl,hx,hg,hj⟩:=he;have g:=hx;unfold lM at g;refine aeJ func30 8 [.tmp 2] fun hwf=>?_
 simp only[go_sem,g];refine(zK jid did e.ps e.down spj h hj hl hp).mono fun r h' ⟨q,e1,hs⟩=>?_
 subst e1;simp only[go_sem];exact .same (.refl _) ⟨q,rfl,hs⟩
theorem vm(x jid did:Nat)(e:cm)(spl spj:List Nat)(h:Heap)(he:jr h x jid did e spl spj):ai prog 17 [.ptr x 0] h fun r h' =>r=bY e.s∧h' =h:=by
 obtain⟨yl,hx,hg,hj⟩:=he;obtain⟨a1,a2,a3,a4,a5,a6,a7,es⟩:=bT e.s;have g:=hx;unfold lM at g;rw[es]at g;refine aeJ func17 7 [.cell 2 40] fun hwf=>?_
 simp only[go_sem];intro i1 h1;have n1:i1≠x:=fun e=>aeL
 simp only[go_sem,ak,Ne.symm n1,n1,g,ah];refine .mk _ (.refl _) ((Sub.refl h).put h1 _) ⟨?_,rfl⟩;rw[show bY e.s= .agg (cL e.s)from rfl,es]
 rfl
theorem Pn(x jid did:Nat)(e:cm)(spl spj:List Nat)(o:OpD)(h:Heap)(he:jr h x jid did e spl spj)(hd:e.down=true):ai prog 22 [.ptr x 0,opA o] h fun r h' =>r= .agg (lp (DN 9))∧h' =h:=by
 obtain⟨yl,hx,hg,hj⟩:=he;have g:=hx;unfold lM at g;refine aeJ func22 53 [.cell 4 53] fun hwf=>?_
 simp only[go_sem,opA,opC];intro i1 h1;have x1:i1≠x:=fun e=>aeL
 simp only[go_sem];intro i2 h2;have n2:=aB h2;have x2:i2≠x:=fun e=>aeL
 generalize hH:upd (upd h i1 _) i2 _=H;have kx:H x=_:=(by rw[←hH,ag _ _ (Ne.symm x2),ag _ _ (Ne.symm x1)]:H x=h x).trans g
 have k2:H i2=some (.obj og 53):=agZ;have hsub:Ab.Sub h H:=afs;unfold og at k2;simp only[go_sem,kx];refine(xK jid did e.ps e.down spj H (hj.sub hsub)).pthen ?_;rw[hd];simp only[go_sem,k2,ah];refine .mk _ (.refl _) (hsub.put n2 _) ⟨?_,rfl⟩;rfl
theorem ni(s:an)(r:iG)(d:pn)(e:Int):kj (s,r,d,e)= .tup [bY s,.agg [.i r.err,.v (.complex .f64 (hbit r.mark.1) (hbit r.mark.2)),.b r.glass,.i r.val.kind,.i r.val.n,.s r.val.s,.b r.hidden,.i r.at_],.agg [.i d.op.kind,.s d.op.subj,.s d.op.case,.s d.op.field,.s d.op.to,.i d.op.val.kind,.i d.op.val.n,.s d.op.val.s,.i d.op.review,.s d.op.text,.s d.op.reason,.b d.op.glass,.i d.version,.v (.complex .f64 (hbit d.mark.1) (hbit d.mark.2)),.b d.glass,.sl (d.obls.map aY) .no],.i e]:=rfl
theorem SC(x jid did:Nat)(e:cm)(spl spj:List Nat)(o:OpD)(h:Heap)(he:jr h x jid did e spl spj)(hd:e.down=false)(hG:gH k e.s)(hk:k≤1000)(h64:oN o)(her:iB h)(hne:(aI e.s o).2.2.2≠0):ai prog 22 [.ptr x 0,opA o] h fun r h' =>r= .agg (lp (aI e.s o).2.1)∧h' =h:=by
 have hgd:=fun(G:Heap) (hG' :Ab.Sub h G)=>nh e.s hG hk o h64 G (her.sub hG')
 have he0:=he;obtain⟨yl,hx,hg,hj⟩:=he;obtain⟨a1,a2,a3,a4,a5,a6,a7,es⟩:=bT e.s;have g:=hx;unfold lM at g;rw[es]at g;simp only[List.cons_append,List.nil_append]at g;refine aeJ func22 53 [.cell 4 53] fun hwf=>?_
 simp only[go_sem,opA,opC];intro i1 h1;have x1:i1≠x:=fun e=>ahF
 simp only[go_sem];intro i2 h2;have n2:=aB h2;have x2:i2≠x:=fun e=>ahG
 have n21:=aH h2;generalize hH:upd (upd h i1 _) i2 _=H;have kx:H x=_:=(by rw[←hH,ag _ _ (Ne.symm x2),ag _ _ (Ne.symm x1)]:H x=h x).trans g
 have k2:H i2=some (.obj og 53):=agZ;have k1:H i1=some (.obj (opC o) 46):=af4;have hsub:Ab.Sub h H:=afs;clear hH g;unfold og at k2;simp only[go_sem,kx];refine(xK jid did e.ps e.down spj H (hj.sub hsub)).pthen ?_;rw[hd];generalize aI e.s o=gd at hgd hne⊢;obtain⟨S,R,D,E⟩:=gd;simp only at hne⊢;obtain⟨b1,b2,b3,b4,b5,b6,b7,es2⟩:=bT S;rw[ni,show bY e.s= .agg (cL e.s)from rfl,es,show bY S= .agg (cL S)from rfl,es2]at hgd
 simp only[opA,opC]at hgd;unfold opC at k1;simp only[go_sem];refine .tree _ (.quiet [0,1,2,3,4] 5 (.news [6,7,8,9,10] [11,12,13] (.seq [14,15,16,17]))) (.refl _) aeN rfl ?_;simp only[go_sem,kx,k1];refine⟨_,fun G hs=>hgd G (hsub.trans hs),?_⟩
 simp only[go_sem];refine⟨.refl _,aeR,?_⟩;intro jd hjd je hje jf hjf;have ned:=aH hje;have kje:=aB hje;have nfe:=aH hjf;have nfd:=aH (aB hjf);have kjf:=aB (aB hjf);simp only[go_sem,ak,ned,ned.symm,nfe,nfe.symm,nfd,nfd.symm];refine⟨aeY,aeY,aeY,?_⟩;have mjd:=hsub.none hjd;have mje:=hsub.none kje;have mjf:=hsub.none kjf;have j2:jd≠i2:=fun e=>aio
 have j2e:je≠i2:=fun e=>aip
 have j2f:jf≠i2:=fun e=>aiq
 have dE:(E==0)=false:=beq_eq_false_iff_ne.mpr hne;have dE2:(E !=0)=true:=bne_iff_ne.mpr hne;simp only[go_sem,ak,dE,dE2,ned,ned.symm,nfe,nfe.symm,nfd,nfd.symm,j2,j2.symm,j2e,j2e.symm,j2f,j2f.symm,k2];refine .mk _ (.refl _) ?_ ⟨rfl,rfl⟩
 repeat (first|exact hsub|refine Ab.Sub.put ?_ ae0 _)
theorem DF{U:TypeId→TI}{l:List Oper}{K:Exit→Env→Heap→Prop}(hh:∀H2,H2=h→nJ P U n l ρ H2 K):nJ P U n l ρ h K:=hh h rfl
theorem bC.upd{id i:Nat}{t:TypeId}{b:Option Blk}(hd:bC h id d)(hi:h i=some (.obj cs t))(h1:t≠121)(h2:t≠5):bC (Ab.upd h i b) id d:=by
 obtain⟨y,hy,hb⟩:=hd;refine⟨y,?_,?_⟩
 ·grind [ag,Option.some.inj]
 ·rcases hb with hb|⟨j,off,cs2,rfl,a1,a2,a3⟩
  ·exact aiB
  ·refine .oa ?_ a2 a3
   grind [ag,Option.some.inj]
theorem SE(x jid did:Nat)(e:cm)(d:D)(spl spj:List Nat)(o:OpD)(h:Heap)(he:jr h x jid did e spl spj)(hdk:bC h did d)(hdo:d.ok)(hps:e.ps.length≤1000000)(hlg:e.log.length≤1000000)(hd:e.down=false)(hG:gH k e.s)(hk:k≤1000)(h64:oN o)(her:iB h)(hne:(aI e.s o).2.2.2=0)(hcode:(jadd d e.ps false (eC e.ch o)).2≠0):
  ai prog 22 [.ptr x 0,opA o] h fun r h' =>r= .agg (lp (doE e d o).2.2)∧∃spl' spj',jr h' x jid did (doE e d o).1 spl' spj'∧bC h' did (doE e d o).2.1∧Touch (x::did::jid::(spl++spj)) h h'∧(∀i∈spl',i∈spl∨h i=none)∧(∀i∈spj',i∈spj∨h i=none):=by
 have hF:=oA (jE hne);have hrl:=uK (h:=e.ch) hF;have hpl:=CT hF;have edo:doE e d o=(let a:=jadd d e.ps false (eC e.ch o);if a.2=0 then({nR e (aI e.s o) (eC e.ch o)with ps:=a.1.2.1,down:=a.1.2.2},a.1.1,(aI e.s o).2.1)else({e with ps:=a.1.2.1,down:=a.1.2.2},a.1.1,DN (a.2:Int))):=by exact akz
 have hgd:=fun(G:Heap) (hG' :Ab.Sub h G)=>nh e.s hG hk o h64 G (her.sub hG')
 have he0:=he;obtain⟨yl,hx,hg,hj⟩:=he;obtain⟨a1,a2,a3,a4,a5,a6,a7,es⟩:=bT e.s;have g:=hx;unfold lM at g;rw[es]at g;simp only[List.cons_append,List.nil_append]at g;refine aeJ func22 53 [.cell 4 53] fun hwf=>?_
 simp only[go_sem,opA,opC];intro i1 h1;have x1:i1≠x:=fun e=>ahF
 simp only[go_sem];intro i2 h2;have n2:=aB h2;have x2:i2≠x:=fun e=>ahG
 have n21:=aH h2;generalize hH:upd (upd h i1 _) i2 _=H;have kx:H x=_:=(by rw[←hH,ag _ _ (Ne.symm x2),ag _ _ (Ne.symm x1)]:H x=h x).trans g
 have k2:H i2=some (.obj og 53):=agZ;have k1:H i1=some (.obj (opC o) 46):=af4;have hsub:Ab.Sub h H:=afs;clear hH g;unfold og at k2;simp only[go_sem,kx];refine(xK jid did e.ps e.down spj H (hj.sub hsub)).pthen ?_;rw[hd];generalize aI e.s o=gd at hgd hne edo⊢;obtain⟨S,R,D,E⟩:=gd;simp only at hne edo⊢;subst hne;obtain⟨b1,b2,b3,b4,b5,b6,b7,es2⟩:=bT S;rw[ni,show bY e.s= .agg (cL e.s)from rfl,es,show bY S= .agg (cL S)from rfl,es2]at hgd
 simp only[opA,opC]at hgd;unfold opC at k1;simp only[go_sem];refine .tree _ (.quiet [0,1,2,3,4] 5 (.news [6,7,8,9,10] [11,12,13] (.seq [14,15,16,17]))) (.refl _) aeN rfl ?_;simp only[go_sem,kx,k1];refine⟨_,fun G hs=>hgd G (hsub.trans hs),?_⟩
 simp only[go_sem];refine⟨.refl _,aeR,?_⟩;intro jd hjd je hje jf hjf;have ned:=aH hje;have kje:=aB hje;have nfe:=aH hjf;have nfd:=aH (aB hjf);have kjf:=aB (aB hjf);simp only[go_sem,ak,ned,ned.symm,nfe,nfe.symm,nfd,nfd.symm];refine⟨aeY,aeY,aeY,?_⟩;have mjd:=hsub.none hjd;have mje:=hsub.none kje;have mjf:=hsub.none kjf;have j2:jd≠i2:=fun e=>aio
 have j2e:je≠i2:=fun e=>aip
 have j2f:jf≠i2:=fun e=>aiq
 refine DF fun H2 w2=>?_
 have xjd:jd≠x:=fun e=>ais
 have xje:je≠x:=fun e=>ait
 have xjf:jf≠x:=fun e=>aiu
 have y1:jd≠i1:=fun e=>by rw[e,k1]at hjd;cases hjd
 have y2:je≠i1:=fun e=>by rw[e,k1]at kje;cases kje
 have y3:jf≠i1:=fun e=>by rw[e,k1]at kjf;cases kjf
 have hs2:Ab.Sub h H2:=agJ;have fx:H2 x=_:=(by rw[w2];simp only[ak,xjd,xjd.symm,xje,xje.symm,xjf,xjf.symm,ne_eq,not_false_eq_true]:H2 x=H x).trans kx
 have f1:H2 i1=_:=(by rw[w2];simp only[ak,y1,y1.symm,y2,y2.symm,y3,y3.symm,ne_eq,not_false_eq_true]:H2 i1=H i1).trans k1
 have f2:H2 i2=_:=(by rw[w2];simp only[ak,j2,j2.symm,j2e,j2e.symm,j2f,j2f.symm,ne_eq,not_false_eq_true]:H2 i2=H i2).trans k2
 have fd:H2 jd=some (.obj [.i S.tick,fM S.cases,jV S.reviews,kE S.notices,dW S.roles,b1,b2,b3,b4,b5,b6,b7,.i S.version] 40):=ae6;have fe:H2 je=some (.obj [.i R.err,.v (.complex .f64 (hbit R.mark.1) (hbit R.mark.2)),.b R.glass,.i R.val.kind,.i R.val.n,.s R.val.s,.b R.hidden,.i R.at_] 53):=ae6;have ff:H2 jf=some (.obj (tO D) 55):=afG;clear w2;refine .quiet aeN ?_;simp only[go_sem,fx,f1];refine⟨_,Hl e.ch o h64 (f_l hF) aeK _,?_⟩;simp only[go_sem,fx];refine(IE d hdo did jid e.ps e.down spj H2 _ (eC e.ch o) (hdk.keep hs2.fJ) (hj.sub hs2) (.sl _ _) aeK hps).mono fun r H3 ⟨er,spj',hd3,hj3,hT3,hs3⟩=>?_
 subst er;have hin:∀q∈did::jid::spj,∃b,h q=some b∧∀cs,b≠ .obj cs 126:=fun q hq=>by exact ajs
 have out:∀q,h q=none→q∉did::jid::spj:=fun q hq hi=>by obtain⟨b,hb,_⟩:=hin q hi;rw[hq]at hb;cases hb
 have outx:x∉did::jid::spj:=fun hi=>by exact akF
 have fx3:=hT3 _ _ outx fx;have f23:=hT3 _ _ (out i2 n2) f2;have fd3:=hT3 _ _ (out jd mjd) fd;have fe3:=hT3 _ _ (out je mje) fe;have ff3:=hT3 _ _ (out jf mjf) ff;rw[hd]at hd3 hj3⊢;generalize jadd d e.ps false (eC e.ch o)=a at hd3 hj3 edo hcode⊢;obtain⟨⟨d2,ps2,dn2⟩,code⟩:=a;simp only at hd3 hj3 edo hcode⊢;cases dc:((code:Int)==0)
 ·have hc:code≠0:=fun e2=>by subst e2;cases dc
  have dc2:((code:Int) !=0)=true:=by rw[bne,dc];rfl
  rw[if_neg hc]at edo;simp only[go_sem,dc2,f23,ah];have hsp:∀i∈spl,i∉did::jid::spj:=fun i hi hq=>by exact ajq
  have hg3:=(hg.touch (S:=[]) (.of hs2) (fun i hi hh=>agd)).touch hT3 hsp
  have hnl:∀i∈spl,i∉ [i2]:=fun i hi hh=>by obtain⟨n,hn⟩:=hg.has i hi;rw[List.mem_singleton.1 hh,n2]at hn;cases hn
  have hF4:∀b,Touch [i2] H3 (upd H3 i2 b):=fun b=> .upd
  have hj3' :=hj3;obtain⟨z,zs,hz1,hz2,_⟩:=hj3';refine .same (.refl _) ⟨by rw[edo];rfl,spl,spj',?_,?_,?_,fun i hi=> .inl hi,fun i hi=>?_⟩
  ·rw[edo]
   refine⟨yl,?_,hg3.touch (hF4 _) hnl,hj3.touch (hF4 _) ?_ ?_⟩
   ·rw[ag _ _ (Ne.symm x2),fx3]
    unfold lM;rw[es];rfl
   ·intro hh
    rw[List.mem_singleton.1 hh,f23]at hz1;cases hz1
   ·intro i hi hh
    obtain⟨n,hn⟩:=hz2.has i hi;rw[List.mem_singleton.1 hh,f23]at hn;cases hn
  ·rw[edo]
   exact hd3.upd f23 aeO aeO
  ·exact(((Touch.of (S:=[]) hs2).trans hT3).trans (hF4 _)).mono (fun i hi=>by
    simp only[List.nil_append,List.mem_append,List.mem_cons,List.mem_singleton,List.not_mem_nil,or_false]at hi;rcases hi with(h3|h3|h3)|h3
    ·left;simp[h3]
    ·left;simp[h3]
    ·left;simp[h3]
    ·right;rw[h3];exact n2)
  ·rcases hs3 i hi with h3|h3
   ·exact .inl h3
   ·right;exact hs2.none h3
 ·exact absurd (eq_of_beq dc) aeK
theorem bC.touch{id:Nat}(hd:bC h id d)(ht:Touch S h h')(hS:∀i∈S,∀cs,h i≠some (.obj cs 121)∧h i≠some (.obj cs 5)):bC h' id d:=by
 obtain⟨y,hy,hb⟩:=hd;refine⟨y,ht _ _ aeL hy,?_⟩;rcases hb with hb|⟨j,off,cs2,rfl,a1,a2,a3⟩
 ·exact aiB
 ·exact .oa (ht _ _ aeL a1) a2 a3
theorem SD(x jid did:Nat)(e:cm)(d:D)(spl spj:List Nat)(o:OpD)(h:Heap)(he:jr h x jid did e spl spj)(hdk:bC h did d)(hdo:d.ok)(hps:e.ps.length≤1000000)(hlg:e.log.length≤1000000)(hd:e.down=false)(hG:gH k e.s)(hk:k≤1000)(h64:oN o)(her:iB h)(hne:(aI e.s o).2.2.2=0)(hcode:(jadd d e.ps false (eC e.ch o)).2=0):
  ai prog 22 [.ptr x 0,opA o] h fun r h' =>r= .agg (lp (doE e d o).2.2)∧∃spl' spj',jr h' x jid did (doE e d o).1 spl' spj'∧bC h' did (doE e d o).2.1∧Touch (x::did::jid::(spl++spj)) h h'∧(∀i∈spl',i∈spl∨i∈spj∨h i=none)∧(∀i∈spj',i∈spj∨h i=none):=by
 have hF:=oA (jE hne);have hrl:=uK (h:=e.ch) hF;have hpl:=CT hF;have edo:doE e d o=(let a:=jadd d e.ps false (eC e.ch o);if a.2=0 then({nR e (aI e.s o) (eC e.ch o)with ps:=a.1.2.1,down:=a.1.2.2},a.1.1,(aI e.s o).2.1)else({e with ps:=a.1.2.1,down:=a.1.2.2},a.1.1,DN (a.2:Int))):=by exact akz
 have hgd:=fun(G:Heap) (hG' :Ab.Sub h G)=>nh e.s hG hk o h64 G (her.sub hG')
 have he0:=he;obtain⟨yl,hx,hg,hj⟩:=he;obtain⟨a1,a2,a3,a4,a5,a6,a7,es⟩:=bT e.s;have g:=hx;unfold lM at g;rw[es]at g;simp only[List.cons_append,List.nil_append]at g;refine aeJ func22 53 [.cell 4 53] fun hwf=>?_
 simp only[go_sem,opA,opC];intro i1 h1;have x1:i1≠x:=fun e=>ahF
 simp only[go_sem];intro i2 h2;have n2:=aB h2;have x2:i2≠x:=fun e=>ahG
 have n21:=aH h2;generalize hH:upd (upd h i1 _) i2 _=H;have kx:H x=_:=(by rw[←hH,ag _ _ (Ne.symm x2),ag _ _ (Ne.symm x1)]:H x=h x).trans g
 have k2:H i2=some (.obj og 53):=agZ;have k1:H i1=some (.obj (opC o) 46):=af4;have hsub:Ab.Sub h H:=afs;clear hH g;unfold og at k2;simp only[go_sem,kx];refine(xK jid did e.ps e.down spj H (hj.sub hsub)).pthen ?_;rw[hd];generalize aI e.s o=gd at hgd hne edo⊢;obtain⟨S,R,D,E⟩:=gd;simp only at hne edo⊢;subst hne;obtain⟨b1,b2,b3,b4,b5,b6,b7,es2⟩:=bT S;rw[ni,show bY e.s= .agg (cL e.s)from rfl,es,show bY S= .agg (cL S)from rfl,es2]at hgd
 simp only[opA,opC]at hgd;unfold opC at k1;simp only[go_sem];refine .tree _ (.quiet [0,1,2,3,4] 5 (.news [6,7,8,9,10] [11,12,13] (.seq [14,15,16,17]))) (.refl _) aeN rfl ?_;simp only[go_sem,kx,k1];refine⟨_,fun G hs=>hgd G (hsub.trans hs),?_⟩
 simp only[go_sem];refine⟨.refl _,aeR,?_⟩;intro jd hjd je hje jf hjf;have ned:=aH hje;have kje:=aB hje;have nfe:=aH hjf;have nfd:=aH (aB hjf);have kjf:=aB (aB hjf);simp only[go_sem,ak,ned,ned.symm,nfe,nfe.symm,nfd,nfd.symm];refine⟨aeY,aeY,aeY,?_⟩;have mjd:=hsub.none hjd;have mje:=hsub.none kje;have mjf:=hsub.none kjf;have j2:jd≠i2:=fun e=>aio
 have j2e:je≠i2:=fun e=>aip
 have j2f:jf≠i2:=fun e=>aiq
 refine DF fun H2 w2=>?_
 have xjd:jd≠x:=fun e=>ais
 have xje:je≠x:=fun e=>ait
 have xjf:jf≠x:=fun e=>aiu
 have y1:jd≠i1:=fun e=>by rw[e,k1]at hjd;cases hjd
 have y2:je≠i1:=fun e=>by rw[e,k1]at kje;cases kje
 have y3:jf≠i1:=fun e=>by rw[e,k1]at kjf;cases kjf
 have hs2:Ab.Sub h H2:=agJ;have fx:H2 x=_:=(by rw[w2];simp only[ak,xjd,xjd.symm,xje,xje.symm,xjf,xjf.symm,ne_eq,not_false_eq_true]:H2 x=H x).trans kx
 have f1:H2 i1=_:=(by rw[w2];simp only[ak,y1,y1.symm,y2,y2.symm,y3,y3.symm,ne_eq,not_false_eq_true]:H2 i1=H i1).trans k1
 have f2:H2 i2=_:=(by rw[w2];simp only[ak,j2,j2.symm,j2e,j2e.symm,j2f,j2f.symm,ne_eq,not_false_eq_true]:H2 i2=H i2).trans k2
 have fd:H2 jd=some (.obj [.i S.tick,fM S.cases,jV S.reviews,kE S.notices,dW S.roles,b1,b2,b3,b4,b5,b6,b7,.i S.version] 40):=ae6;have fe:H2 je=some (.obj [.i R.err,.v (.complex .f64 (hbit R.mark.1) (hbit R.mark.2)),.b R.glass,.i R.val.kind,.i R.val.n,.s R.val.s,.b R.hidden,.i R.at_] 53):=ae6;have ff:H2 jf=some (.obj (tO D) 55):=afG;clear w2;refine .quiet aeN ?_;simp only[go_sem,fx,f1];refine⟨_,Hl e.ch o h64 (f_l hF) aeK _,?_⟩;simp only[go_sem,fx];refine(IE d hdo did jid e.ps e.down spj H2 _ (eC e.ch o) (hdk.keep hs2.fJ) (hj.sub hs2) (.sl _ _) aeK hps).mono fun r H3 ⟨er,spj',hd3,hj3,hT3,hs3⟩=>?_
 subst er;have hin:∀q∈did::jid::spj,∃b,h q=some b∧∀cs,b≠ .obj cs 126:=fun q hq=>by exact ajs
 have out:∀q,h q=none→q∉did::jid::spj:=fun q hq hi=>by obtain⟨b,hb,_⟩:=hin q hi;rw[hq]at hb;cases hb
 have outx:x∉did::jid::spj:=fun hi=>by exact akF
 have fx3:=hT3 _ _ outx fx;have f23:=hT3 _ _ (out i2 n2) f2;have fd3:=hT3 _ _ (out jd mjd) fd;have fe3:=hT3 _ _ (out je mje) fe;have ff3:=hT3 _ _ (out jf mjf) ff;rw[hd]at hd3 hj3⊢;generalize jadd d e.ps false (eC e.ch o)=a at hd3 hj3 edo hcode⊢;obtain⟨⟨d2,ps2,dn2⟩,code⟩:=a;simp only at hd3 hj3 edo hcode⊢;subst hcode;rw[if_pos rfl]at edo;simp only[tO,opC,List.cons_append,List.nil_append]at ff3;have hsp:∀i∈spl,i∉did::jid::spj:=fun i hi hq=>by exact ajq
 have hg3:=(hg.touch (S:=[]) (.of hs2) (fun i hi hh=>agd)).touch hT3 hsp
 have hx3:H3 x=some (lM jid e yl):=by rw[fx3];unfold lM;rw[es];rfl
 have hgo:=Ix e S D (eC e.ch o) .no jid x yl spl H3 hx3 hg3 hlg aeK;rw[show bY S= .agg (cL S)from rfl,es2]at hgo
 simp only[tO,opC,List.cons_append,List.nil_append]at hgo;simp only[go_sem,fd3,ff3];refine hgo.mono fun r H4 ⟨er,yl',spl',hx4,hg4,hT4,hs4⟩=>?_
 subst er;have hnl:∀q,h q=none→q∉x::spl:=fun q hq hh=>by
  rcases List.mem_cons.1 hh with rfl|hh
  ·rw[hx]at hq;cases hq
  ·obtain⟨n,hn⟩:=hg.has q hh
   rw[hn]at hq;cases hq
 have fe4:=hT4 _ _ (hnl je mje) fe3;have f24:=hT4 _ _ (hnl i2 n2) f23;simp only[go_sem,fe4,f24,ah];have hF4:∀b,Touch [i2] H4 (upd H4 i2 b):=fun b=> .upd
 have hj3' :=hj3;obtain⟨z,zs,hz1,hz2,_⟩:=hj3';have jx:jid∉x::spl:=fun hh=>by exact aj1
 have sx:∀i∈spj',i∉x::spl:=fun i hi hh=>by
  obtain⟨n,hn⟩:=hz2.has i hi;rcases List.mem_cons.1 hh with rfl|hh
  ·rw[hx3]at hn;cases hn
  ·obtain⟨n2,hn2⟩:=hg3.has i hh
   rw[hn2]at hn;cases hn
 have hj4:=hj3.touch hT4 jx sx;have hj4' :=hj4;obtain⟨z4,zs4,hz41,hz42,_⟩:=hj4';have hd4:=hd3.touch hT4 (fun i hi cs=>by
  rcases List.mem_cons.1 hi with rfl|hi
  ·rw[hx3];exact⟨fun hh=>agd,fun hh=>agd⟩
  ·obtain⟨n,hn⟩:=hg3.has i hi
   rw[hn];exact⟨fun hh=>agd,fun hh=>agd⟩)
 refine .same (.refl _) ⟨by rw[edo];rfl,spl',spj',?_,?_,?_,fun i hi=>?_,fun i hi=>?_⟩
 ·rw[edo]
  refine⟨yl',?_,hg4.touch (hF4 _) ?_,hj4.touch (hF4 _) ?_ ?_⟩
  ·rw[ag _ _ (Ne.symm x2),hx4]
   unfold lM;simp only[nR]
  ·intro i hi hh
   obtain⟨n,hn⟩:=hg4.has i hi;rw[List.mem_singleton.1 hh,f24]at hn;cases hn
  ·intro hh
   rw[List.mem_singleton.1 hh,f24]at hz41;cases hz41
  ·intro i hi hh
   obtain⟨n,hn⟩:=hz42.has i hi;rw[List.mem_singleton.1 hh,f24]at hn;cases hn
 ·rw[edo]
  exact hd4.upd f24 aeO aeO
 ·exact((((Touch.of (S:=[]) hs2).trans hT3).trans hT4).trans (hF4 _)).mono (fun i hi=>by
   simp only[List.nil_append,List.mem_append,List.mem_cons,List.mem_singleton,List.not_mem_nil,or_false]at hi;rcases hi with((h3|h3|h3)|(h3|h3))|h3
   ·left;simp[h3]
   ·left;simp[h3]
   ·left;simp[h3]
   ·left;simp[h3]
   ·left;simp[h3]
   ·right;rw[h3];exact n2)
 ·rcases hs4 i hi with h3|h3
  ·exact .inl h3
  ·right
   cases hh:h i with
   |none=>exact .inr rfl
   |some b=>
    left
    by_cases hm3:i∈did::jid::spj
    ·simp only[List.mem_cons]at hm3
     rcases hm3 with rfl|rfl|hm3
     ·obtain⟨w,hw,_⟩:=hd3
      rw[hw]at h3;cases h3
     ·rw[hz1]at h3;cases h3
     ·exact hm3
    ·have:=hT3 _ _ hm3 (hs2 _ _ hh)
     rw[h3]at this;cases this
 ·rcases hs3 i hi with h3|h3
  ·exact .inl h3
  ·right;exact hs2.none h3
theorem VM(x jid did:Nat)(e:cm)(d:D)(spl spj:List Nat)(o:OpD)(h:Heap)(he:jr h x jid did e spl spj)(hdk:bC h did d)(hdo:d.ok)(hps:e.ps.length≤1000000)(hlg:e.log.length≤1000000)(hG:gH k e.s)(hk:k≤1000)(h64:oN o)(her:iB h):
  ai prog 22 [.ptr x 0,opA o] h fun r h' =>r= .agg (lp (doE e d o).2.2)∧∃spl' spj',jr h' x jid did (doE e d o).1 spl' spj'∧bC h' did (doE e d o).2.1∧Touch (x::did::jid::(spl++spj)) h h'∧(∀i∈spl',i∈spl∨i∈spj∨h i=none)∧(∀i∈spj',i∈spj∨h i=none):=by
 have stay:∀R:iG,doE e d o=(e,d,R)→∀(r:AV) (h' :Heap),(r= .agg (lp R)∧h' =h)→r= .agg (lp (doE e d o).2.2)∧∃spl' spj',jr h' x jid did (doE e d o).1 spl' spj'∧bC h' did (doE e d o).2.1∧Touch (x::did::jid::(spl++spj)) h h'∧(∀i∈spl',i∈spl∨i∈spj∨h i=none)∧(∀i∈spj',i∈spj∨h i=none):=fun R ed r h' ⟨e1,e2⟩=>by subst e2;rw[ed];exact⟨e1,spl,spj,he,hdk,.refl _ _,fun i hi=> .inl hi,fun i hi=> .inl hi⟩
 cases hd:e.down
 case true=>exact(Pn x jid did e spl spj o h he hd).mono (stay _ (by simp_all [doE,if_pos]))
 by_cases hne:(aI e.s o).2.2.2=0
 case neg=>exact(SC x jid did e spl spj o h he hd hG hk h64 her hne).mono (stay _ (by simp_all [doE,if_neg,if_pos]))
 by_cases hcode:(jadd d e.ps false (eC e.ch o)).2=0
 ·exact SD x jid did e d spl spj o h he hdk hdo hps hlg hd hG hk h64 her hne hcode
 ·exact(SE x jid did e d spl spj o h he hdk hdo hps hlg hd hG hk h64 her hne hcode).mono fun r h' ⟨a,s1,s2,b,c,f,g,i⟩=>⟨a,s1,s2,b,c,f,fun q hq=>(g q hq).imp id .inr,i⟩
theorem Mk{U:TypeId→TI}{a b:Code}{K:Exit→Env→Heap→Prop}(hh:∀H2,H2=h→jq P U n a b ρ H2 K y):jq P U n a b ρ h K y:=hh h rfl
theorem iB.touch(he:iB h)(ht:Touch S h h')(hS:∀i∈S,∀b vs,h i≠some (.ro b vs)):iB h' :=by obtain⟨ev,hev,id,hi⟩:=he;exact⟨ev,hev,id,ht _ _ aeL hi⟩
theorem Gp{l:List Txt}{i:Nat}(hi:i<l.length)(h:lR e (l.take i)=some e1):lR e (l.take (i+1))=kL e1 l[i]:=by grind [List.take_succ_eq_append_getElem,sO]
theorem Gn{l:List Txt}{i:Nat}(h:lR e (l.take i)=none):lR e l=none:=by
 rw[←List.take_append_drop i l];generalize l.take i=a at h⊢
 induction a generalizing e with
 |nil=>cases h
 |cons p a ih=>
  simp only[List.cons_append,lR]at h⊢
  grind
theorem TM{e':cm}(h:kL e p=some e')(hG:gH k e.s):gH (k+1) e'.s:=by
 unfold kL at h;cases hr:jj e p with
 |none=>grind
 |some o=>
  rw[hr]at h;simp only at h;split at h
  ·cases h;exact qY o hG
  grind
theorem Qp(h:jj e p=some o)(hl:p.length≤1000000):oN o:=by grind [jj,Iw,List.length_drop]
def u9(h h' :Heap)(did:Nat)(ps:List Txt)(r:AV):Prop:=match vP ps with
 |none=>r= .tup [.v (.pointer none),.i 7]
 |some e=>∃x jid spl spj,r= .tup [.ptr x 0,.i 0]∧jr h' x jid did e spl spj∧(∀i∈x::jid::(spl++spj),h i=none)
theorem newL:cL sY= [.i 0,.sl [] .no,.sl [] .no,.sl [] .no,.sl [] .no,.s jU,.b false,.i 6,.sl [] .no,.sl [] .no,.sl [] .no,.sl [] .no,.i 0]:=rfl
theorem Od(d:D)(hdo:d.ok)(did:Nat)(h:Heap)(hdk:bC h did d)(her:iB h)(hps:(scan d.b).1.length≤900):
  ai prog 15 [.ptr did 0] h fun r h' =>bC h' did d.bW.1∧Keep did h h'∧if d.bW.2=0 then u9 h h' did (scan d.b).1 r else r= .tup [.v (.pointer none),.i (d.bW.2:Nat)]:=by
 have hlen:=(Qw d.b).2;refine aeJ func15 62 [.tmp 2,.tmp 3] fun hwf=>?_
 simp only[go_sem];refine(MV d hdo did h hdk).mono fun r h1 ⟨J,e1,hd1,kp1,hif⟩=>?_
 subst e1;have her1:iB h1:=her.touch (.keep kp1) (fun i hi b vs hh=>by obtain⟨y,hy,_⟩:=hdk;rw[List.mem_singleton.1 hi,hy]at hh;cases hh)
 generalize (scan d.b).1=ps at hps hlen hif⊢;generalize d.bW=od at hd1 hif⊢;obtain⟨d1,c1⟩:=od;simp only at hd1 hif⊢
 by_cases hc:c1=0
 case neg=>
  rw[if_neg hc]at hif;subst hif;have t1:(((c1:Nat):Int) !=0)=true:=by simp[hc]
  simp only[go_sem,t1];exact .same (.refl _) ⟨hd1,kp1,by rw[if_neg hc];rfl⟩
 subst hc;rw[if_pos rfl]at hif;obtain⟨jid,spj,rfl,hjn,hj,hsn⟩:=hif;simp only[go_sem];refine(Nn h1 her1).pthen ?_;rw[show bY sY= .agg (cL sY)from rfl,newL]
 simp only[go_sem];intro x hx;have hxh:h x=none:=by
  cases hh:h x with
  |none=>rfl
  |some k=>
   by_cases e:x=did
   ·subst e
    obtain⟨y,hy,_⟩:=hd1;rw[hy]at hx;cases hx
   ·rw[kp1 _ _ e hh]at hx;cases hx
 simp only[go_sem];refine inH fun H1 w1=>?_
 have hs1:Ab.Sub h1 H1:=by rw[w1];exact(Sub.refl h1).new hx _
 have hE1:jr H1 x jid did (jk ps) [] spj:=⟨_,by rw[w1,ah];rfl,.inl ⟨rfl,rfl,rfl⟩,hj.sub hs1⟩
 clear w1;have hK1:Keep did h H1:=kp1.trans (hs1.keep did);refine(zK jid did ps false spj H1 (hj.sub hs1) aeK (fun p hp=>by have:=hlen p hp;omega)).mono fun r h2 ⟨q,er,hs2⟩=>?_
 subst er;simp only[go_sem,aeA];refine .intro (fun m ρ H=>∃(i:Nat) (e:cm) (spl:List Nat),lR (jk ps) (ps.take i)=some e∧e.ps=ps∧e.down=false∧e.log.length=i∧gH i e.s∧jr H x jid did e spl spj∧bC H did d1∧Keep did h H∧(∀j∈spl,h j=none)∧i≤ps.length∧m=ps.length - i∧lk ρ 6=some (.ptr x 0)∧lk ρ 28=some (.sl (ps.map lq) q)∧lk ρ 29=some (.i ps.length)∧lk ρ 30=some (.i i)) (ps.length - 0) ?_ ?_
 ·obtain⟨yl,a,b,c⟩:=hE1
  refine⟨0,jk ps,[],rfl,rfl,rfl,rfl,sP,⟨yl,hs2 _ _ a,b.touch (S:=[]) (.of hs2) (fun i hi=>by cases hi),c.sub hs2⟩,(hd1.keep hs1.fJ).keep hs2.fJ,hK1.trans (hs2.keep did),fun j hj=>(by cases hj),aeK,rfl,?_,?_,?_,?_⟩<;>simp only[go_sem]
 rintro m ρ H ⟨i,e,spl,hf,hps2,hdn,hlg,hG,hE,hD,hK,hsl,hi,rfl,r6,r28,r29,r30⟩
 by_cases hlt:i<ps.length
 case neg=>
  have ei:i=ps.length:=aeK;have t1:decide ((i:Int)<(ps.length:Int))=false:=decide_eq_false aeK;rw[ei,List.take_length]at hf;simp only[go_sem,r6,r28,r29,r30,t1];refine .same (.refl _) ⟨hD,hK,?_⟩
  show u9 h H did ps (.tup [.ptr x 0,.i 0])
  unfold u9 vP;rw[hf];exact⟨x,jid,spl,spj,rfl,hE,fun j hj=>by
   simp only[List.mem_cons,List.mem_append]at hj;rcases hj with rfl|rfl|hj|hj
   ·exact hxh
   ·exact hjn
   ·exact hsl _ hj
   ·exact(hsn _ hj).1⟩
 have t1:decide ((i:Int)<(ps.length:Int))=true:=decide_eq_true aeK;have w3:=aeG i aeK;have ix:=fun k=>eu.eq (xs:=ps.map lq) (sz:=1) i afc aeU k
 have hf1:=Gp hlt hf;have hpl:=hlen _ (aeF hlt);rw[aeB]at ix;obtain⟨p,ep⟩:∃p,ps[i]=p:=⟨_,rfl⟩;rw[ep]at ix hf1 hpl;simp only[lq]at ix;have hEx:=hE;obtain⟨yl,hx2,hgl,hj2⟩:=hE;simp only[go_sem,r6,r28,r29,r30,t1,ix];refine(My p .no e yl jid x H aeK hx2).pthen ?_;unfold BO;have her2:iB H:=her.touch (.keep hK) (fun i hi b vs hh=>by obtain⟨y,hy,_⟩:=hdk;rw[List.mem_singleton.1 hi,hy]at hh;cases hh)
 have bad:∀H',Ab.Sub H H'→kL e p=none→bC H' did d1∧Keep did h H'∧u9 h H' did ps (.tup [.v (.pointer none),.i 7]):=fun H' hs hn=>by refine⟨hD.keep hs.fJ,hK.trans (hs.keep did),?_⟩;unfold u9 vP;rw[Gn (hf1.trans hn)]
 cases hr:jj e p with
 |none=>
  have hn:kL e p=none:=by unfold kL;rw[hr]
  simp only[go_sem,hr,opA,opC,ru,aq,Option.getD,Option.isSome];intro i9 h9;simp only[go_sem];exact .mk _ (.refl _) (.refl _) (bad _ ((Sub.refl H).new h9 _) hn)
 |some o=>
  have h64:=Qp hr aeK;have hst:kL e p=if(aI e.s o).2.2.2=0 then some (nR e (aI e.s o) p)else none:=by unfold kL;rw[hr]
  obtain⟨a1,a2,a3,a4,a5,a6,a7,es⟩:=bT e.s;have hgd:=fun(G:Heap) (hG' :Ab.Sub H G)=>nh e.s hG aeK o h64 G (her2.sub hG')
  have hG2:=qY o hG;have g:=hx2;unfold lM at g;rw[es]at g;simp only[List.cons_append,List.nil_append]at g;simp only[go_sem,hr,opA,opC,Option.getD,Option.isSome];intro i9 h9;have x9:i9≠x:=fun e=>by rw[e,hx2]at h9;cases h9
  simp only[go_sem];generalize hH:upd H i9 _=H1;have kx:H1 x=_:=(by rw[←hH,ag _ _ (Ne.symm x9)]:H1 x=H x).trans g
  have k9:H1 i9=some (.obj (opC o) 46):=agZ;have hsub:Ab.Sub H H1:=by rw[←hH];exact(Sub.refl H).new h9 _
  clear hH g;generalize aI e.s o=gd at hgd hst hG2⊢;obtain⟨S,R,D,E⟩:=gd;simp only at hst hG2;obtain⟨b1,b2,b3,b4,b5,b6,b7,es2⟩:=bT S;rw[ni,show bY e.s= .agg (cL e.s)from rfl,es,show bY S= .agg (cL S)from rfl,es2]at hgd
  simp only[opA,opC]at hgd;unfold opC at k9;refine .tree _ (.quiet [0,1,2,3,4] 5 (.news [6,7,8,9,10] [11,12,13] (.seq [14,15,16,17]))) (.refl _) aeN rfl ?_;simp only[go_sem,r6,kx,k9];refine⟨_,fun G hs=>hgd G (hsub.trans hs),?_⟩
  simp only[go_sem];refine⟨.refl _,aeR,?_⟩;intro jd hjd je hje jf hjf;have ned:=aH hje;have kje:=aB hje;have nfe:=aH hjf;have nfd:=aH (aB hjf);have kjf:=aB (aB hjf);simp only[go_sem,ak,ned,ned.symm,nfe,nfe.symm,nfd,nfd.symm];refine⟨aeY,aeY,aeY,?_⟩;refine Mk fun H2 w2=>?_
  have xjd:jd≠x:=fun e=>ais
  have xje:je≠x:=fun e=>ait
  have xjf:jf≠x:=fun e=>aiu
  have hs2:Ab.Sub H H2:=by have:=hsub.none hjd;have:=hsub.none kje;have:=hsub.none kjf;rw[w2];repeat (first|exact hsub|refine Ab.Sub.put ?_ ae0 _)
  have fx:H2 x=_:=(by rw[w2];simp only[ak,xjd,xjd.symm,xje,xje.symm,xjf,xjf.symm,ne_eq,not_false_eq_true]:H2 x=H1 x).trans kx
  have fd:H2 jd=some (.obj [.i S.tick,fM S.cases,jV S.reviews,kE S.notices,dW S.roles,b1,b2,b3,b4,b5,b6,b7,.i S.version] 40):=by rw[w2];simp only[ak,ned,ned.symm,nfe,nfe.symm,nfd,nfd.symm,ah,ne_eq,not_false_eq_true]
  have ff:H2 jf=some (.obj (tO D) 55):=by rw[w2];simp only[ak,ned,ned.symm,nfe,nfe.symm,nfd,nfd.symm,ah,ne_eq,not_false_eq_true];rfl
  clear w2;simp only[tO,opC,List.cons_append,List.nil_append]at ff
  by_cases hE0:E=0
  case neg=>
   have t2:(E !=0)=true:=by simp[hE0]
   rw[if_neg hE0]at hst;simp only[go_sem,t2];exact .same (.refl _) (bad _ hs2 hst)
  subst hE0;rw[if_pos rfl]at hst;have hx3:H2 x=some (lM jid e yl):=by rw[fx];unfold lM;rw[es];rfl
  have hg3:=hgl.touch (S:=[]) (.of hs2) (fun i hi hh=>agd)
  have hgo:=Ix e S D p .no jid x yl spl H2 hx3 hg3 aeK aeK;rw[show bY S= .agg (cL S)from rfl,es2]at hgo
  simp only[tO,opC,List.cons_append,List.nil_append]at hgo;simp only[go_sem,r6,fd,ff];refine hgo.mono fun r H4 ⟨er,yl',spl',hx4,hg4,hT4,hs4⟩=>?_
  subst er;simp only[go_sem,r6,r28,r29,r30,w3];have hout:∀j∈x::spl,h j=none:=fun j hj=>by
   rcases List.mem_cons.1 hj with rfl|hj
   ·exact hxh
   ·exact hsl _ hj
  have hdid:h did≠none:=by obtain⟨y,hy,_⟩:=hdk;rw[hy];simp
  have hj3:=hj2.sub hs2;have hD2:=hD.keep hs2.fJ;refine⟨_,?_,i+1,nR e (S,R,D,0) p,spl',hf1.trans hst,hps2,hdn,?_,hG2,⟨yl',hx4,hg4,?_⟩,?_,?_,?_,aeK,rfl,?_,?_,?_,?_⟩
  ·omega
  ·simp[nR,hlg]
  ·refine hj3.touch hT4 ?_ ?_
   ·obtain⟨z,zs,hz1,_⟩:=hj3
    intro hh;exact aj1
   ·obtain⟨z,zs,_,hz2,_⟩:=hj3
    intro j hj hh;obtain⟨n,hn⟩:=hz2.has j hj;rcases List.mem_cons.1 hh with rfl|hh
    ·rw[hx3]at hn;cases hn
    ·obtain⟨n2,hn2⟩:=hg3.has j hh
     rw[hn2]at hn;cases hn
  ·exact hD2.touch hT4 (fun j hj cs=>by
    rcases List.mem_cons.1 hj with rfl|hj
    ·rw[hx3];exact⟨fun hh=>agd,fun hh=>agd⟩
    ·obtain⟨n,hn⟩:=hg3.has j hj
     rw[hn];exact⟨fun hh=>agd,fun hh=>agd⟩)
  ·intro j k hj hk
   exact hT4 _ _ (fun hh=>by rw[hout j hh]at hk;cases hk) (hs2 _ _ (hK _ _ hj hk))
  ·intro j hj
   rcases hs4 j hj with hh|hh
   ·exact hsl _ hh
   ·cases hk:h j with
    |none=>rfl
    |some k=>
     by_cases e1:j=did
     ·subst e1
      obtain⟨y,hy,_⟩:=hD2;rw[hy]at hh;cases hh
     ·rw[hs2 _ _ (hK _ _ e1 hk)]at hh;cases hh
  all_goals simp only[go_sem,r6,r28,r29]
theorem jr.sub{x jid did:Nat}(he:jr h x jid did e spl spj)(hs:Ab.Sub h h'):jr h' x jid did e spl spj:=by obtain⟨yl,a,b,c⟩:=he;exact⟨yl,hs _ _ a,b.touch (S:=[]) (.of hs) aeR,c.sub hs⟩
theorem Mg(y:AV)(xs:List AV)(h:Heap)(hb:Rd h 16 y xs)(hl:xs.length≤1000000):ai prog 69 [y] h fun r h' =>OwE 55 h h' 16 r xs∧Ab.Sub h h' :=by
 refine aeJ func69 8 [.tmp 2] fun hwf=>?_
 simp only[go_sem];refine hb.nil fun b hxs=>?_
 cases b
 ·simp only[go_sem]
  refine hb.src (U:=U) (e:=55) aeZ ⟨hb.1,aeK,OwE.j8 (U:=U) (sz:=16) aeZ aeZ hb.1 fun y' h' hw hs=>?_⟩
  exact ai8
 ·exact ai6
theorem JA(y:AV)(xs:List AV)(h:Heap)(hb:Rd h 3 y xs)(hl:xs.length≤10000000)(hp:gF xs=true):ai prog 70 [y] h fun r h' =>r= .sl xs .no∧h' =h:=
 ai.freeze fun g hg _=>ai.mono (Q:=fun r h' =>OwE 145 g h' 3 r xs∧Ab.Sub g h') (by
  have hb:=hb.sub hg;refine aeJ func70 8 [.tmp 2] fun hwf=>?_
  simp only[go_sem];refine hb.nil fun b hxs=>?_
  cases b
  ·simp only[go_sem]
   refine hb.src (U:=U) (e:=145) aeZ ⟨hb.1,aeK,OwE.j8 (U:=U) (sz:=3) aeZ aeZ hb.1 fun y' h' hw hs=>?_⟩
   exact ai8
  ·have hx:xs= []:=by grind
   simp only[go_sem];exact .same (.refl _) ⟨.inl ⟨hx,rfl⟩,.refl _⟩) fun r h' ⟨h1,h2⟩=>⟨h2,_,h1.frz hp,rfl⟩
theorem PX(d:pn):cN (ldA d)=true:=by
 have:=bn (f:=aY) (fun _=>rfl) d.obls
 simp[ldA,tO,opC,ay,aO,cN,gF,this]
theorem RU:(U 36).sz≠0:=aeO
theorem TX:(U 36).sz=1:=aeZ
theorem Ij(x jid did:Nat)(e:cm)(spl spj:List Nat)(h:Heap)(he:jr h x jid did e spl spj)(hl:e.log.length≤1000000)(ho:∀d∈e.log,d.obls.length≤10000000):
  ai prog 24 [.ptr x 0] h fun r h' =>r= .sl (e.log.map ldA) .no∧h' =h:=
 ai.freeze fun g hgs _=>by
 obtain⟨yl,hx,hg,hj⟩:=he.sub hgs;obtain⟨a1,a2,a3,a4,a5,a6,a7,es⟩:=bT e.s;have gx:=hx;unfold lM at gx;rw[es]at gx;simp only[List.cons_append,List.nil_append]at gx;obtain⟨q,rfl⟩:=hg.row;generalize e.log=l at hl ho gx⊢;refine aeJ func24 27 [.tmp 2] fun hwf=>?_
 simp only[go_sem,gx];refine(Mg _ (l.map ldA) g (.sl (y8 l) q) aeL).mono fun z M ⟨o1,s1⟩=>?_
 simp only[go_sem,o1.rd.len,aeA];refine .intro (fun m ρ G=>∃i:Nat,Ab.Sub M G∧i≤l.length∧m=l.length - i∧lk ρ 3=some z∧lk ρ 11=some (.i l.length)∧lk ρ 12=some (.i i)) l.length ?_ ?_
 ·refine⟨0,.refl _,aeK,rfl,?_,?_,?_⟩<;>simp only[go_sem]
 rintro m ρ G ⟨i,hs,hi,rfl,r3,r11,r12⟩
 have v1:=o1.sub hs
 by_cases hlt:i<l.length
 case neg=>have d1:decide ((i:Int)<(l.length:Int))=false:=decide_eq_false aeK;simp only[go_sem,r3,r11,r12,d1];exact .same (.refl _) ⟨s1.trans hs,_,v1.frz (bn PX _),rfl⟩
 have d1:decide ((i:Int)<(l.length:Int))=true:=decide_eq_true aeK;have w1:IntKind.i64.wrap ((i:Int)+1)=((i+1:Nat):Int):=aeW;have hob:=ho _ (aeF hlt);obtain⟨d,ed⟩:∃d,l[i]=d:=⟨_,rfl⟩;have hxi:(l.map ldA)[i]'aeL=ldA d:=aeL;rw[ed]at hob;simp only[go_sem,r3,r11,r12,d1];refine v1.rd.idx (U:=U) (e:=55) i rfl aeL uD aeO fun p hp1=>?_
 simp only[go_sem];refine hp1.field (f:=4) (off:=15) (t:=36) rfl RU fun p2 hp2=>?_
 have hld:=hp2.part (U:=U) (ty:=36) RU (by rw[hxi,TX];exact aez rfl)
 simp only[go_sem,hld,hxi,ldA,tO,opC,ay];refine(JA _ (d.obls.map aY) G (eL aY 3 (fun _=>rfl) _ _) aeL (bn (fun _=>rfl) _)).pthen ?_
 simp only[go_sem,r3,r12];obtain⟨id1,hg1,u1⟩:=v1.ow aeL;refine u1.idx (U:=U) (e:=55) i rfl aeL uD aeO ?_;simp only[go_sem];have u1' :=u1;obtain⟨cap,rest,ey,hid,hr,hcap,hsz⟩:=u1';have hbd:i*16+16≤(au (l.map ldA)++rest).length:=by grind [aeE,aZ,aeA]
 have e5:List.take (i*16+15) (au (l.map ldA)++rest)++ [.sl (d.obls.map aY) .no]++List.drop (i*16+15+1) (au (l.map ldA)++rest)=au (l.map ldA)++rest:=by refine(kI hsz i aeL 15 [.sl (d.obls.map aY) .no] (aez rfl)).trans ?_;rw[o7];rw[List.getElem?_eq_getElem aeL,hxi];rfl
 simp only[go_sem,r12,hid];rw[e5,tr hid];refine⟨aeK,?_⟩;simp only[go_sem,w1];refine⟨_,?_,i+1,hs,aeK,rfl,?_,?_,?_⟩
 ·omega
 all_goals simp only[go_sem,r3,r11]
end Go.Proofs.YtokahfmoollblaaGreatDoor
namespace Go.Bf
open Go Go.Ab Go.Proofs.YtokahfmoollblaaGreatDoor
variable {e:cm}{o:OpD}{d:D}
def Np(e:cm)(o:OpD):cm:={nR e (aI e.s o) (eC e.ch o)with ps:=e.ps++ [eC e.ch o],down:=false}
theorem Rm(d:D)(h:e.down=false)(hg:(aI e.s o).2.2.2≠0):doE e d o=(e,d,(aI e.s o).2.1):=by simp_all [doE,if_neg,if_pos]
theorem VL{d':D}{ps:List Txt}{dn:Bool}{c:Nat}(h:e.down=false)(hg:(aI e.s o).2.2.2=0)(hj:jadd d e.ps false (eC e.ch o)=((d',ps,dn),c)):
  doE e d o=if c=0 then({nR e (aI e.s o) (eC e.ch o)with ps:=ps,down:=dn},d',(aI e.s o).2.1)else({e with ps:=ps,down:=dn},d',DN (c:Int)):=by
 simp_all [doE,if_neg]
theorem Ii(h:e.down=false)(hg:(aI e.s o).2.2.2=0)(h1:d.off=false)(h2:d.f=0)(hr:d.b.length+(frame (eC e.ch o)).length≤d.q):
  doE e d o=({nR e (aI e.s o) (eC e.ch o)with ps:=e.ps++ [eC e.ch o],down:=false},{d with b:=d.b++frame (eC e.ch o),sy:=(d.b++frame (eC e.ch o)).length},(aI e.s o).2.1):=by
 have hl:=uK (h:=e.ch) (oA (jE hg));rw[VL h hg (Wm h1 h2 aeK aeK hr),if_pos rfl]
theorem Ih(h:e.down=false)(hg:(aI e.s o).2.2.2=0)(h1:d.off=false)(hr:d.q<d.b.length+(frame (eC e.ch o)).length):doE e d o=(e,d,DN 8):=by have hl:=uK (h:=e.ch) (oA (jE hg));rw[VL h hg (MU h1 aeK aeK hr),if_neg aeO];obtain⟨_,_,_,_,dn⟩:=e;cases h;rfl
end Go.Bf
namespace Go.Proofs.YtokahfmoollblaaGreatDoor
open Go Go.Ab Go.Bf Tryz
variable {h0 h h':Heap}{S spl spj:List Nat}{x jid k:Nat}{e:cm}{d:D}
theorem BW(hs:Ab.Sub h0 h)(ht:Touch S h h')(hn:∀i∈S,h0 i=none):Ab.Sub h0 h' :=fun j k hj=>ht j k aeL (hs j k hj)
theorem uQ{i:Nat}(hs:Ab.Sub h0 h)(ht:Keep i h h')(hn:h0 i=none):Ab.Sub h0 h' :=BW hs (.keep ht) aeL
theorem SS{did:Nat}(he:jr h x jid did e spl spj)(hd:bC h did d):∀i∈x::did::jid::(spl++spj),h i≠none:=fun i hi=>by
 obtain⟨yl,a,b,z,zs,c1,c2,_⟩:=he;obtain⟨y,d1,_⟩:=hd;simp only[List.mem_cons,List.mem_append]at hi;rcases hi with rfl|rfl|rfl|hi|hi
 ·grind
 ·grind
 ·grind
 ·obtain⟨n,e⟩:=b.has i hi;grind
 ·obtain⟨n,e⟩:=c2.has i hi;grind
structure oh (h0 h:Heap) (x jid did:Nat) (e:cm) (d:D) (spl spj:List Nat):Prop where
 eng:jr h x jid did e spl spj
 disk:bC h did d
 ok:d.ok
 sub:Ab.Sub h0 h
 new:∀i∈x::did::jid::(spl++spj),h0 i=none
theorem oh.up{did:Nat}(w:oh h0 h x jid did e d spl spj)(hs:Ab.Sub h h'):oh h0 h' x jid did e d spl spj:=
 ⟨w.eng.sub hs,w.disk.keep hs.fJ,w.ok,w.sub.trans hs,w.new⟩
theorem oh.did{did:Nat}{d':D}(w:oh h0 h x jid did e d spl spj)(hd:bC h' did d')(hk:Keep did h h')(ho:d'.ok):oh h0 h' x jid did e d' spl spj:=by
 have hw:=w.disk;obtain⟨yl,a,b,c⟩:=w.eng;obtain⟨y,hy,_⟩:=hw;have h1:x∉ [did]:=fun hi=>by rw[List.mem_singleton.1 hi,hy]at a;cases a
 have h3:∀i∈spl,i∉ [did]:=fun i hi hh=>by
  obtain⟨n,hn⟩:=b.has i hi
  grind
 have h2:jid∉ [did]∧∀i∈spj,i∉ [did]:=by
  obtain⟨z,zs,c1,c2,_⟩:=c;refine⟨fun hi=>aeL,fun i hi hh=>?_⟩
  obtain⟨n,hn⟩:=c2.has i hi
  grind
 exact⟨⟨yl,hk _ _ aeL a,b.touch (.keep hk) h3,c.touch (.keep hk) h2.1 h2.2⟩,hd,ho,uQ w.sub hk (w.new _ aeR),w.new⟩
theorem oh.doS{did:Nat}(w:oh h0 h x jid did e d spl spj)(o:OpD)(hps:e.ps.length≤1000000)(hlg:e.log.length≤1000000)(hG:gH k e.s)(hk:k≤1000)(h64:oN o)(her:iB h0)(hok:(doE e d o).2.1.ok):
  ai prog 22 [.ptr x 0,opA o] h fun r h' =>r= .agg (lp (doE e d o).2.2)∧∃spl' spj',oh h0 h' x jid did (doE e d o).1 (doE e d o).2.1 spl' spj'∧Touch (x::did::jid::(spl++spj)) h h'∧(∀i∈x::did::jid::(spl' ++spj'),i∈x::did::jid::(spl++spj)∨h i=none):=
 (VM x jid did e d spl spj o h w.eng w.disk w.ok hps hlg hG hk h64 (her.sub w.sub)).mono fun r h' ⟨e1,spl',spj',a,b,c,f,g⟩=>by
  have hin:∀i∈x::did::jid::(spl' ++spj'),i∈x::did::jid::(spl++spj)∨h i=none:=fun i hi=>by
   simp only[List.mem_cons,List.mem_append]at hi⊢;rcases hi with hi|hi|hi|hi|hi
   ·exact .inl (.inl hi)
   ·exact .inl (.inr (.inl hi))
   ·exact .inl (.inr (.inr (.inl hi)))
   ·rcases f i hi with h1|h1|h1
    ·exact .inl (.inr (.inr (.inr (.inl h1))))
    ·exact .inl (.inr (.inr (.inr (.inr h1))))
    ·exact .inr h1
   ·rcases g i hi with h1|h1
    ·exact .inl (.inr (.inr (.inr (.inr h1))))
    ·exact .inr h1
  exact⟨e1,spl',spj',⟨a,b,hok,BW w.sub c w.new,fun i hi=>(hin i hi).elim (w.new i) w.sub.none⟩,c,hin⟩
theorem oh.fresh{did:Nat}(w:oh h0 h x jid did e d spl spj){i:Nat}(hi:h i=none):i∉x::did::jid::(spl++spj):=fun hh=>SS w.eng w.disk i hh hi
theorem Qz(a:List bP)(h:Heap):ai prog 181 [.sl (a.map cK) .no,.sl (a.map cK) .no] h fun r h' =>r= .b true∧h' =h:=by
 refine aeJ func181 26 [.tmp 4] fun hwf=>?_
 have hw:=hwf (.sl (a.map cK) .no) aeR;simp only[wfA,wf1,lim,aeA]at hw;simp only[go_sem,aeA,bne_self_eq_false];refine .intro (fun m ρ h' =>Ab.Sub h h'∧∃i:Nat,i≤a.length∧m=a.length - i∧lk ρ 0=some (.sl (a.map cK) .no)∧lk ρ 1=some (.sl (a.map cK) .no)∧lk ρ 5=some (.i i)) a.length ?_ ?_
 ·exact⟨.refl _,0,aeK,rfl,aeZ,aeZ,aeZ⟩
 rintro m ρ h' ⟨hs,i,hi,rfl,r0,r1,r5⟩
 by_cases hlt:i<a.length
 ·have d1:decide ((i:Int)<(a.length:Int))=true:=decide_eq_true aeK
  have w1:IntKind.i64.wrap ((i:Int)+1)=((i+1:Nat):Int):=aeW;simp only[go_sem,r0,r5,aeA,d1];refine⟨.of aeN,?_⟩;refine .at i aeL aeU ?_;simp only[go_sem,r1,r5,aeB,cK];refine .at i aeL aeU ?_;simp only[go_sem,aeB,cK,beq_self_eq_true,Bool.and_self,r5,w1];exact⟨_,aeK,hs,i+1,aeK,rfl,ae7,ae8,aeT⟩
 ·exact ai5
theorem RJ(a:List cC)(h:Heap):ai prog 71 [.sl (a.map aY) .no,.sl (a.map aY) .no] h fun r h' =>r= .b true∧h' =h:=by
 refine aeJ func71 26 [.tmp 4] fun hwf=>?_
 have hw:=hwf (.sl (a.map aY) .no) aeR;simp only[wfA,wf1,lim,aeA]at hw;simp only[go_sem,aeA,bne_self_eq_false];refine .intro (fun m ρ h' =>Ab.Sub h h'∧∃i:Nat,i≤a.length∧m=a.length - i∧lk ρ 0=some (.sl (a.map aY) .no)∧lk ρ 1=some (.sl (a.map aY) .no)∧lk ρ 5=some (.i i)) a.length ?_ ?_
 ·exact⟨.refl _,0,aeK,rfl,aeZ,aeZ,aeZ⟩
 rintro m ρ h' ⟨hs,i,hi,rfl,r0,r1,r5⟩
 by_cases hlt:i<a.length
 ·have d1:decide ((i:Int)<(a.length:Int))=true:=decide_eq_true aeK
  have w1:IntKind.i64.wrap ((i:Int)+1)=((i+1:Nat):Int):=aeW;simp only[go_sem,r0,r5,aeA,d1];refine⟨.of aeN,?_⟩;refine .at i aeL aeU ?_;simp only[go_sem,r1,r5,aeB,aY];refine .at i aeL aeU ?_;simp only[go_sem,aeB,aY,beq_self_eq_true,Bool.and_self,r5,w1];exact⟨_,aeK,hs,i+1,aeK,rfl,ae7,ae8,aeT⟩
 ·exact ai5
theorem TE(a:List aQ)(h:Heap):ai prog 133 [.sl (a.map cG) .no,.sl (a.map cG) .no] h fun r h' =>r= .b true∧h' =h:=by
 refine aeJ func133 26 [.tmp 4] fun hwf=>?_
 have hw:=hwf (.sl (a.map cG) .no) aeR;simp only[wfA,wf1,lim,aeA]at hw;simp only[go_sem,aeA,bne_self_eq_false];refine .intro (fun m ρ h' =>Ab.Sub h h'∧∃i:Nat,i≤a.length∧m=a.length - i∧lk ρ 0=some (.sl (a.map cG) .no)∧lk ρ 1=some (.sl (a.map cG) .no)∧lk ρ 5=some (.i i)) a.length ?_ ?_
 ·exact⟨.refl _,0,aeK,rfl,aeZ,aeZ,aeZ⟩
 rintro m ρ h' ⟨hs,i,hi,rfl,r0,r1,r5⟩
 by_cases hlt:i<a.length
 ·have d1:decide ((i:Int)<(a.length:Int))=true:=decide_eq_true aeK
  have w1:IntKind.i64.wrap ((i:Int)+1)=((i+1:Nat):Int):=aeW;simp only[go_sem,r0,r5,aeA,d1];refine⟨.of aeN,?_⟩;refine .at i aeL aeU ?_;simp only[go_sem,r1,r5,aeB,cG];refine .at i aeL aeU ?_;simp only[go_sem,aeB,cG,beq_self_eq_true,Bool.and_self,r5,w1];exact⟨_,aeK,hs,i+1,aeK,rfl,ae7,ae8,aeT⟩
 ·exact ai5
theorem WO(a:List qu)(h:Heap):ai prog 61 [.sl (a.map gz) .no,.sl (a.map gz) .no] h fun r h' =>r= .b true∧h' =h:=by
 refine aeJ func61 26 [.tmp 4] fun hwf=>?_
 have hw:=hwf (.sl (a.map gz) .no) aeR;simp only[wfA,wf1,lim,aeA]at hw;simp only[go_sem,aeA,bne_self_eq_false];refine .intro (fun m ρ h' =>Ab.Sub h h'∧∃i:Nat,i≤a.length∧m=a.length - i∧lk ρ 0=some (.sl (a.map gz) .no)∧lk ρ 1=some (.sl (a.map gz) .no)∧lk ρ 5=some (.i i)) a.length ?_ ?_
 ·exact⟨.refl _,0,aeK,rfl,aeZ,aeZ,aeZ⟩
 rintro m ρ h' ⟨hs,i,hi,rfl,r0,r1,r5⟩
 by_cases hlt:i<a.length
 ·have d1:decide ((i:Int)<(a.length:Int))=true:=decide_eq_true aeK
  have w1:IntKind.i64.wrap ((i:Int)+1)=((i+1:Nat):Int):=aeW;simp only[go_sem,r0,r5,aeA,d1];refine⟨.of aeN,?_⟩;refine .at i aeL aeU ?_;simp only[go_sem,r1,r5,aeB,gz];refine .at i aeL aeU ?_;simp only[go_sem,aeB,gz,beq_self_eq_true,Bool.and_self,r5,w1];exact⟨_,aeK,hs,i+1,aeK,rfl,ae7,ae8,aeT⟩
 ·exact ai5
theorem WN(a:List FM)(h:Heap):ai prog 62 [.sl (a.map kD) .no,.sl (a.map kD) .no] h fun r h' =>r= .b true∧h' =h:=by
 refine aeJ func62 26 [.tmp 4] fun hwf=>?_
 have hw:=hwf (.sl (a.map kD) .no) aeR;simp only[wfA,wf1,lim,aeA]at hw;simp only[go_sem,aeA,bne_self_eq_false];refine .intro (fun m ρ h' =>Ab.Sub h h'∧∃i:Nat,i≤a.length∧m=a.length - i∧lk ρ 0=some (.sl (a.map kD) .no)∧lk ρ 1=some (.sl (a.map kD) .no)∧lk ρ 5=some (.i i)) a.length ?_ ?_
 ·exact⟨.refl _,0,aeK,rfl,aeZ,aeZ,aeZ⟩
 rintro m ρ h' ⟨hs,i,hi,rfl,r0,r1,r5⟩
 by_cases hlt:i<a.length
 ·have d1:decide ((i:Int)<(a.length:Int))=true:=decide_eq_true aeK
  have w1:IntKind.i64.wrap ((i:Int)+1)=((i+1:Nat):Int):=aeW;simp only[go_sem,r0,r5,aeA,d1];refine⟨.of aeN,?_⟩;refine .at i aeL aeU ?_;simp only[go_sem,r1,r5,aeB,kD];refine .at i aeL aeU ?_;simp only[go_sem,aeB,kD,beq_self_eq_true,Bool.and_self,r5,w1];exact⟨_,aeK,hs,i+1,aeK,rfl,ae7,ae8,aeT⟩
 ·exact ai5
theorem TF(a:List ie)(h:Heap):ai prog 63 [.sl (a.map dj) .no,.sl (a.map dj) .no] h fun r h' =>r= .b true∧h' =h:=by
 refine aeJ func63 26 [.tmp 4] fun hwf=>?_
 have hw:=hwf (.sl (a.map dj) .no) aeR;simp only[wfA,wf1,lim,aeA]at hw;simp only[go_sem,aeA,bne_self_eq_false];refine .intro (fun m ρ h' =>Ab.Sub h h'∧∃i:Nat,i≤a.length∧m=a.length - i∧lk ρ 0=some (.sl (a.map dj) .no)∧lk ρ 1=some (.sl (a.map dj) .no)∧lk ρ 5=some (.i i)) a.length ?_ ?_
 ·exact⟨.refl _,0,aeK,rfl,aeZ,aeZ,aeZ⟩
 rintro m ρ h' ⟨hs,i,hi,rfl,r0,r1,r5⟩
 by_cases hlt:i<a.length
 ·have d1:decide ((i:Int)<(a.length:Int))=true:=decide_eq_true aeK
  have w1:IntKind.i64.wrap ((i:Int)+1)=((i+1:Nat):Int):=aeW;simp only[go_sem,r0,r5,aeA,d1];refine⟨.of aeN,?_⟩;refine .at i aeL aeU ?_;simp only[go_sem,r1,r5,aeB,dj];refine .at i aeL aeU ?_;simp only[go_sem,aeB,dj,beq_self_eq_true,Bool.and_self,r5,w1];exact⟨_,aeK,hs,i+1,aeK,rfl,ae7,ae8,aeT⟩
 ·exact ai5
theorem Qy(a:List cO)(h:Heap):ai prog 130 [.sl (a.map bB) .no,.sl (a.map bB) .no] h fun r h' =>r= .b true∧h' =h:=by
 refine aeJ func130 26 [.tmp 4] fun hwf=>?_
 have hw:=hwf (.sl (a.map bB) .no) aeR;simp only[wfA,wf1,lim,aeA]at hw;simp only[go_sem,aeA,bne_self_eq_false];refine .intro (fun m ρ h' =>Ab.Sub h h'∧∃i:Nat,i≤a.length∧m=a.length - i∧lk ρ 0=some (.sl (a.map bB) .no)∧lk ρ 1=some (.sl (a.map bB) .no)∧lk ρ 5=some (.i i)) a.length ?_ ?_
 ·exact⟨.refl _,0,aeK,rfl,aeZ,aeZ,aeZ⟩
 rintro m ρ h' ⟨hs,i,hi,rfl,r0,r1,r5⟩
 by_cases hlt:i<a.length
 ·have d1:decide ((i:Int)<(a.length:Int))=true:=decide_eq_true aeK
  have w1:IntKind.i64.wrap ((i:Int)+1)=((i+1:Nat):Int):=aeW;simp only[go_sem,r0,r5,aeA,d1];refine⟨.of aeN,?_⟩;refine .at i aeL aeU ?_;simp only[go_sem,r1,r5,aeB,bB];refine .at i aeL aeU ?_;simp only[go_sem,aeB,bB,beq_self_eq_true,Bool.and_self,r5,w1];exact⟨_,aeK,hs,i+1,aeK,rfl,ae7,ae8,aeT⟩
 ·exact ai5
theorem WM(a:List xx)(h:Heap):ai prog 131 [.sl (a.map gw) .no,.sl (a.map gw) .no] h fun r h' =>r= .b true∧h' =h:=by
 refine aeJ func131 26 [.tmp 4] fun hwf=>?_
 have hw:=hwf (.sl (a.map gw) .no) aeR;simp only[wfA,wf1,lim,aeA]at hw;simp only[go_sem,aeA,bne_self_eq_false];refine .intro (fun m ρ h' =>Ab.Sub h h'∧∃i:Nat,i≤a.length∧m=a.length - i∧lk ρ 0=some (.sl (a.map gw) .no)∧lk ρ 1=some (.sl (a.map gw) .no)∧lk ρ 5=some (.i i)) a.length ?_ ?_
 ·exact⟨.refl _,0,aeK,rfl,aeZ,aeZ,aeZ⟩
 rintro m ρ h' ⟨hs,i,hi,rfl,r0,r1,r5⟩
 by_cases hlt:i<a.length
 ·have d1:decide ((i:Int)<(a.length:Int))=true:=decide_eq_true aeK
  have w1:IntKind.i64.wrap ((i:Int)+1)=((i+1:Nat):Int):=aeW;simp only[go_sem,r0,r5,aeA,d1];refine⟨.of aeN,?_⟩;refine .at i aeL aeU ?_;simp only[go_sem,r1,r5,aeB,gw];refine .at i aeL aeU ?_;simp only[go_sem,aeB,gw,beq_self_eq_true,Bool.and_self,r5,w1];exact⟨_,aeK,hs,i+1,aeK,rfl,ae7,ae8,aeT⟩
 ·exact ai5
theorem srT(a:gp)(h:Heap):ai prog 132 [.sl (a.map cE) .no,.sl (a.map cE) .no] h fun r h' =>r= .b true∧h' =h:=by
 refine aeJ func132 54 [.tmp 4] fun hwf=>?_
 have hw:=hwf (.sl (a.map cE) .no) aeR;simp only[wfA,wf1,lim,aeA]at hw;simp only[go_sem,aeA,bne_self_eq_false];refine .intro (fun m ρ h' =>Ab.Sub h h'∧∃i:Nat,i≤a.length∧m=a.length - i∧lk ρ 0=some (.sl (a.map cE) .no)∧lk ρ 1=some (.sl (a.map cE) .no)∧lk ρ 13=some (.i a.length)∧lk ρ 14=some (.i i)) a.length ?_ ?_
 ·exact⟨.refl _,0,aeK,rfl,aeZ,aeZ,aeZ,aeZ⟩
 rintro m ρ h' ⟨hs,i,hi,rfl,r0,r1,r13,r14⟩
 by_cases hlt:i<a.length
 ·have d1:decide ((i:Int)<(a.length:Int))=true:=decide_eq_true aeK
  have w1:IntKind.i64.wrap ((i:Int)+1)=((i+1:Nat):Int):=aeW;have ix:=fun K=>eu.eq (xs:=a.map cE) (sz:=1) i aeL aeU K
  rw[aeB]at ix;simp only[cE]at ix;simp only[go_sem,r0,r1,r13,r14,d1];refine⟨.of aeN,?_⟩;simp only[go_sem,r0,r1,r14,ix,aeA,bne_self_eq_false];refine qi.wf fun hwi=>?_
  have hwk:=hwi 31 (.sl (a[i].map iC) .no) aeT;simp only[wfA,wf1,lim,aeA]at hwk;refine .intro (fun m ρ h' =>Ab.Sub h h'∧∃k:Nat,k≤a[i].length∧m=a[i].length - k∧lk ρ 5=some (.i i)∧lk ρ 0=some (.sl (a.map cE) .no)∧lk ρ 1=some (.sl (a.map cE) .no)∧lk ρ 13=some (.i a.length)∧lk ρ 14=some (.i i)∧lk ρ 32=some (.i a[i].length)∧lk ρ 33=some (.i k)) a[i].length ?_ ?_
  ·exact⟨hs,0,aeK,rfl,aeT,ae7,ae8,agW,by simp only[go_sem,r14],aeT,aeT⟩
  rintro m ρ h' ⟨hs,k,hk,rfl,r5,r0,r1,r13,r14,r32,r33⟩
  by_cases hkt:k<a[i].length
  ·have d2:decide ((k:Int)<(a[i].length:Int))=true:=decide_eq_true aeK
   have w2:IntKind.i64.wrap ((k:Int)+1)=((k+1:Nat):Int):=aeW;have iy:=fun K=>eu.eq (xs:=a[i].map iC) (sz:=1) k aeL aeU K
   rw[aeB]at iy;simp only[iC]at iy;simp only[go_sem,r32,r33,d2];refine .quiet aeN ?_;simp only[go_sem,r0,r1,r5,r33,ix,iy];refine⟨_,Qz a[i][k] _,?_⟩;simp only[go_sem,r33,w2];exact⟨_,aeK,hs,k+1,aeK,rfl,by simp only[go_sem,r5],ae7,ae8,agW,by simp only[go_sem,r14],by simp only[go_sem,r32],aeT⟩
  ·have d2:decide ((k:Int)<(a[i].length:Int))=false:=decide_eq_false aeK
   simp only[go_sem,r32,r33,d2,r14,w1];exact⟨_,aeK,hs,i+1,aeK,rfl,ae7,ae8,agW,aeZ⟩
 ·have d1:decide ((i:Int)<(a.length:Int))=false:=decide_eq_false aeK
  simp only[go_sem,r13,r14,d1];exact afm
theorem srP:∀(p:bE) (h:Heap),ai prog 64 [aL p,aL p] h fun r h' =>r= .b true∧h' =h
 |.mk i1 s1 a1 t1 r1 k1 o1,h=>by
  have ihk:∀(j:Nat) (hj:j<k1.length) (h:Heap),ai prog 64 [aL k1[j],aL k1[j]] h fun r h' =>r= .b true∧h' =h:=fun j hj h=>srP k1[j] h
  refine aeJ func64 134 [.tmp 4] fun hwf=>?_
  have hlen:k1.length<9223372036854775808∧r1.length<9223372036854775808:=by have:=hwf (aL (.mk i1 s1 a1 t1 r1 k1 o1)) aeR;simp only[aL,wfA]at this;have g1:=this (.sl (fF k1) .no) aeR;have g2:=this (.sl (r1.map aC) .no) aeR;simp only[wf1,aeA,aX]at g1 g2;exact⟨g1,g2⟩
  simp only[go_sem,aL,aW,ay,aX];intro ia hia;simp only[go_sem];intro ib hib;have nab:=zp hib;have hs0:=fun b=>(Sub.aj hia).trans (.aj (k:=b) hib)
  generalize hH:upd (upd h ia _) ib _=hb;have hs0:Ab.Sub h hb:=aeL;have ga:hb ia=some (.obj [.s i1,.b s1,.i a1,.sl (t1.map cE) .no,.sl (r1.map aC) .no,.sl (k1.map aL) .no,.sl (o1.map aY) .no] 38):=by rw[←hH,ag _ _ nab.symm,ah]
  have gb:hb ib=some (.obj [.s i1,.b s1,.i a1,.sl (t1.map cE) .no,.sl (r1.map aC) .no,.sl (k1.map aL) .no,.sl (o1.map aY) .no] 38):=by rw[←hH,ah]
  clear hH;simp only[go_sem,ga,gb,beq_self_eq_true,bne_self_eq_false];refine(srT t1 hb).pthen ?_;simp only[go_sem,ga,gb];refine(RJ o1 hb).pthen ?_;simp only[go_sem,ga,gb,aeA,bne_self_eq_false];refine .intro (fun m ρ h' =>Ab.Sub hb h'∧∃i:Nat,i≤r1.length∧m=r1.length - i∧lk ρ 2=some (.ptr ia 0)∧lk ρ 3=some (.ptr ib 0)∧lk ρ 64=some (.i r1.length)∧lk ρ 65=some (.i i)) r1.length ?_ ?_
  ·exact⟨.refl _,0,aeK,rfl,aeT,aeT,aeT,aeT⟩
  rintro m ρ h' ⟨hs,i,hi,rfl,q2,q3,q64,q65⟩
  have ga1:=hs _ _ ga;have gb1:=hs _ _ gb
  by_cases hlt:i<r1.length
  ·have d1:decide ((i:Int)<(r1.length:Int))=true:=decide_eq_true aeK
   have w1:IntKind.i64.wrap ((i:Int)+1)=((i+1:Nat):Int):=aeW;have ix:=fun K=>eu.eq (xs:=r1.map aC) (sz:=5) i aeL aeU K
   rw[aeB]at ix;simp only[aC]at ix;simp only[go_sem,q64,q65,d1];refine .tree h' (.news [0,1,2,3,4,5,6,7,8,9] [10,11] (.seq [12,13])) (.refl _) aeN rfl ?_;simp only[go_sem,q2,q3,q65,ga1,gb1,ix];refine⟨.refl _,aeR,?_⟩;intro j6 h6 j7 h7;have n76:=zp h7;have h7a:=h7;rw[ag _ _ n76]at h7a;have sb:=fun a b=>((Sub.refl h').put h6 a).put h7a b
   simp only[go_sem,ak,n76,n76.symm];refine⟨(sb _ _).put h6 _,((sb _ _).put h6 _).put h7a _,?_⟩;generalize hH:upd (upd (upd (upd h' j6 _) j7 _) j6 _) j7 _=h2;have hs2:Ab.Sub h' h2:=by rw[←hH];exact((sb _ _).put h6 _).put h7a _
   have g6:h2 j6=some (.obj [.s r1[i].id,.b r1[i].deny,.sl (r1[i].tgt.map cE) .no,.sl (r1[i].cond.map cG) .no,.sl (r1[i].obls.map aY) .no] 217):=by rw[←hH,ag _ _ n76.symm,ah];rfl
   have g7:h2 j7=some (.obj [.s r1[i].id,.b r1[i].deny,.sl (r1[i].tgt.map cE) .no,.sl (r1[i].cond.map cG) .no,.sl (r1[i].obls.map aY) .no] 217):=agZ;clear hH;refine(srT r1[i].tgt h2).pthen ?_;simp only[go_sem,g6,g7];refine(TE r1[i].cond h2).pthen ?_;simp only[go_sem,g6,g7];refine(RJ r1[i].obls h2).pthen ?_;simp only[go_sem,q65,w1];exact⟨_,aeK,hs.trans hs2,i+1,aeK,rfl,ag2,ag3,by simp only[go_sem,q64],aeT⟩
  ·have d1:decide ((i:Int)<(r1.length:Int))=false:=decide_eq_false aeK
   simp only[go_sem,q2,q3,q64,q65,d1,ga1,gb1,aeA];refine .intro (fun m ρ h' =>Ab.Sub hb h'∧∃i:Nat,i≤k1.length∧m=k1.length - i∧lk ρ 2=some (.ptr ia 0)∧lk ρ 3=some (.ptr ib 0)∧lk ρ 117=some (.i k1.length)∧lk ρ 118=some (.i i)) k1.length ?_ ?_
   ·exact⟨hs,0,aeK,rfl,ag2,ag3,aeZ,aeZ⟩
   rintro m ρ h' ⟨hs,i,hi,rfl,q2,q3,q117,q118⟩
   have ga1:=hs _ _ ga;have gb1:=hs _ _ gb
   by_cases hlt:i<k1.length
   ·have d1:decide ((i:Int)<(k1.length:Int))=true:=decide_eq_true aeK
    have w1:IntKind.i64.wrap ((i:Int)+1)=((i+1:Nat):Int):=aeW;have ihi:=ihk i hlt h';have ix:=fun K=>eu.eq (xs:=k1.map aL) (sz:=7) i aeL (by grind [EV]) K
    rw[aeB]at ix;cases ek:k1[i]with
    |mk x1 x2 x3 x4 x5 x6 x7=>
    rw[ek]at ihi ix;simp only[aL,aW,ay]at ihi ix;simp only[go_sem,q117,q118,d1];refine .quiet aeN ?_;simp only[go_sem,q2,q3,q118,ga1,gb1,ix];refine⟨_,ihi,?_⟩;simp only[go_sem,q118,w1];exact⟨_,aeK,hs,i+1,aeK,rfl,ag2,ag3,by simp only[go_sem,q117],aeZ⟩
   ·have d1:decide ((i:Int)<(k1.length:Int))=false:=decide_eq_false aeK
    simp only[go_sem,q117,q118,d1];exact .mk _ (.refl _) (hs0.trans hs) ⟨rfl,rfl⟩
termination_by p=>SizeOf.sizeOf p
decreasing_by
 have:=List.sizeOf_lt_of_mem (aeF hj);simp only[bE.mk.sizeOf_spec];omega
theorem srC(a:List aN)(h:Heap):ai prog 60 [.sl (a.map bV) .no,.sl (a.map bV) .no] h fun r h' =>r= .b true∧h' =h:=by
 refine aeJ func60 82 [.tmp 4] fun hwf=>?_
 have hw:=hwf (.sl (a.map bV) .no) aeR;simp only[wfA,wf1,lim,aeA]at hw;simp only[go_sem,aeA,bne_self_eq_false];refine .intro (fun m ρ h' =>h' =h∧∃i:Nat,i≤a.length∧m=a.length - i∧lk ρ 0=some (.sl (a.map bV) .no)∧lk ρ 1=some (.sl (a.map bV) .no)∧lk ρ 12=some (.i a.length)∧lk ρ 13=some (.i i)) a.length ?_ ?_
 ·exact⟨rfl,0,aeK,rfl,aeZ,aeZ,aeZ,aeZ⟩
 rintro m ρ h' ⟨rfl,i,hi,rfl,r0,r1,r12,r13⟩
 by_cases hlt:i<a.length
 ·have d1:decide ((i:Int)<(a.length:Int))=true:=decide_eq_true aeK
  have w1:IntKind.i64.wrap ((i:Int)+1)=((i+1:Nat):Int):=aeW;have ix:=fun K=>eu.eq (xs:=a.map bV) (sz:=5) i aeL aeU K
  rw[aeB]at ix;simp only[bV,mY]at ix;simp only[go_sem,r12,r13,d1];simp only[List.append];simp only[go_sem];refine .quiet aeN ?_;simp only[go_sem,r0,r1,ix,and_self,bne_self_eq_false,beq_self_eq_true];refine⟨_,Qy a[i].fields _,?_⟩;simp only[go_sem,r0,r1,ix,and_self];refine⟨_,WM a[i].log _,?_⟩;simp only[go_sem,r13,w1];exact⟨_,aeK,rfl,i+1,aeK,rfl,ae7,ae8,by simp only[go_sem,r12],aeT⟩
 ·have d1:decide ((i:Int)<(a.length:Int))=false:=decide_eq_false aeK
  simp only[go_sem,r12,r13,d1];exact aeV
theorem salike(s:an)(h:Heap):ai prog 16 [bY s,bY s] h fun r h' =>r= .b true∧h' =h:=by
 have hs:=sn s;obtain⟨tick,cs,rv,nt,ro,⟨pid,pset,palg,ptgt,prules,pkids,pobls⟩,ver⟩:=s;rw[hs];simp only[sL,fM,jV,kE,dW];refine aeJ func16 52 [.tmp 4] fun hwf=>?_
 simp only[go_sem];intro i1 h1;simp only[go_sem];intro i2 h2;have n21:=aH h2;have hsub:∀a b,Ab.Sub h (upd (upd h i1 a) i2 b):=fun a b=>((Sub.refl h).put h1 _).put (aB h2) _
 simp only[go_sem,ak,n21.symm,beq_self_eq_true];refine(srC cs _).pthen ?_;simp only[go_sem,ak,n21.symm];refine(WO rv _).pthen ?_;simp only[go_sem,ak,n21.symm];refine(WN nt _).pthen ?_;simp only[go_sem,ak,n21.symm];refine(TF ro _).pthen ?_;simp only[go_sem,ak,n21.symm,beq_self_eq_true];refine ai.pthen (show ai prog 64 [_,_] _ _ from srP (.mk pid pset palg ptgt prules pkids pobls) _) ?_
 simp only[go_sem];exact .mk _ (.refl _) (hsub _ _) ⟨rfl,rfl⟩
theorem BT(s:an)(L:List AV)(hL:cL s=L)(h:Heap):ai prog 16 [bY s,.agg L] h fun r h' =>r= .b true∧h' =h:=by subst hL;exact salike s h
end Go.Proofs.YtokahfmoollblaaGreatDoor
namespace Go.Proofs
open Go.Shelf
open Go.RowKit in
open Go.RowKit in
def Tryz.Ep:Go.Shelf.Ren:=⟨fun|121=>121|214=>169|n=>n,fun|4=>4|9=>9|n=>n,fun|n=>n⟩
theorem Tryz.PT:Go.Proofs.Lays.n121 Tryz.prog Tryz.Ep:={
 mixed:=aeN
 f121:=Tryz.func121.trans (congrArg some aeN)
 f214:=Tryz.func169.trans (congrArg some aeN)
 t4:=Tryz.underlying4
 a4:=Tryz.isAgg4
 z4:=Tryz.sizeOf4
 v4:=Tryz.zeroValue4
 t9:=Tryz.underlying9
 a9:=Tryz.isAgg9
 z9:=Tryz.sizeOf9
 v9:=Tryz.zeroValue9}
open Go.RowKit in
theorem Tryz.strconv_FormatBool(b:Bool)(w:World):
  Calls Tryz.prog 121 #[.bool b] w fun e w' =>e= .returned (.string ⟨(Lib.formatBool b).toArray⟩)∧w' =w:=Any.strconv_FormatBool Tryz.PT b w
def Tryz.CI:Go.Shelf.Ren:=⟨fun|171=>53|243=>120|246=>168|283=>220|284=>221|285=>222|286=>223|129=>261|317=>260|318=>262|319=>263|320=>264|337=>289|338=>290|n=>n,fun|3=>3|9=>9|2=>2|4=>4|171=>307|0=>0|53=>76|37=>82|5=>5|173=>310|212=>346|51=>152|20=>20|213=>347|46=>223|232=>399|233=>400|n=>n,fun|17=>3|18=>4|19=>5|n=>n⟩
theorem Tryz.M4:Go.Proofs.LaysM.n171 Tryz.prog Tryz.CI:={
 mixed:=aeN
 f129:=Tryz.func261.trans (congrArg some aeN)
 f171:=Tryz.func53.trans (congrArg some aeN)
 f243:=Tryz.func120.trans (congrArg some aeN)
 f246:=Tryz.func168.trans (congrArg some aeN)
 f283:=Tryz.func220.trans (congrArg some aeN)
 f284:=Tryz.func221.trans (congrArg some aeN)
 f285:=Tryz.func222.trans (congrArg some aeN)
 f286:=Tryz.func223.trans (congrArg some aeN)
 f317:=Tryz.func260.trans (congrArg some aeN)
 f318:=Tryz.func262.trans (congrArg some aeN)
 f319:=Tryz.func263.trans (congrArg some aeN)
 f320:=Tryz.func264.trans (congrArg some aeN)
 f337:=Tryz.func289.trans (congrArg some aeN)
 f338:=Tryz.func290.trans (congrArg some aeN)
 t0:=Tryz.underlying0
 a0:=Tryz.isAgg0
 z0:=Tryz.sizeOf0
 v0:=Tryz.zeroValue0
 t2:=Tryz.underlying2
 a2:=Tryz.isAgg2
 z2:=Tryz.sizeOf2
 v2:=Tryz.zeroValue2
 t3:=Tryz.underlying3
 a3:=Tryz.isAgg3
 z3:=Tryz.sizeOf3
 v3:=Tryz.zeroValue3
 t4:=Tryz.underlying4
 a4:=Tryz.isAgg4
 z4:=Tryz.sizeOf4
 v4:=Tryz.zeroValue4
 t5:=Tryz.underlying5
 a5:=Tryz.isAgg5
 z5:=Tryz.sizeOf5
 v5:=Tryz.zeroValue5
 t9:=Tryz.underlying9
 a9:=Tryz.isAgg9
 z9:=Tryz.sizeOf9
 v9:=Tryz.zeroValue9
 t20:=Tryz.underlying20
 a20:=Tryz.isAgg20
 z20:=Tryz.sizeOf20
 v20:=Tryz.zeroValue20
 t37:=Tryz.underlying82
 a37:=Tryz.isAgg82
 z37:=Tryz.sizeOf82
 v37:=Tryz.zeroValue82
 t46:=Tryz.underlying223
 a46:=Tryz.isAgg223
 z46:=Tryz.sizeOf223
 v46:=Tryz.zeroValue223
 t51:=Tryz.underlying152
 a51:=Tryz.isAgg152
 z51:=Tryz.sizeOf152
 v51:=Tryz.zeroValue152
 t53:=Tryz.underlying76
 a53:=Tryz.isAgg76
 z53:=Tryz.sizeOf76
 v53:=Tryz.zeroValue76
 t171:=Tryz.underlying307
 a171:=Tryz.isAgg307
 z171:=Tryz.sizeOf307
 v171:=Tryz.zeroValue307
 t173:=Tryz.underlying310
 a173:=Tryz.isAgg310
 z173:=Tryz.sizeOf310
 v173:=Tryz.zeroValue310
 t212:=Tryz.underlying346
 a212:=Tryz.isAgg346
 z212:=Tryz.sizeOf346
 v212:=Tryz.zeroValue346
 t213:=Tryz.underlying347
 a213:=Tryz.isAgg347
 z213:=Tryz.sizeOf347
 t232:=Tryz.underlying399
 a232:=Tryz.isAgg399
 z232:=Tryz.sizeOf399
 v232:=Tryz.zeroValue399
 t233:=Tryz.underlying400
 a233:=Tryz.isAgg400
 z233:=Tryz.sizeOf400
 v233:=Tryz.zeroValue400
 g17:=aeN
 g18:=aeN
 g19:=aeN
 i0:=aeN
 i2:=aeN
 i3:=aeN
 i4:=aeN
 i5:=aeN
 i9:=aeN
 i20:=aeN
 i37:=aeN
 i46:=aeN
 i51:=aeN
 i53:=aeN
 i171:=aeN
 i173:=aeN
 i212:=aeN
 i232:=aeN
 i233:=aeN
 m17:=aeN
 m18:=aeN
 m19:=aeN}
open Go.RowKit Go.Sort Go.Lib in
theorem Tryz.strconv_Itoa (n : Int) (h0 : -9223372036854775808 ≤ n) (h1 : n ≤ 9223372036854775807) (w : World) (htab : Lib.TabIs Tryz.prog w "internal/strconv.uint64pow10" .u64 Lib.pow10Tab) :
  Calls Tryz.prog 53 #[.int .i64 n] w fun e w' =>e= .returned (.string ⟨(Lib.itoa n).toArray⟩)∧∃k os,w' =grow (w.drewN k) os:=Any.strconv_Itoa Tryz.M4 n h0 h1 w htab
end Go.Proofs
namespace Go.Proofs.YtokahfmoollblaaGreatDoor
open Go Go.Ab Go.Bf Tryz
abbrev xy(h:Heap):Prop:=Tab h 3 rC
theorem nT(n:Int)(h:Heap)(hn: -9223372036854775808≤n∧n≤9223372036854775807)(ht:xy h):ai prog 53 [.i n] h fun r h' =>r= .s (Lib.itoa n)∧h' =h:=by
 refine .lib ⟨_,func53,aeZ,rfl⟩ fun c vs hs g h1 h2=>?_
 obtain ⟨v,rfl⟩:∃v,vs= #[v]:=Array.size_eq_one_iff.1 h1;have e:v= .int .i64 n:=(h2 0 aeR).bR;subst e;have hv := ht.var (P := prog) (name := "internal/strconv.uint64pow10") aeZ hs g;refine (Tryz.strconv_Itoa n hn.1 hn.2 c.w (by unfold Lib.TabIs; rw [hv]; rfl)).mono ?_
 rintro e w' ⟨rfl,k,os,rfl⟩
 refine⟨⟨_,rfl,fun c' _=> .s _ ?_⟩,rfl,rfl,rfl,?_,fun k hk=>?_⟩
 ·grind [Lib.itoa_length_le,Nat,lim]
 ·simp
 ·show(_++os)[k]? =_
  simp_all [Array.getElem?_append,if_pos]
theorem MB(b:Bool)(h:Heap):ai prog 121 [.b b] h fun r h' =>r= .s (Lib.formatBool b)∧h' =h:=by
 refine .lib ⟨_,func121,aeZ,rfl⟩ fun c vs hs g h1 h2=>?_
 obtain⟨v,rfl⟩:∃v,vs= #[v]:=Array.size_eq_one_iff.1 h1;have e:v= .bool b:=(h2 0 aeR).bR;subst e;refine(Tryz.strconv_FormatBool b c.w).mono ?_
 rintro e w' ⟨rfl,rfl⟩
 exact⟨⟨_,rfl,fun c' _=> .s _ (by cases b<;>decide)⟩,.refl _ _⟩
def Quoted:Prop:=∀(s:Txt) (h:Heap),s.length≤64→ai prog 122 [.s s] h fun r h' =>r= .s (oH s)∧h' =h
def Ad(v:bu):Txt:=if bz v then Bf.kQ v else []
theorem OF(Q:Quoted)(v:bu)(hi:inV v)(h:Heap)(ht:xy h):ai prog 54 [aS v] h fun r h' =>r= .s (Ad v)∧h' =h:=by
 refine aeJ func54 33 [.tmp 2] fun hwf=>?_
 simp only[go_sem,aS];intro id hid;have ht2:xy (upd h id (some (.obj [.i v.kind,.i v.n,.s v.s] 44))):=ht.sub (.aj hid);simp only[go_sem];refine(fY v _).pthen ?_;cases d1:bz v
 ·simp only[go_sem,d1]
  exact .mk _ (.refl _) (.aj hid) ⟨by grind [Ad,ax],rfl⟩
 have hl:lim=9223372036854775808:=rfl;have hil:=Lib.itoa_length_le v.n hi.1 hi.2;cases k1:(v.kind==1)
 case true=>have e1:v.kind=1:=aeL;simp only[go_sem,d1,k1];refine(MB _ _).pthen ?_;exact ajP
 have e1:v.kind≠1:=aeL;cases k4:(v.kind==4)
 case true=>have e4:v.kind=4:=aeL;simp only[go_sem,d1,k1,k4];refine(nT _ _ hi ht2).pthen ?_;have c1:0+1+(Lib.itoa v.n).length<lim:=aeK;simp only[go_sem,c1];exact .mk _ (.refl _) (.aj hid) ⟨ahV,rfl⟩
 have e4:v.kind≠4:=aeL;cases k5:(v.kind==5)
 case true=>
  have e5:v.kind=5:=aeL;have hn:v.s.length≤16:=by grind [bz,Bx]
  have c1:0+1+v.s.length<lim:=aeK;simp only[go_sem,d1,k1,k4,k5,c1];exact .mk _ (.refl _) (.aj hid) ⟨ahV,rfl⟩
 have e5:v.kind≠5:=aeL;cases k3:(v.kind==3)
 case true=>
  have e3:v.kind=3:=aeL;have hn:v.s.length≤64:=by grind [bz]
  simp only[go_sem,d1,k1,k4,k5,k3];refine(Q _ _ hn).pthen ?_;exact ajP
 have e3:v.kind≠3:=aeL;simp only[go_sem,d1,k1,k4,k5,k3];refine(nT _ _ hi ht2).pthen ?_;exact ajP
end Go.Proofs.YtokahfmoollblaaGreatDoor
namespace Go.Proofs
open Go.Shelf
def Tryz.wU:Go.Shelf.Ren:=⟨fun|166=>171|167=>170|169=>172|240=>224|276=>265|n=>n,fun|31=>22|72=>257|76=>170|70=>255|37=>82|75=>169|127=>312|164=>349|80=>229|n=>n,fun|n=>n⟩
theorem Tryz.PV:Go.Proofs.Lays.n167 Tryz.prog Tryz.wU:={
 mixed:=aeN
 f167:=Tryz.func170.trans (congrArg some aeN)
 f240:=Tryz.func224.trans (congrArg some aeN)
 f276:=Tryz.func265.trans (congrArg some aeN)
 t0:=Tryz.underlying0
 a0:=Tryz.isAgg0
 z0:=Tryz.sizeOf0
 v0:=Tryz.zeroValue0
 t4:=Tryz.underlying4
 a4:=Tryz.isAgg4
 z4:=Tryz.sizeOf4
 v4:=Tryz.zeroValue4
 t5:=Tryz.underlying5
 a5:=Tryz.isAgg5
 z5:=Tryz.sizeOf5
 v5:=Tryz.zeroValue5
 t9:=Tryz.underlying9
 a9:=Tryz.isAgg9
 z9:=Tryz.sizeOf9
 v9:=Tryz.zeroValue9
 t20:=Tryz.underlying20
 a20:=Tryz.isAgg20
 z20:=Tryz.sizeOf20
 v20:=Tryz.zeroValue20
 t37:=Tryz.underlying82
 a37:=Tryz.isAgg82
 z37:=Tryz.sizeOf82
 v37:=Tryz.zeroValue82
 t70:=Tryz.underlying255
 a70:=Tryz.isAgg255
 z70:=Tryz.sizeOf255
 v70:=Tryz.zeroValue255
 t72:=Tryz.underlying257
 a72:=Tryz.isAgg257
 z72:=Tryz.sizeOf257
 v72:=Tryz.zeroValue257
 t75:=Tryz.underlying169
 a75:=Tryz.isAgg169
 z75:=Tryz.sizeOf169
 v75:=Tryz.zeroValue169
 t164:=Tryz.underlying349
 a164:=Tryz.isAgg349
 z164:=Tryz.sizeOf349
 v164:=Tryz.zeroValue349
}
def Tryz.wR:Go.Shelf.Ren:=⟨fun|166=>171|167=>170|169=>172|240=>224|276=>265|n=>n,fun|31=>22|72=>257|76=>170|70=>255|37=>82|75=>169|127=>312|164=>349|80=>229|n=>n,fun|n=>n⟩
theorem Tryz.PU:Go.Proofs.Lays.n166 Tryz.prog Tryz.wR:={
 mixed:=aeN
 f166:=Tryz.func171.trans (congrArg some aeN)
 f240:=Tryz.func224.trans (congrArg some aeN)
 f276:=Tryz.func265.trans (congrArg some aeN)
 t0:=Tryz.underlying0
 a0:=Tryz.isAgg0
 z0:=Tryz.sizeOf0
 v0:=Tryz.zeroValue0
 t3:=Tryz.underlying3
 a3:=Tryz.isAgg3
 z3:=Tryz.sizeOf3
 v3:=Tryz.zeroValue3
 t4:=Tryz.underlying4
 a4:=Tryz.isAgg4
 z4:=Tryz.sizeOf4
 v4:=Tryz.zeroValue4
 t9:=Tryz.underlying9
 a9:=Tryz.isAgg9
 z9:=Tryz.sizeOf9
 v9:=Tryz.zeroValue9
 t20:=Tryz.underlying20
 a20:=Tryz.isAgg20
 z20:=Tryz.sizeOf20
 v20:=Tryz.zeroValue20
 t37:=Tryz.underlying82
 a37:=Tryz.isAgg82
 z37:=Tryz.sizeOf82
 v37:=Tryz.zeroValue82
 t70:=Tryz.underlying255
 a70:=Tryz.isAgg255
 z70:=Tryz.sizeOf255
 v70:=Tryz.zeroValue255
 t72:=Tryz.underlying257
 a72:=Tryz.isAgg257
 z72:=Tryz.sizeOf257
 v72:=Tryz.zeroValue257
 t75:=Tryz.underlying169
 a75:=Tryz.isAgg169
 z75:=Tryz.sizeOf169
 v75:=Tryz.zeroValue169
 t164:=Tryz.underlying349
 a164:=Tryz.isAgg349
 z164:=Tryz.sizeOf349
 v164:=Tryz.zeroValue349
}
def Tryz.wV:Go.Shelf.Ren:=⟨fun|166=>171|167=>170|169=>172|240=>224|276=>265|n=>n,fun|31=>22|72=>257|76=>170|70=>255|37=>82|75=>169|127=>312|164=>349|80=>229|n=>n,fun|n=>n⟩
theorem Tryz.PW:Go.Proofs.Lays.n169 Tryz.prog Tryz.wV:={
 mixed:=aeN
 f169:=Tryz.func172.trans (congrArg some aeN)
 t0:=Tryz.underlying0
 a0:=Tryz.isAgg0
 z0:=Tryz.sizeOf0
 v0:=Tryz.zeroValue0
 t3:=Tryz.underlying3
 a3:=Tryz.isAgg3
 z3:=Tryz.sizeOf3
 v3:=Tryz.zeroValue3
 t9:=Tryz.underlying9
 a9:=Tryz.isAgg9
 z9:=Tryz.sizeOf9
 v9:=Tryz.zeroValue9
 t37:=Tryz.underlying82
 a37:=Tryz.isAgg82
 z37:=Tryz.sizeOf82
 v37:=Tryz.zeroValue82
 t70:=Tryz.underlying255
 a70:=Tryz.isAgg255
 z70:=Tryz.sizeOf255
 v70:=Tryz.zeroValue255
 t72:=Tryz.underlying257
 a72:=Tryz.isAgg257
 z72:=Tryz.sizeOf257
 v72:=Tryz.zeroValue257
 t127:=Tryz.underlying312
 a127:=Tryz.isAgg312
 z127:=Tryz.sizeOf312
 v127:=Tryz.zeroValue312
}
theorem Tryz.tE:Builder.Extra Tryz.prog Tryz.wU where
 sizeBuilder:=aeN
 liesBuilder:=aeN
 t5:=Tryz.underlying5
 a5:=Tryz.isAgg5
 z5:=Tryz.sizeOf5
 v5:=Tryz.zeroValue5
 infoByte:=aeN
 cellsByte:=aeN
 sizeByte:=aeN
 neB5:=aeO
theorem Tryz.tD:Builder.Extra Tryz.prog Tryz.wR where
 sizeBuilder:=aeN
 liesBuilder:=aeN
 t5:=Tryz.underlying5
 a5:=Tryz.isAgg5
 z5:=Tryz.sizeOf5
 v5:=Tryz.zeroValue5
 infoByte:=aeN
 cellsByte:=aeN
 sizeByte:=aeN
 neB5:=aeO
theorem Tryz.tF:Builder.Extra Tryz.prog Tryz.wV where
 sizeBuilder:=aeN
 liesBuilder:=aeN
 t5:=Tryz.underlying5
 a5:=Tryz.isAgg5
 z5:=Tryz.sizeOf5
 v5:=Tryz.zeroValue5
 infoByte:=aeN
 cellsByte:=aeN
 sizeByte:=aeN
 neB5:=aeO
theorem Tryz.Builder_WriteByte_k(B b:Nat)(bs:List Value)(c:Int)(w:World)(h:Lib.IsBuilderF 257 5 B b bs w)(hlen:bs.length+1≤140737488355328)(hBw:B≤w.heap.size):
  Calls Tryz.prog 170 #[.pointer (some ⟨b,0,none⟩),.int .u8 c] w fun e w' =>e= .returned .nilIface∧(Lib.BuilderAtF 257 5 B b (.pointer (some ⟨b,0,none⟩)) (bs++ [.int .u8 c]) w'∧RowKit.Below B w w'∧Lib.OthersKept 5 (some b) w w'):=Any.Builder_WriteByte_k Tryz.PV Tryz.tE B b bs c w h hlen hBw
theorem Tryz.Builder_WriteString_k(B b:Nat)(bs:List Value)(s:ByteArray)(w:World)(h:Lib.IsBuilderF 257 5 B b bs w)(hlen:bs.length+s.size≤140737488355328)(hBw:B≤w.heap.size):
  Calls Tryz.prog 171 #[.pointer (some ⟨b,0,none⟩),.string s] w fun e w' =>e= .returned (.tuple #[.int .i64 s.size,.nilIface])∧(Lib.BuilderAtF 257 5 B b (.pointer (some ⟨b,0,none⟩)) (bs++Lib.strCells s) w'∧RowKit.Below B w w'∧Lib.OthersKept 5 (some b) w w'):=Any.Builder_WriteString_k Tryz.PU Tryz.tD B b bs s w h hlen hBw
theorem Tryz.Builder_String_k(B b:Nat)(l:List UInt8)(w:World)(h:Lib.IsBuilderF 257 5 B b (Lib.byteCells l) w)(h0:l≠ []):
  Calls Tryz.prog 172 #[.pointer (some ⟨b,0,none⟩)] w fun e w' =>e= .returned (.string ⟨l.toArray⟩)∧(Lib.IsBuilderF 257 5 B b (Lib.byteCells l) w'∧RowKit.Below B w w'∧Lib.OthersKept 5 (some b) w w'):=Any.Builder_String_k Tryz.PW Tryz.tF B b l w h h0
end Go.Proofs
namespace Go.Proofs
open Go.RowKit
def Tryz.di(s:ByteArray)(k:Nat):List UInt8:=[34]++((s.data.toList.take k).map Bf.oF).flatten
theorem Tryz.Za:∀c:Fin 256,bits BinOp.and IntKind.u8 (c.val:Int) 15=((c.val % 16:Nat):Int):=aeO
theorem Tryz.Ef(n:Nat)(hn:n<16)(w:World):(Instr.slice 9 (Value.string {data:= #[48,49,50,51,52,53,54,55,56,57,97,98,99,100,101,102]}) (some (.int .u8 (n:Int))) (some (.int .u8 (IntKind.u8.wrap ((n:Int)+1)))) none).run Tryz.prog w= .ok (.string ⟨#[Bf.GD n]⟩) w:=by
 have e:IntKind.u8.wrap ((n:Int)+1)=((n+1:Nat):Int):=by have:n=0∨n=1∨n=2∨n=3∨n=4∨n=5∨n=6∨n=7∨n=8∨n=9∨n=10∨n=11∨n=12∨n=13∨n=14∨n=15:=aeK;rcases this with rfl|rfl|rfl|rfl|rfl|rfl|rfl|rfl|rfl|rfl|rfl|rfl|rfl|rfl|rfl|rfl<;>decide
 rw[e,run_slice_string w 9 _ .u8 .u8 (n:Int) ((n+1:Nat):Int) Tryz.underlying9 aeK aeK (by show((n+1:Nat):Int)≤16;omega)]
 have:n=0∨n=1∨n=2∨n=3∨n=4∨n=5∨n=6∨n=7∨n=8∨n=9∨n=10∨n=11∨n=12∨n=13∨n=14∨n=15:=aeK;rcases this with rfl|rfl|rfl|rfl|rfl|rfl|rfl|rfl|rfl|rfl|rfl|rfl|rfl|rfl|rfl|rfl<;>rfl
theorem Tryz.uG(s:ByteArray)(k:Nat)(hk:k≤s.size)(hs:s.size≤64):(Tryz.di s k).length≤193:=by
 have:∀l:List UInt8,((l.map Bf.oF).flatten).length≤3*l.length:=fun l=>by
  induction l with
  |nil=>simp
  |cons c r ih=>
   have:(Bf.oF c).length≤3:=by unfold Bf.oF;split<;>simp
   simp only[List.map_cons,List.flatten_cons,aeE,List.length_cons]at ih⊢;omega
 have h1:=this (s.data.toList.take k);have h2:(s.data.toList.take k).length≤64:=by have:s.size=s.data.toList.length:=Array.length_toList.symm;simp;omega
 unfold Tryz.di;simp only[aeE,List.length_cons,List.length_nil];omega
theorem Tryz.rE(s:ByteArray)(k:Nat)(hk:k<s.size):Tryz.di s (k+1)=Tryz.di s k++Bf.oF s[k]:=by have e:s.size=s.data.toList.length:=Array.length_toList.symm;have hk2:k<s.data.toList.length:=aeK;unfold Tryz.di;rw[List.take_succ_eq_append_getElem hk2,List.map_append,List.flatten_append];simp only[List.map_cons,List.map_nil,List.flatten_cons,List.flatten_nil,List.append_nil,List.append_assoc];rfl
theorem Tryz.AF(s:ByteArray):Tryz.di s s.size++ [34]=Bf.oH s.data.toList:=by have e:s.size=s.data.toList.length:=Array.length_toList.symm;unfold Tryz.di Bf.oH;rw[e,List.take_length]
theorem Tryz.rY(s:ByteArray)(k:Nat)(hk:k<s.size)(ho:Bf.uo s[k]=true):
  Lib.byteCells (Tryz.di s k)++Lib.strCells (({data:= #[92]}:ByteArray)++ {data:= #[Bf.GD (s[k].toNat / 16)]}++ {data:= #[Bf.GD (s[k].toNat % 16)]})=Lib.byteCells (Tryz.di s (k+1)):=by
 rw[Tryz.rE s k hk,Lib.byteCells_append]
 congr 1
 rw[Bf.oF,if_pos ho];rfl
theorem Tryz.Gd(s:ByteArray)(k:Nat)(hk:k<s.size)(ho:Bf.uo s[k]=false):
  Lib.byteCells (Tryz.di s k)++ [Value.int .u8 (s[k].toNat:Int)]=Lib.byteCells (Tryz.di s (k+1)):=by
 rw[Tryz.rE s k hk,Lib.byteCells_append]
 congr 1
 rw[Bf.oF,if_neg (by simp[ho])]
 rfl
set_option maxHeartbeats 4000000 in
theorem Tryz.E1(s:ByteArray)(w:World)(hs:s.size≤64):
  Calls Tryz.prog 122 #[.string s] w fun e w' =>e= .returned (.string ⟨(Bf.oH s.data.toList).toArray⟩)∧Below w.heap.size w w' :=by
 go_enter Tryz.func122,Tryz.ntmps122
 go_wp2_with (go_at_call 170;refine(Tryz.Builder_WriteByte_k w.heap.size w.heap.size [] 34 _ (Lib.IsBuilderF.of (Lib.fresh_isBuilder 257 5 w)) aeR aeR).mono ?_)
 rintro e W0 ⟨rfl,h0,b0,_⟩
 go_wp2
 go_loopw [9] (fun v wr=>∃k:Nat,v= .int .i64 k∧k≤s.size∧Lib.IsBuilderF 257 5 w.heap.size w.heap.size (Lib.byteCells (Tryz.di s k)) wr∧Below w.heap.size w wr) (fun v _=>s.size - (intOf v).toNat)
 case atStart=>
  refine⟨0,rfl,aeK,?_,?_⟩
  ·exact Or.inr h0
  ·exact((Below.refl _ w).alloc (Nat.le_refl _) _).trans b0
 case round=>
  obtain⟨k,rfl,hk,hI,hbw⟩:=hrel
  by_cases hp:k<s.size
  ·have hx1:∀w,(Instr.slice 9 (Value.string {data:= #[48,49,50,51,52,53,54,55,56,57,97,98,99,100,101,102]}) (some (.int .u8 ((s[k].toNat:Int) / 16))) (some (.int .u8 (IntKind.u8.wrap ((s[k].toNat:Int) / 16+1)))) none).run Tryz.prog w= .ok (.string ⟨#[Bf.GD (s[k].toNat / 16)]⟩) w:=
    fun w=>Tryz.Ef (s[k].toNat / 16) (by have:=s[k].toNat_lt;omega) w
   have hb:bits BinOp.and IntKind.u8 (s[k].toNat:Int) 15=((s[k].toNat % 16:Nat):Int):=Tryz.Za ⟨s[k].toNat,s[k].toNat_lt⟩;have hx2:∀w,(Instr.slice 9 (Value.string {data:= #[48,49,50,51,52,53,54,55,56,57,97,98,99,100,101,102]}) (some (.int .u8 (bits BinOp.and IntKind.u8 (s[k].toNat:Int) 15))) (some (.int .u8 (IntKind.u8.wrap (bits BinOp.and IntKind.u8 (s[k].toNat:Int) 15+1)))) none).run Tryz.prog w= .ok (.string ⟨#[Bf.GD (s[k].toNat % 16)]⟩) w:=by intro w;rw[hb];exact Tryz.Ef (s[k].toNat % 16) aeK w
   clear hb;have hql:=Tryz.uG s k hk hs
   by_cases d1:(s[k].toNat:Int)<32
   ·go_wp2
    refine wp_region_still_tail 14 aeN aeN ?_;simp only[List.take_succ_cons,List.take_zero,List.drop_succ_cons,List.drop_zero]
    (repeat still_step)
    try refine wpStill_nil ?_
    have hI2:Lib.IsBuilderF 257 5 w.heap.size w.heap.size (Lib.byteCells (Tryz.di s k)) wr.drew:=hI;have hbw2:Below w.heap.size w wr.drew:=hbw.drew
    change wpList _ _ _ _ _ wr.drew
    generalize wr.drew=w2 at hI2 hbw2⊢
    go_wp2_with (go_at_call 171;refine(Tryz.Builder_WriteString_k w.heap.size w.heap.size _ _ _ hI2 age hbw2.size).mono ?_)
    rintro e W1 ⟨rfl,h1,b1,_⟩
    go_wp2
    go_roundw
    case rel=>
     refine⟨k+1,by go_num,aeK,?_,hbw2.trans b1⟩
     rw[←Tryz.rY s k hp (by simp[Bf.uo,d1])]
     exact aiD
    case measure=>simp[intOf];omega
   by_cases d2:126<(s[k].toNat:Int)
   ·go_wp2
    refine wp_region_still_tail 14 aeN aeN ?_;simp only[List.take_succ_cons,List.take_zero,List.drop_succ_cons,List.drop_zero]
    (repeat still_step)
    try refine wpStill_nil ?_
    have hI2:Lib.IsBuilderF 257 5 w.heap.size w.heap.size (Lib.byteCells (Tryz.di s k)) wr.drew:=hI;have hbw2:Below w.heap.size w wr.drew:=hbw.drew
    change wpList _ _ _ _ _ wr.drew
    generalize wr.drew=w2 at hI2 hbw2⊢
    go_wp2_with (go_at_call 171;refine(Tryz.Builder_WriteString_k w.heap.size w.heap.size _ _ _ hI2 age hbw2.size).mono ?_)
    rintro e W1 ⟨rfl,h1,b1,_⟩
    go_wp2
    go_roundw
    case rel=>
     refine⟨k+1,by go_num,aeK,?_,hbw2.trans b1⟩
     rw[←Tryz.rY s k hp (by simp[Bf.uo,d2])]
     exact aiD
    case measure=>simp[intOf];omega
   cases d3:((s[k].toNat:Int)==34)
   case true=>
    go_wp2
    refine wp_region_still_tail 14 aeN aeN ?_;simp only[List.take_succ_cons,List.take_zero,List.drop_succ_cons,List.drop_zero]
    (repeat still_step)
    try refine wpStill_nil ?_
    have hI2:Lib.IsBuilderF 257 5 w.heap.size w.heap.size (Lib.byteCells (Tryz.di s k)) wr.drew:=hI;have hbw2:Below w.heap.size w wr.drew:=hbw.drew
    change wpList _ _ _ _ _ wr.drew
    generalize wr.drew=w2 at hI2 hbw2⊢
    go_wp2_with (go_at_call 171;refine(Tryz.Builder_WriteString_k w.heap.size w.heap.size _ _ _ hI2 age hbw2.size).mono ?_)
    rintro e W1 ⟨rfl,h1,b1,_⟩
    go_wp2
    go_roundw
    case rel=>
     refine⟨k+1,by go_num,aeK,?_,hbw2.trans b1⟩
     rw[←Tryz.rY s k hp (by simp[Bf.uo,d3])]
     exact aiD
    case measure=>simp[intOf];omega
   cases d4:((s[k].toNat:Int)==92)
   case true=>
    go_wp2
    refine wp_region_still_tail 14 aeN aeN ?_;simp only[List.take_succ_cons,List.take_zero,List.drop_succ_cons,List.drop_zero]
    (repeat still_step)
    try refine wpStill_nil ?_
    have hI2:Lib.IsBuilderF 257 5 w.heap.size w.heap.size (Lib.byteCells (Tryz.di s k)) wr.drew:=hI;have hbw2:Below w.heap.size w wr.drew:=hbw.drew
    change wpList _ _ _ _ _ wr.drew
    generalize wr.drew=w2 at hI2 hbw2⊢
    go_wp2_with (go_at_call 171;refine(Tryz.Builder_WriteString_k w.heap.size w.heap.size _ _ _ hI2 age hbw2.size).mono ?_)
    rintro e W1 ⟨rfl,h1,b1,_⟩
    go_wp2
    go_roundw
    case rel=>
     refine⟨k+1,by go_num,aeK,?_,hbw2.trans b1⟩
     rw[←Tryz.rY s k hp (by simp[Bf.uo,d4])]
     exact aiD
    case measure=>simp[intOf];omega
   go_wp2_with (go_at_call 170;refine(Tryz.Builder_WriteByte_k w.heap.size w.heap.size _ _ _ hI (by rw[Lib.byteCells_length];omega) hbw.size).mono ?_)
   rintro e W1 rfl h1 b1 _
   go_wp2
   go_roundw
   case rel=>
    refine⟨k+1,by go_num,aeK,?_,hbw.trans b1⟩
    rw[←Tryz.Gd s k hp (by simp[Bf.uo,d1,d2,d3,d4])]
    exact aiD
   case measure=>simp[intOf];omega
  ·have hk2:k=s.size:=by omega
   subst hk2;have hql:=Tryz.uG s s.size hk hs
   go_wp2_with (go_at_call 170;refine(Tryz.Builder_WriteByte_k w.heap.size w.heap.size _ _ _ hI (by rw[Lib.byteCells_length];omega) hbw.size).mono ?_)
   rintro e W1 ⟨rfl,h1,b1,_⟩
   have e34:Lib.byteCells (Tryz.di s s.size)++ [Value.int .u8 34]=Lib.byteCells (Bf.oH s.data.toList):=by rw[←Tryz.AF,Lib.byteCells_append];rfl
   rw[e34]at h1
   go_wp2_with (go_at_call 172;refine(Tryz.Builder_String_k w.heap.size w.heap.size _ _ (Or.inr h1) (by simp[Bf.oH])).mono ?_)
   rintro e W2 ⟨rfl,_,b2,_⟩
   go_wp2
   go_ret
   exact⟨rfl,(hbw.trans b1).trans b2⟩
end Go.Proofs
namespace Go.Proofs.YtokahfmoollblaaGreatDoor
open Go Go.Ab Go.Bf Tryz
theorem KQ:Quoted:=fun s h hs=>by
 refine .lib ⟨_,func122,aeN,rfl⟩ fun c vs hs' g h1 h2=>?_
 obtain⟨v,rfl⟩:∃v,vs= #[v]:=Array.size_eq_one_iff.1 h1;have e:v= .string ⟨s.toArray⟩:=((h2 0 aeR).l8).1;subst e;refine(Tryz.E1 ⟨s.toArray⟩ c.w (by simpa[ByteArray.size]using hs)).mono ?_
 rintro e w' ⟨rfl,hb⟩
 have hl:=BK s hs;exact⟨⟨_,rfl,fun c' _=> .s _ (by show(oH s).length<lim;have:(194:Nat)<lim:=aeO;omega)⟩,hb⟩
end Go.Proofs.YtokahfmoollblaaGreatDoor
