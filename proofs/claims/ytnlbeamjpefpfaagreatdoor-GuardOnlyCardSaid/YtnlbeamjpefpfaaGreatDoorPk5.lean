/- The law GuardOnly: pack 5 of its texts. -/
import Derived.Lib.ItoaLen
import Derived.Test.YtnlbeamjpefpfaaGreatDoorPk1
import Derived.Test.YtnlbeamjpefpfaaGreatDoorPk2
import Derived.Test.YtnlbeamjpefpfaaGreatDoorPk3
import Derived.Test.YtnlbeamjpefpfaaGreatDoorPk4
set_option linter.unusedSimpArgs false
set_option linter.unusedVariables false
namespace Go.Ab
open Go
theorem OwE.bH {tb:TypeId} {h0 h1 h:Heap} {sz:Nat} {y:AV} {xs:List AV} (hw:OwE tb h1 h sz y xs) (hs:∀i,h1 i=Option.none→h0 i=Option.none):OwE tb h0 h sz y xs:=by
 rcases hw with hw|⟨id,e,hw⟩
 ·exact .inl hw
 ·exact .inr ⟨id,hs _ e,hw⟩
end Go.Ab
namespace Go.Proofs.YtnlbeamjpefpfaaGreatDoor
open Go Go.Ab Go.Bf
theorem eT.bH {g h0 h:Heap} {ys:List AV} {x:AV} {c:aJ} (hm:eT h0 h ys x c) (hg:∀i,h0 i=none→g i=none):eT g h ys x c:=by
 obtain ⟨f,l,e,a,b,c⟩:=hm;exact ⟨f,l,e,a.bH hg,b.bH hg,c⟩
theorem kE.bH {g h0 h:Heap} {ys:List AV} {y:AV} {cs:List aJ} {i0:Nat} (ho:kE h0 h ys y cs i0) (hg:∀i,h0 i=none→g i=none):kE g h ys y cs i0:=by
 obtain ⟨xs,a,b,c,d⟩:=ho;exact ⟨xs,a.bH hg,b,c,fun h1 h2=>(d h1 h2).bH hg⟩
theorem qP.bH {g h0 h:Heap} {x:AV} {s:an} {i0:Nat} (ho:qP h0 h x s i0) (hg:∀i,h0 i=none→g i=none):qP g h x s i0:=by
 obtain ⟨y1,y2,y3,y4,e,a,b,c,d,r⟩:=ho;exact ⟨y1,y2,y3,y4,e,a.bH hg,b.bH hg,c.bH hg,d.bH hg,r⟩
theorem ng {g K:Heap} {S:an} {j:Nat} {y1 y2 y3 y4:AV} {tk ver palg:Int} {pid:Txt} {pset:Bool} {ptgt:fP} {prules:List cO} {pkids:List bG} {pobls:List cw} (h1:S.tick=tk) (h2:S.policy= .mk pid pset palg ptgt prules pkids pobls) (h3:S.version=ver)
  (a:kE g K [y1,y2,y3,y4] y1 S.cases j) (b:OwE 71 g K 7 y2 (S.reviews.map fL)) (c:OwE 84 g K 3 y3 (S.notices.map ku)) (d:OwE 54 g K 2 y4 (S.roles.map cD)) (ap:apart y1 y2∧apart y1 y3∧apart y1 y4∧apart y2 y3∧apart y2 y4∧apart y3 y4):
  qP g K (.agg [.v (.int .i64 tk),y1,y2,y3,y4, .s pid, .v (.bool pset), .v (.int .i64 palg),aT ptgt, .sl (prules.map aB) .no, .sl (pkids.map aK) .no,au pobls, .v (.int .i64 ver)]) S j:=by
 refine ⟨y1,y2,y3,y4, ?_,a,b,c,d,ap⟩;rw [h1,h2,h3,show fB (.mk pid pset palg ptgt prules pkids pobls)= [.s pid, .v (.bool pset), .v (.int .i64 palg),aT ptgt, .sl (prules.map aB) .no, .sl (pkids.map aK) .no,au pobls] by simp [fB,aV]]
 rfl
theorem kE.move {h0 h h' :Heap} {ys ys' :List AV} {y z:AV} {cs:List aJ} {i0:Nat} (ho:kE h0 h ys y cs i0) (hz:z∈ys) (hy:apart y z) (hk:∀id,h0 id=none→h id≠none→nid z≠some id→h' id=h id)
  (hr:∀y'∈ys',∀k,nid y' =some k→h k=none∨∃w∈ys,nid w=some k):kE h0 h' ys' y cs i0:=by
 obtain ⟨xs,a,b,c,d⟩:=ho;refine ⟨xs,a.keep fun id e=>hk id (a.nid e).1 (a.nid e).2.1 (hy id e),b,c,fun h1 h2=> ?_⟩
 obtain ⟨f,l,e,of,ol,hap,hys⟩:=d h1 h2;refine ⟨f,l,e,of.keep fun id e=>hk id (of.nid e).1 (of.nid e).2.1 ((hys z hz).1 id e),ol.keep fun id e=>hk id (ol.nid e).1 (ol.nid e).2.1 ((hys z hz).2 id e),hap,fun w hw=>⟨fun k e1 e2=> ?_,fun k e1 e2=> ?_⟩⟩
 ·rcases hr w hw k e2 with hn|⟨v,hv,e3⟩
  ·exact (of.nid e1).2.1 hn
  ·exact (hys v hv).1 k e1 e3
 ·rcases hr w hw k e2 with hn|⟨v,hv,e3⟩
  ·exact (ol.nid e1).2.1 hn
  ·exact (hys v hv).2 k e1 e3
theorem Kg {g K:Heap} {r X:AV} {A B:List aJ} {C:aJ} {ys:List AV} {j:Nat} (hj:A.length=j) (hw:OwE 78 g K 5 r (A.map bJ++([X]++B.map bJ))) (hX:eT g K ys X C):kE g K ys r (A++ [C]++B) j:=by
 subst hj;refine ⟨_,hw,by simp,fun k h1 h2 hk=> ?_,fun h1 h2=> ?_⟩
 ·by_cases hlt:k<A.length
  ·rw [List.getElem_append_left (by simpa using hlt),V1]
   congr 1
   rw [List.getElem_append_left (by simp; omega),List.getElem_append_left hlt]
  ·have e1:(A.map bJ++([X]++B.map bJ))[k]? =(B[k - A.length - 1]?).map bJ:=by
    rw [List.getElem?_append_right (by simp; omega),List.getElem?_append_right (by simp; omega)]
    simp
   have e2:(A++ [C]++B)[k]? =B[k - A.length - 1]? :=by
    rw [List.append_assoc,List.getElem?_append_right (by omega),List.getElem?_append_right (by simp; omega)]
    simp
   rw [←e2,List.getElem?_eq_getElem h2,List.getElem?_eq_getElem h1] at e1;exact Option.some.inj e1
 ·have e1:(A.map bJ++([X]++B.map bJ))[A.length]'h1=X:=by
   rw [List.getElem_append_right (by simp)]; simp
  have e2:(A++ [C]++B)[A.length]'h2=C:=by
   rw [List.getElem_append_left (by simp),List.getElem_append_right (by simp)]; simp
  rw [e1,e2];exact hX
theorem zU {g K:Heap} {z:AV} {xs:List AV} {cs:List aJ} {j:Nat} {X:AV} {F:aJ→aJ} {ys:List AV} (hw:OwE 78 g K 5 z (xs.set j X)) (hn:xs.length=cs.length) (hlo:∀k (h1:k<xs.length) (h2:k<cs.length),k≠j→xs[k]=bJ cs[k]) (hX:∀h:j<cs.length,eT g K ys X (F cs[j])):kE g K ys z (cs.modify j F) j:=by
 refine ⟨_,hw,by simpa using hn,fun k h1 h2 e=> ?_,fun h1 h2=> ?_⟩
 ·rw [List.getElem_set_ne (Ne.symm e),List.getElem_modify,if_neg (Ne.symm e),hlo k (by simpa using h1) (by simpa using h2) e]
 ·rw [List.getElem_set_self,List.getElem_modify_eq]
  exact hX _
theorem rf {xs:List AV} {j:Nat} (hj:j<xs.length) (x:AV):aq (xs.set j x)=aq (xs.take j)++(x.cells++aq (xs.drop (j+1))):=by
 rw [List.set_eq_take_append_cons_drop,if_pos hj,kO];simp [aq]
theorem zF {xs:List AV} {j:Nat} (hj:j<xs.length):aq xs=aq (xs.take j)++(xs[j].cells++aq (xs.drop (j+1))):=by
 rw [←rf hj xs[j],List.set_getElem_self]
theorem wN {s:an} {o:OpD} (h:bI s o=0) (hk:o.kind=3∨o.kind=4):bM s.cases o.case=true:=by
 cases e:bM s.cases o.case
 ·exfalso
  unfold bI bW at h;have:2≤o.kind∧o.kind≤4:=by omega
  have:o.kind≠1:=by omega
  split at h
  ·cases h
  ·simp only [*] at h
   cases h
 ·rfl
set_option maxRecDepth 100000 in
theorem Hf {g:Heap} {x:AV} {s:an} (hb:RdS g x s) (o:OpD) (hf:Few s) (hp:lD 1 s.policy) (hr:i64 o.review) (ht:i64 s.tick) (hver:0≤s.version∧s.version≤1000000) (he:qq g):
  ak Tryz.prog 37 [x,opA o] g fun r h' =>Ab.Sub g h'∧∃j,qP g h' r (dK aR s o) j∧(bI s o=0→j=findD s.cases o.case):=by
 obtain ⟨i0,ei0⟩:∃i0,(if o.kind=1 then s.cases.length else findD s.cases o.case)=i0:=⟨_,rfl⟩
 have hown:=fun (G:Heap) (hG:Ab.Sub g G)=>MH (hb.sub hG) i0 hf hp
 have hrdy:=fun (G:Heap) (hG:Ab.Sub g G)=>BT (hb.sub hG) o hf hr ht
 obtain ⟨y1,y2,y3,y4,rfl,hb'⟩:=hb;cases hpp:s.policy with
 |mk pid pset palg ptgt prules pkids pobls=>
 have hcC:fB (.mk pid pset palg ptgt prules pkids pobls)= [.s pid, .v (.bool pset), .v (.int .i64 palg),aT ptgt, .sl (prules.map aB) .no, .sl (pkids.map aK) .no,au pobls]:=by simp [fB,aV]
 rw [hpp,hcC] at hown hrdy;simp only [opA,opC,List.cons_append,List.nil_append] at hown hrdy;refine ak.body hU hm Tryz.func37 rfl (by kernel_rfl) 138 rfl [.cell 4 39] rfl (VZ rfl) (fun hwf=> ?_)
 simp only [go_sem,hcC,opA,opC,List.cons_append,List.nil_append];intro i2 h2;simp only [go_sem];intro i3 h3;have n32:=aH h3;have h3' :=aD h3;simp only [go_sem];intro i4 h4;have n43:=aH h4;have h4a:=aD h4;have n42:=aH h4a;have h4' :=aD h4a;simp only [go_sem,aj,n32.symm,n42.symm];obtain ⟨H,eH⟩:∃H,upd (upd (upd g i2 (some (.obj [.v (.int .i64 s.tick),y1,y2,y3,y4, .s pid, .v (.bool pset), .v (.int .i64 palg),aT ptgt, .sl (prules.map aB) .no, .sl (pkids.map aK) .no,au pobls, .v (.int .i64 s.version)] 39))) i3 (some (.obj (opC o) 26))) i4 (some (.obj [.v (.int .i64 0), .sl [] .full, .sl [] .full, .sl [] .full, .sl [] .full, .s [], .v (.bool false), .v (.int .i64 0), .sl [] .full, .sl [] .full, .sl [] .full, .sl [] .full, .v (.int .i64 0)] 39))=H:=⟨_,rfl⟩;have hH:Ab.Sub g H:=by rw [←eH]; exact (((Sub.refl g).put h2 _).put h3' _).put h4' _
 have g2:H i2=some (.obj [.v (.int .i64 s.tick),y1,y2,y3,y4, .s pid, .v (.bool pset), .v (.int .i64 palg),aT ptgt, .sl (prules.map aB) .no, .sl (pkids.map aK) .no,au pobls, .v (.int .i64 s.version)] 39):=by rw [←eH,ag _ _ n42.symm,ag _ _ n32.symm,ah]
 have g3:H i3=some (.obj (opC o) 26):=by rw [←eH,ag _ _ n43.symm,ah]
 have g4:H i4=some (.obj [.v (.int .i64 0), .sl [] .full, .sl [] .full, .sl [] .full, .sl [] .full, .s [], .v (.bool false), .v (.int .i64 0), .sl [] .full, .sl [] .full, .sl [] .full, .sl [] .full, .v (.int .i64 0)] 39):=by rw [←eH,ah]
 simp only [opC] at eH g3;rw [eH];clear eH;refine (hown H hH).mono fun r H1 ⟨hS,s1⟩=> ?_
 obtain ⟨z1,z2,z3,z4,er,hS1⟩:=id hS;subst er;rw [hpp,hcC] at hS⊢;obtain ⟨hC,w2,w3,w4,a12,a13,a14,a23,a24,a34⟩:=hS1;obtain ⟨xs,w1,hnx,hlo,hmy⟩:=id hC;simp only [go_sem,List.cons_append,List.nil_append];intro i5 h5;simp only [go_sem];have q2:=s1 _ _ g2;have q3:=s1 _ _ g3;have q4:=s1 _ _ g4;have n52:i2≠i5:=fun e=>by rw [←e,q2] at h5; cases h5
 have n53:i3≠i5:=fun e=>by rw [←e,q3] at h5; cases h5
 have n54:i4≠i5:=fun e=>by rw [←e,q4] at h5; cases h5
 obtain ⟨K,eK⟩:∃K,upd H1 i5 (some (.obj [.v (.int .i64 s.tick),z1,z2,z3,z4, .s pid, .v (.bool pset), .v (.int .i64 palg),aT ptgt, .sl (prules.map aB) .no, .sl (pkids.map aK) .no,au pobls, .v (.int .i64 s.version)] 39))=K:=⟨_,rfl⟩;have sK:Ab.Sub H1 K:=by rw [←eK]; exact .ai h5
 have k5:K i5=some (.obj [.v (.int .i64 s.tick),z1,z2,z3,z4, .s pid, .v (.bool pset), .v (.int .i64 palg),aT ptgt, .sl (prules.map aB) .no, .sl (pkids.map aK) .no,au pobls, .v (.int .i64 s.version)] 39):=by rw [←eK,ah]
 rw [eK];have hz5:∀k,H k=none→H1 k≠none→k≠i5:=fun k _ hk e=>hk (by rw [e]; exact h5)
 have k2:=sK _ _ q2;have k3:=sK _ _ q3;have k4:=sK _ _ q4;clear eK;have sg:Ab.Sub g K:=hH.trans (s1.trans sK);simp only [go_sem,k2,k3];refine (hrdy K sg).pthen ?_;have g5:g i5=none:=(hH.trans s1).none h5;have kK:∀k,H1 k≠none→K k=H1 k:=fun k hk=>by
  cases e:H1 k with
  |none=>exact (hk e).elim
  |some b=>exact sK _ _ e
 have hz4:∀k,H k=none→k≠i4:=fun k hk e=>by rw [e,g4] at hk; cases hk
 by_cases p0:bI s o=0
 ·have d0:(bI s o !=0)=false:=by simp [p0]
  simp only [go_sem,d0];simp only [go_sem,k5,k3];have hSK:qP H K (.agg ([.v (.int .i64 s.tick),z1,z2,z3,z4]++fB s.policy++ [.v (.int .i64 s.version)])) s i0:=by
   rw [hpp,hcC];exact hS.keepb fun k _ hk=>kK k hk
  have hfi:=zE hSK.rd o.case hf.cases;rw [hpp,hcC] at hfi;simp only [List.cons_append,List.nil_append] at hfi;refine hfi.pthen ?_;simp only [go_sem,k3];have hform:fE o=true:=by
   cases e:fE o
   ·simp [bI,e] at p0
   ·rfl
  have hdone:dK aR s o=doD aR s o:=by simp [dK,p0]
  rw [hdone]
  by_cases p1:o.kind=1
  ·have k1:(o.kind==1)=true:=by simp [p1]
   simp only [go_sem,k1];simp only [go_sem,k3];intro i8 h8;have n82:i2≠i8:=fun e=>by rw [←e,k2] at h8; cases h8
   have n83:i3≠i8:=fun e=>by rw [←e,k3] at h8; cases h8
   have n84:i4≠i8:=fun e=>by rw [←e,k4] at h8; cases h8
   have n85:i5≠i8:=fun e=>by rw [←e,k5] at h8; cases h8
   simp only [go_sem];obtain ⟨K2,eK2⟩:∃K2,upd K i8 (some (.obj [.s o.case, .s o.subj, .s [111,112,101,110], .sl [] .full, .sl [] .full] 78))=K2:=⟨_,rfl⟩;have sK2:Ab.Sub K K2:=by rw [←eK2]; exact .ai h8
   have e8:K2 i8=some (.obj [.s o.case, .s o.subj, .s [111,112,101,110], .sl [] .full, .sl [] .full] 78):=by rw [←eK2,ah]
   rw [eK2];clear eK2;have m3:=sK2 _ _ k3;have m4:=sK2 _ _ k4;have m5:=sK2 _ _ k5;simp only [go_sem,m3,m5];have hha:=qC (h0:=H) (s:=s) z1 z2 z3 z4 (k:=i8) (o:=0) (A:= []) (B:= []) (t:=78) (c:=⟨o.case,o.subj,gI,[],[]⟩) (f:= .sl [] .full) (l:= .sl [] .full) rfl e8 (by decide) (.inl ⟨rfl,rfl⟩) (s1.trans (sK.trans sK2)) (Nat.zero_le _) o.subj [110,101,119]
   rw [hpp,hcC] at hha;simp only [List.cons_append,List.nil_append] at hha;refine hha.mono fun r K3 ⟨l',ol,e8',fr3,ap3⟩=> ?_
   have kK3:∀k,K2 k≠none→k≠i8→K3 k=K2 k:=fun k hk hk8=>fr3 k hk hk8 (by simp [nid])
   have m3' :K3 i3=_:=(kK3 i3 (by rw [m3]; simp) n83).trans m3
   have m4' :K3 i4=_:=(kK3 i4 (by rw [m4]; simp) n84).trans m4
   have m5' :K3 i5=_:=(kK3 i5 (by rw [m5]; simp) n85).trans m5
   simp only [bZ,List.append_nil] at e8';simp only [go_sem];simp only [go_sem,m5',e8'];have kk2:∀k,H1 k≠none→K2 k=H1 k:=fun k hk=>by
    have:=kK k hk;cases e:K k with
    |none=>rw [e] at this; exact (hk this.symm).elim
    |some b=>rw [sK2 _ _ e,←e,this]
   have k8:∀k,H1 k≠none→k≠i8:=fun k hk e=>hk (by have:=kK k hk; rw [e,h8] at this; rw [e]; exact this.symm)
   have kk3:∀k,H1 k≠none→K3 k=H1 k:=fun k hk=>(kK3 k (by rw [kk2 k hk]; exact hk) (k8 k hk)).trans (kk2 k hk)
   have sH3:Ab.Sub H1 K3:=fun k b hk=>by rw [kk3 k (by rw [hk]; simp)]; exact hk
   have hfl:findD s.cases o.case≤s.cases.length:=List.findIdx_le_length;have hfc:=hf.cases;refine (CW z1 xs (.agg [.s o.case, .s o.subj, .s gI, .sl [] .full,l']) (findD s.cases o.case) H K3 (w1.keepb fun k _ hk=>kk3 k hk) (s1.trans sH3) (by omega) (by omega) rfl (by simp [Ab.fit])).mono fun r K4 ⟨ow5,fr4,ap4⟩=> ?_
   have m4'' :K4 i4=_:=(fr4 i4 (by rw [m4']; simp) (fun e=>by have:=(w1.nid e).1; rw [g4] at this; cases this)).trans m4'
   have m5'' :K4 i5=_:=(fr4 i5 (by rw [m5']; simp) (fun e=>(w1.nid e).2.1 h5)).trans m5'
   simp only [go_sem,m5'',ow5.rd.fit,ow5.rd.cells];simp only [go_sem,aj,n54,m4''];have hi0:i0=s.cases.length:=by rw [←ei0,if_pos p1]
   have hxs:xs=s.cases.map bJ:=List.ext_getElem (by simpa using hnx) fun j a b=>by rw [hlo j a (by omega) (by omega),V1]
   have kk4:∀k,H1 k≠none→nid z1≠some k→K4 k=H1 k:=fun k hk hz=>(fr4 k (by rw [kk3 k hk]; exact hk) hz).trans (kk3 k hk)
   obtain ⟨K5,eK5⟩:∃K5,upd (upd K4 i5 (some (.obj [.v (.int .i64 s.tick),r,z2,z3,z4, .s pid, .v (.bool pset), .v (.int .i64 palg),aT ptgt, .sl (prules.map aB) .no, .sl (pkids.map aK) .no,au pobls, .v (.int .i64 s.version)] 39))) i4 (some (.obj [.v (.int .i64 s.tick),r,z2,z3,z4, .s pid, .v (.bool pset), .v (.int .i64 palg),aT ptgt, .sl (prules.map aB) .no, .sl (pkids.map aK) .no,au pobls, .v (.int .i64 s.version)] 39))=K5:=⟨_,rfl⟩;rw [eK5];have o5:∀k,k≠i4→k≠i5→K5 k=K4 k:=fun k a b=>by rw [←eK5,ag _ _ a,ag _ _ b]
   have kk5:∀k,H k=none→H1 k≠none→nid z1≠some k→K5 k=H1 k:=fun k a b c=>(o5 k (hz4 k a) (hz5 k a b)).trans (kk4 k b c)
   have ow:OwE 78 H K5 5 r (List.take (findD s.cases o.case) xs++([.agg [.s o.case, .s o.subj, .s gI, .sl [] .full,l']]++List.drop (findD s.cases o.case) xs)):=ow5.keep fun id e=>o5 id (hz4 id (ow5.nid e).1) fun e5=>by
    subst e5;rcases ap4 _ e with h|h
    ·rw [m5'] at h; cases h
    ·exact (w1.nid h).2.1 h5
   have ol5:OwE 82 H K5 3 l' _:=ol.keep fun id e=>by
    have h2n:K2 id=none:=(ap3 id e).resolve_right (by simp [nid])
    have hz:nid z1≠some id:=fun e1=>by
     have:=kk2 id (w1.nid e1).2.1;rw [h2n] at this;exact (w1.nid e1).2.1 this.symm
    rw [o5 id (hz4 id (ol.nid e).1) (fun e5=>by rw [e5,m5] at h2n; cases h2n),fr4 id (ol.nid e).2.1 hz]
   have hmc:eT H K5 [] (.agg [.s o.case, .s o.subj, .s gI, .sl [] .full,l']) (iH s ⟨o.case,o.subj,gI,[],[]⟩ o.subj [110,101,119]):=⟨.sl [] .full,l',rfl, .inl ⟨rfl,rfl⟩,ol5,(fun i e=>by cases e),fun y hy=>by cases hy⟩
   have sg4:Ab.Sub g K4:=fun k b hk=>by
    have h1:=hH _ _ hk;have h2:=s1 _ _ h1;rw [kk4 k (by rw [h2]; simp) (fun e=>by have:=(w1.nid e).1; rw [h1] at this; cases this)]
    exact h2
   have sg5:Ab.Sub g K5:=by rw [←eK5]; exact (sg4.put g5 _).put h4' _
   have hdo:doD aR s o= {s with cases:=s.cases.take (findD s.cases o.case)++ [iH s ⟨o.case,o.subj,gI,[],[]⟩ o.subj [110,101,119]]++s.cases.drop (findD s.cases o.case)}:=by simp [doD,p1]
   refine .mk _ (.refl _) (.refl _) ⟨sg5,_, ?_,fun _=>rfl⟩
   rw [hdo];have apr:∀k,nid r=some k→H1 k=none∨nid z1=some k:=fun k e=>(ap4 k e).imp (fun h=>sH3.none h) id
   have hro:∀ {w:AV},apart z1 w→(∀k,nid w=some k→H1 k≠none)→apart r w:=fun ha hw k e1 e2=>(apr k e1).elim (fun h=>hw k e2 h) (fun h=>ha k h e2)
   have hl0:∀k,nid l' =some k→H1 k=none:=fun k e=>(sK.trans sK2).none ((ap3 k e).resolve_right (by simp [nid]))
   have hlr:apart l' r:=fun k e1 e2=>(ap4 k e2).elim (fun h=>(ol.nid e1).2.1 h) (fun h=>(w1.nid h).2.1 (hl0 k e1))
   rw [hxs,←List.map_take,←List.map_drop] at ow;refine ng rfl hpp rfl (Kg (by rw [List.length_take]; omega) (ow.bH (fun _ e=>hH.none e)) ⟨.sl [] .full,l',rfl, .inl ⟨rfl,rfl⟩,ol5.bH (fun _ e=>hH.none e),(fun i e=>by cases e),fun y hy=>⟨(fun i e=>by cases e), ?_⟩⟩) ((w2.keep fun id e=>kk5 id (w2.nid e).1 (w2.nid e).2.1 fun e1=>a12 id e1 e).bH fun _ e=>hH.none e) ((w3.keep fun id e=>kk5 id (w3.nid e).1 (w3.nid e).2.1 fun e1=>a13 id e1 e).bH fun _ e=>hH.none e) ((w4.keep fun id e=>kk5 id (w4.nid e).1 (w4.nid e).2.1 fun e1=>a14 id e1 e).bH fun _ e=>hH.none e) ⟨hro a12 fun k e=>(w2.nid e).2.1,hro a13 fun k e=>(w3.nid e).2.1,hro a14 fun k e=>(w4.nid e).2.1,a23,a24,a34⟩
   simp only [List.mem_cons,List.not_mem_nil,or_false] at hy;rcases hy with rfl|rfl|rfl|rfl
   ·exact hlr
   ·exact fun k e1 e2=>(w2.nid e2).2.1 (hl0 k e1)
   ·exact fun k e1 e2=>(w3.nid e2).2.1 (hl0 k e1)
   ·exact fun k e1 e2=>(w4.nid e2).2.1 (hl0 k e1)
  have k1:(o.kind==1)=false:=by simp [p1]
  have hi0:i0=findD s.cases o.case:=by rw [←ei0,if_neg p1]
  simp only [go_sem,k1]
  by_cases p3:o.kind=3
  ·have k3' :(o.kind==3)=true:=by simp [p3]
   simp only [go_sem,k3'];have hth:=wN p0 (.inl p3);have hlt:=gX hth;obtain ⟨j,ej⟩:∃j,findD s.cases o.case=j:=⟨_,rfl⟩;have hj:j<s.cases.length:=by rw [←ej]; exact hlt
   have hjx:j<xs.length:=by omega
   rw [ej] at hi0;subst hi0;obtain ⟨f,l,ex,of,ol,hap,hys⟩:=hmy hjx hj;obtain ⟨id1,hg1,o1⟩:=w1.ow (by intro e; rw [e] at hjx; cases hjx)
   have o1' :=o1;obtain ⟨cap,rest,ey,hid,hrl,hcap,hsz⟩:=o1';have lA:i0*5=(aq (xs.take i0)).length:=by rw [aW fun z hz=>hsz z (List.mem_of_mem_take hz),List.length_take]; omega
   have hidK:K id1=some (.obj (aq (xs.take i0)++(bZ s.cases[i0] f l++(aq (xs.drop (i0+1))++rest))) 78):=by
    rw [sK _ _ hid,zF hjx,ex];simp [bZ,AV.cells]
   have n14:id1≠i4:=hz4 id1 hg1;have n13:id1≠i3:=fun e=>by rw [e,g3] at hg1; cases hg1
   have n15:id1≠i5:=fun e=>o1.none (by rw [e]; exact h5)
   have nf4:∀k,nid f=some k→k≠i3∧k≠i4∧k≠i5∧k≠id1:=fun k e=>⟨(fun e' =>by have:=(of.nid e).1; rw [e',g3] at this; cases this),hz4 k (of.nid e).1,hz5 k (of.nid e).1 (of.nid e).2.1,fun e' =>(hys z1 (by simp)).1 k e (by rw [e']; exact o1.nid)⟩
   have nl4:∀k,nid l=some k→k≠i3∧k≠i4∧k≠i5∧k≠id1:=fun k e=>⟨(fun e' =>by have:=(ol.nid e).1; rw [e',g3] at this; cases this),hz4 k (ol.nid e).1,hz5 k (ol.nid e).1 (ol.nid e).2.1,fun e' =>(hys z1 (by simp)).2 k e (by rw [e']; exact o1.nid)⟩
   have hff:=hf.fields _ (V5 hj);have hfl:=hf.log _ (V5 hj);rw [ej];refine .calls (pick K [i3,i5]) [0,1,2,3,4,5,6,7,8] br (by kernel_rfl) rfl ?_
   simp only [go_sem,bz (show i5∈ [i3,i5] by simp),k5]
   refine (o1.sub sK).idx (U:=U) (e:=78) i0 rfl hjx l8 (by decide) ?_
   simp only [go_sem,bz (show i3∈ [i3,i5] by simp),k3]
   refine (show ak Tryz.prog 71 [.ptr id1 (i0*5), .s o.field, .agg [.v (.int .i64 o.val.kind), .v (.int .i64 o.val.n), .s o.val.s]] K _ from Jd lA hidK (by decide) (of.sub sK) (s1.trans sK) hff o.field o.val).mono fun r K3 ⟨f',of',e1',fr3,ap3⟩=> ?_
   have kk3:∀k,H1 k≠none→k≠id1→nid f≠some k→K3 k=H1 k:=fun k a b c=>(fr3 k (by rw [kK k a]; exact a) b c).trans (kK k a)
   have m3:K3 i3=_:=(fr3 i3 (by rw [k3]; simp) n13.symm fun e=>(nf4 _ e).1 rfl).trans k3
   have m4:K3 i4=_:=(fr3 i4 (by rw [k4]; simp) n14.symm fun e=>(nf4 _ e).2.1 rfl).trans k4
   have m5:K3 i5=_:=(fr3 i5 (by rw [k5]; simp) n15.symm fun e=>(nf4 _ e).2.2.1 rfl).trans k5
   refine ⟨gV fun k hk=> ?_, ?_⟩
   ·simp only [List.mem_cons,List.not_mem_nil,or_false] at hk
    rcases hk with rfl|rfl
    ·rw [m3,k3]
    ·rw [m5,k5]
   simp only [go_sem];have sH3:Ab.Sub H K3:=fun k b hk=>by rw [kk3 k (by rw [s1 _ _ hk]; simp) (fun e=>by rw [e,hg1] at hk; cases hk) (fun e=>by have:=(of.nid e).1; rw [hk] at this; cases this)]; exact s1 _ _ hk
   have ol3:OwE 82 H K3 3 l (s.cases[i0].log.map fF):=ol.keep fun k e=>kk3 k (ol.nid e).2.1 (nl4 k e).2.2.2 (fun e1=>hap k e1 e)
   have hX5:∀y1 y2:AV,Sized 5 (xs.set i0 (.agg (bZ s.cases[i0] y1 y2))):=fun y1 y2 z hz=>by
    rcases List.mem_or_eq_of_mem_set hz with hz|rfl
    ·exact hsz z hz
    ·rfl
   have mkO:∀ {G:Heap} {y1 y2:AV},G id1=some (.obj (aq (xs.take i0)++(bZ s.cases[i0] y1 y2++(aq (xs.drop (i0+1))++rest))) 78)→Ow 78 G 5 id1 z1 (xs.set i0 (.agg (bZ s.cases[i0] y1 y2))):=fun {G y1 y2} hG=>⟨cap,rest,by rw [List.length_set]; exact ey,by rw [hG,rf hjx]; simp [AV.cells],by rw [List.length_set]; exact hrl,by rw [List.length_set]; exact hcap,hX5 _ _⟩
   have hjs:∀x:AV,i0<(xs.set i0 x).length:=fun x=>by rw [List.length_set]; exact hjx
   refine .calls (pick K3 [i3,i5]) [0,1,2,3,4,5,6,7] br (by kernel_rfl) rfl ?_
   simp only [go_sem,bz (show i5∈ [i3,i5] by simp),m5]
   refine (mkO e1').idx (U:=U) (e:=78) i0 rfl (hjs _) l8 (by decide) ?_
   simp only [go_sem,bz (show i3∈ [i3,i5] by simp),m3]
   have hha:=qC (h0:=H) (h:=K3) (s:=s) z1 z2 z3 z4 (k:=id1) (c:=s.cases[i0]) (f:=f') (l:=l) lA e1' (by decide) ol3 sH3 hfl o.subj [119,114,105,116,101]
   rw [hpp,hcC] at hha;simp only [List.cons_append,List.nil_append] at hha;refine hha.mono fun r K4 ⟨l',ol',e1'',fr4,ap4⟩=> ?_
   have m3' :K4 i3=_:=(fr4 i3 (by rw [m3]; simp) n13.symm fun e=>(nl4 _ e).1 rfl).trans m3
   have m4' :K4 i4=_:=(fr4 i4 (by rw [m4]; simp) n14.symm fun e=>(nl4 _ e).2.1 rfl).trans m4
   have m5' :K4 i5=_:=(fr4 i5 (by rw [m5]; simp) n15.symm fun e=>(nl4 _ e).2.2.1 rfl).trans m5
   refine ⟨gV fun k hk=> ?_, ?_⟩
   ·simp only [List.mem_cons,List.not_mem_nil,or_false] at hk
    rcases hk with rfl|rfl
    ·rw [m3',m3]
    ·rw [m5',m5]
   simp only [go_sem];simp only [go_sem,m5',m4'];obtain ⟨K5,eK5⟩:∃K5,upd K4 i4 (some (.obj [.v (.int .i64 s.tick),z1,z2,z3,z4, .s pid, .v (.bool pset), .v (.int .i64 palg),aT ptgt, .sl (prules.map aB) .no, .sl (pkids.map aK) .no,au pobls, .v (.int .i64 s.version)] 39))=K5:=⟨_,rfl⟩;rw [eK5];have o5:∀k,k≠i4→K5 k=K4 k:=fun k a=>by rw [←eK5,ag _ _ a]
   have kk5:∀k,H k=none→H1 k≠none→k≠id1→nid f≠some k→nid l≠some k→K5 k=H1 k:=fun k a b c d e=>by
    have h3:=kk3 k b c d;rw [o5 k (hz4 k a),fr4 k (by rw [h3]; exact b) c e,h3]
   have of5:OwE 111 H K5 4 f' _:=of'.keep fun id e=>by
    have h3:=(of'.nid e).2.1;have n1:id≠id1:=fun e' =>by
     rcases ap3 id e with h|h
     ·rw [e',hidK] at h; cases h
     ·exact (nf4 id h).2.2.2 e'
    have n2:nid l≠some id:=fun e' =>by
     rcases ap3 id e with h|h
     ·have:=kK id (ol.nid e').2.1; rw [h] at this; exact (ol.nid e').2.1 this.symm
     ·exact hap id h e'
    rw [o5 id (hz4 id (of'.nid e).1),fr4 id h3 n1 n2]
   have ol5:OwE 82 H K5 3 l' _:=ol'.keep fun id e=>o5 id (hz4 id (ol'.nid e).1)
   have sg4:Ab.Sub g K4:=fun k b hk=>by
    have h1:=hH _ _ hk;rw [fr4 k (by rw [sH3 _ _ h1]; simp) (fun e=>by rw [e,hg1] at h1; cases h1) (fun e=>by have:=(ol.nid e).1; rw [h1] at this; cases this)]
    exact sH3 _ _ h1
   have sg5:Ab.Sub g K5:=by rw [←eK5]; exact sg4.put h4' _
   have n1' :nid z1=some id1:=o1.nid;have hdo:doD aR s o= {s with cases:=s.cases.modify i0 fun c=>iH s {c with fields:=eL c.fields o.field o.val} o.subj [119,114,105,116,101]}:=by simp [doD,p3,ej]
   refine .mk _ (.refl _) (.refl _) ⟨sg5,_, ?_,fun _=>rfl⟩
   rw [hdo];have thr:∀w∈ [z1,z2,z3,z4],∀k,nid w=some k→H1 k≠none:=fun w hw k e=>by
    simp only [List.mem_cons,List.not_mem_nil,or_false] at hw;rcases hw with rfl|rfl|rfl|rfl
    ·exact (w1.nid e).2.1
    ·exact (w2.nid e).2.1
    ·exact (w3.nid e).2.1
    ·exact (w4.nid e).2.1
   refine ng rfl hpp rfl ?_ ((w2.keep fun id e=>kk5 id (w2.nid e).1 (w2.nid e).2.1 (fun e1=>a12 id1 n1' (by rw [←e1]; exact e)) (fun e1=>(hys z2 (by simp)).1 id e1 e) (fun e1=>(hys z2 (by simp)).2 id e1 e)).bH fun _ e=>hH.none e) ((w3.keep fun id e=>kk5 id (w3.nid e).1 (w3.nid e).2.1 (fun e1=>a13 id1 n1' (by rw [←e1]; exact e)) (fun e1=>(hys z3 (by simp)).1 id e1 e) (fun e1=>(hys z3 (by simp)).2 id e1 e)).bH fun _ e=>hH.none e) ((w4.keep fun id e=>kk5 id (w4.nid e).1 (w4.nid e).2.1 (fun e1=>a14 id1 n1' (by rw [←e1]; exact e)) (fun e1=>(hys z4 (by simp)).1 id e1 e) (fun e1=>(hys z4 (by simp)).2 id e1 e)).bH fun _ e=>hH.none e) ⟨a12,a13,a14,a23,a24,a34⟩
   refine zU (X:= .agg (bZ s.cases[i0] f' l')) ((show OwE 78 H K5 5 z1 _ from .inr ⟨id1,hg1,mkO ((o5 id1 n14).trans e1'')⟩).bH (fun _ e=>hH.none e)) hnx (fun k h1 h2 hk=>hlo k h1 h2 hk) fun hh=>⟨f',l',rfl,of5.bH (fun _ e=>hH.none e),ol5.bH (fun _ e=>hH.none e),fun k e1 e2=> ?_,fun w hw=>⟨fun k e1 e2=> ?_,fun k e1 e2=> ?_⟩⟩
   ·rcases ap4 k e2 with h|h
    ·exact (of'.nid e1).2.1 h
    ·rcases ap3 k e1 with h' |h'
     ·exact (ol.nid h).2.1 (sK.none h')
     ·exact hap k h' h
   ·rcases ap3 k e1 with h|h
    ·exact thr w hw k e2 (sK.none h)
    ·exact (hys w hw).1 k h e2
   ·rcases ap4 k e1 with h|h
    ·by_cases h1:k=id1
     ·subst h1; rw [e1'] at h; cases h
     ·have:=kk3 k (thr w hw k e2) h1 (fun e=>(hys w hw).1 k e e2)
      rw [h] at this;exact thr w hw k e2 this.symm
    ·exact (hys w hw).2 k h e2
  have k3' :(o.kind==3)=false:=by simp [p3]
  simp only [go_sem,k3']
  by_cases p4:o.kind=4
  ·have k4' :(o.kind==4)=true:=by simp [p4]
   simp only [go_sem,k4'];have hth:=wN p0 (.inr p4);have hlt:=gX hth;obtain ⟨j,ej⟩:∃j,findD s.cases o.case=j:=⟨_,rfl⟩;have hj:j<s.cases.length:=by rw [←ej]; exact hlt
   have hjx:j<xs.length:=by omega
   rw [ej] at hi0;subst hi0;obtain ⟨f,l,ex,of,ol,hap,hys⟩:=hmy hjx hj;obtain ⟨id1,hg1,o1⟩:=w1.ow (by intro e; rw [e] at hjx; cases hjx)
   have o1' :=o1;obtain ⟨cap,rest,ey,hid,hrl,hcap,hsz⟩:=o1';have lA:i0*5=(aq (xs.take i0)).length:=by rw [aW fun z hz=>hsz z (List.mem_of_mem_take hz),List.length_take]; omega
   have hidK:K id1=some (.obj (aq (xs.take i0)++(bZ s.cases[i0] f l++(aq (xs.drop (i0+1))++rest))) 78):=by
    rw [sK _ _ hid,zF hjx,ex];simp [bZ,AV.cells]
   have n14:id1≠i4:=hz4 id1 hg1;have n13:id1≠i3:=fun e=>by rw [e,g3] at hg1; cases hg1
   have n15:id1≠i5:=fun e=>o1.none (by rw [e]; exact h5)
   have nf4:∀k,nid f=some k→k≠i3∧k≠i4∧k≠i5∧k≠id1:=fun k e=>⟨(fun e' =>by have:=(of.nid e).1; rw [e',g3] at this; cases this),hz4 k (of.nid e).1,hz5 k (of.nid e).1 (of.nid e).2.1,fun e' =>(hys z1 (by simp)).1 k e (by rw [e']; exact o1.nid)⟩
   have nl4:∀k,nid l=some k→k≠i3∧k≠i4∧k≠i5∧k≠id1:=fun k e=>⟨(fun e' =>by have:=(ol.nid e).1; rw [e',g3] at this; cases this),hz4 k (ol.nid e).1,hz5 k (ol.nid e).1 (ol.nid e).2.1,fun e' =>(hys z1 (by simp)).2 k e (by rw [e']; exact o1.nid)⟩
   have hff:=hf.fields _ (V5 hj);have hfl:=hf.log _ (V5 hj);rw [ej];simp only [go_sem,k5,k3];refine (o1.sub sK).idx (U:=U) (e:=78) i0 rfl hjx l8 (by decide) ?_
   simp only [go_sem,hidK];have e2:List.take (i0*5+2) (aq (xs.take i0)++(bZ s.cases[i0] f l++(aq (xs.drop (i0+1))++rest)))++ [.s o.to]++List.drop (i0*5+2+1) (aq (xs.take i0)++(bZ s.cases[i0] f l++(aq (xs.drop (i0+1))++rest)))=aq (xs.take i0)++(bZ {s.cases[i0] with state:=o.to} f l++(aq (xs.drop (i0+1))++rest)):=by
    have:=mV (A:=aq (xs.take i0)++ [.s s.cases[i0].id, .s s.cases[i0].owner]) (B:= [.s s.cases[i0].state]) (C:=f::l::(aq (xs.drop (i0+1))++rest)) (X:= [.s o.to]) (k:=i0*5+2) (m:=1) (by rw [lA]; simp) rfl rfl
    simp only [bZ,List.append_assoc,List.cons_append,List.nil_append] at this⊢;exact this
   rw [e2];obtain ⟨K3,eK3⟩:∃K3,upd K id1 (some (.obj (aq (xs.take i0)++(bZ {s.cases[i0] with state:=o.to} f l++(aq (xs.drop (i0+1))++rest))) 78))=K3:=⟨_,rfl⟩
   rw [eK3];refine ⟨by simp only [V4,←lA,bZ,List.length_cons,List.length_nil]; omega, ?_⟩
   have e1' :K3 id1=some (.obj (aq (xs.take i0)++(bZ {s.cases[i0] with state:=o.to} f l++(aq (xs.drop (i0+1))++rest))) 78):=by rw [←eK3,ah]
   have fr3:∀k,K k≠none→k≠id1→nid f≠some k→K3 k=K k:=fun k _ hk _=>by rw [←eK3,ag _ _ hk]
   have ap3:∀k,nid f=some k→K k=none∨nid f=some k:=fun k hk=> .inr hk
   have kk3:∀k,H1 k≠none→k≠id1→nid f≠some k→K3 k=H1 k:=fun k a b c=>(fr3 k (by rw [kK k a]; exact a) b c).trans (kK k a)
   have m3:K3 i3=_:=(fr3 i3 (by rw [k3]; simp) n13.symm fun e=>(nf4 _ e).1 rfl).trans k3
   have m4:K3 i4=_:=(fr3 i4 (by rw [k4]; simp) n14.symm fun e=>(nf4 _ e).2.1 rfl).trans k4
   have m5:K3 i5=_:=(fr3 i5 (by rw [k5]; simp) n15.symm fun e=>(nf4 _ e).2.2.1 rfl).trans k5
   obtain ⟨f',of',ef'⟩:∃f',OwE 111 H K3 4 f' (s.cases[i0].fields.map bw)∧f=f' :=⟨f,of.keep fun k e=>by rw [←eK3,ag _ _ (nf4 k e).2.2.2,kK k (of.nid e).2.1],rfl⟩
   rw [ef'] at e1';replace ap3:∀k,nid f' =some k→K k=none∨nid f=some k:=by rw [←ef']; exact ap3
   have sH3:Ab.Sub H K3:=fun k b hk=>by rw [kk3 k (by rw [s1 _ _ hk]; simp) (fun e=>by rw [e,hg1] at hk; cases hk) (fun e=>by have:=(of.nid e).1; rw [hk] at this; cases this)]; exact s1 _ _ hk
   have ol3:OwE 82 H K3 3 l (s.cases[i0].log.map fF):=ol.keep fun k e=>kk3 k (ol.nid e).2.1 (nl4 k e).2.2.2 (fun e1=>hap k e1 e)
   have hX5:∀y1 y2:AV,Sized 5 (xs.set i0 (.agg (bZ ({s.cases[i0] with state:=o.to}:aJ) y1 y2))):=fun y1 y2 z hz=>by
    rcases List.mem_or_eq_of_mem_set hz with hz|rfl
    ·exact hsz z hz
    ·rfl
   have mkO:∀ {G:Heap} {y1 y2:AV},G id1=some (.obj (aq (xs.take i0)++(bZ ({s.cases[i0] with state:=o.to}:aJ) y1 y2++(aq (xs.drop (i0+1))++rest))) 78)→Ow 78 G 5 id1 z1 (xs.set i0 (.agg (bZ ({s.cases[i0] with state:=o.to}:aJ) y1 y2))):=fun {G y1 y2} hG=>⟨cap,rest,by rw [List.length_set]; exact ey,by rw [hG,rf hjx]; simp [AV.cells],by rw [List.length_set]; exact hrl,by rw [List.length_set]; exact hcap,hX5 _ _⟩
   have hjs:∀x:AV,i0<(xs.set i0 x).length:=fun x=>by rw [List.length_set]; exact hjx
   refine .calls (pick K3 [i3,i5]) [0,1,2,3,4,5,6,7,8,9] br (by kernel_rfl) rfl ?_
   simp only [go_sem,bz (show i5∈ [i3,i5] by simp),m5]
   refine (mkO e1').idx (U:=U) (e:=78) i0 rfl (hjs _) l8 (by decide) ?_
   simp only [go_sem,bz (show i3∈ [i3,i5] by simp),m3]
   have hha:=qC (h0:=H) (h:=K3) (s:=s) z1 z2 z3 z4 (k:=id1) (c:=({s.cases[i0] with state:=o.to}:aJ)) (f:=f') (l:=l) lA e1' (by decide) ol3 sH3 hfl o.subj o.to
   rw [hpp,hcC] at hha;simp only [List.cons_append,List.nil_append] at hha;refine hha.mono fun r K4 ⟨l',ol',e1'',fr4,ap4⟩=> ?_
   have m3' :K4 i3=_:=(fr4 i3 (by rw [m3]; simp) n13.symm fun e=>(nl4 _ e).1 rfl).trans m3
   have m4' :K4 i4=_:=(fr4 i4 (by rw [m4]; simp) n14.symm fun e=>(nl4 _ e).2.1 rfl).trans m4
   have m5' :K4 i5=_:=(fr4 i5 (by rw [m5]; simp) n15.symm fun e=>(nl4 _ e).2.2.1 rfl).trans m5
   refine ⟨gV fun k hk=> ?_, ?_⟩
   ·simp only [List.mem_cons,List.not_mem_nil,or_false] at hk
    rcases hk with rfl|rfl
    ·rw [m3',m3]
    ·rw [m5',m5]
   simp only [go_sem];simp only [go_sem,m5',m4'];obtain ⟨K5,eK5⟩:∃K5,upd K4 i4 (some (.obj [.v (.int .i64 s.tick),z1,z2,z3,z4, .s pid, .v (.bool pset), .v (.int .i64 palg),aT ptgt, .sl (prules.map aB) .no, .sl (pkids.map aK) .no,au pobls, .v (.int .i64 s.version)] 39))=K5:=⟨_,rfl⟩;rw [eK5];have o5:∀k,k≠i4→K5 k=K4 k:=fun k a=>by rw [←eK5,ag _ _ a]
   have kk5:∀k,H k=none→H1 k≠none→k≠id1→nid f≠some k→nid l≠some k→K5 k=H1 k:=fun k a b c d e=>by
    have h3:=kk3 k b c d;rw [o5 k (hz4 k a),fr4 k (by rw [h3]; exact b) c e,h3]
   have of5:OwE 111 H K5 4 f' _:=of'.keep fun id e=>by
    have h3:=(of'.nid e).2.1;have n1:id≠id1:=fun e' =>by
     rcases ap3 id e with h|h
     ·rw [e',hidK] at h; cases h
     ·exact (nf4 id h).2.2.2 e'
    have n2:nid l≠some id:=fun e' =>by
     rcases ap3 id e with h|h
     ·have:=kK id (ol.nid e').2.1; rw [h] at this; exact (ol.nid e').2.1 this.symm
     ·exact hap id h e'
    rw [o5 id (hz4 id (of'.nid e).1),fr4 id h3 n1 n2]
   have ol5:OwE 82 H K5 3 l' _:=ol'.keep fun id e=>o5 id (hz4 id (ol'.nid e).1)
   have sg4:Ab.Sub g K4:=fun k b hk=>by
    have h1:=hH _ _ hk;rw [fr4 k (by rw [sH3 _ _ h1]; simp) (fun e=>by rw [e,hg1] at h1; cases h1) (fun e=>by have:=(ol.nid e).1; rw [h1] at this; cases this)]
    exact sH3 _ _ h1
   have sg5:Ab.Sub g K5:=by rw [←eK5]; exact sg4.put h4' _
   have n1' :nid z1=some id1:=o1.nid;have hdo:doD aR s o= {s with cases:=s.cases.modify i0 fun c=>iH s {c with state:=o.to} o.subj o.to}:=by simp [doD,p4,ej]
   refine .mk _ (.refl _) (.refl _) ⟨sg5,_, ?_,fun _=>rfl⟩
   rw [hdo];have thr:∀w∈ [z1,z2,z3,z4],∀k,nid w=some k→H1 k≠none:=fun w hw k e=>by
    simp only [List.mem_cons,List.not_mem_nil,or_false] at hw;rcases hw with rfl|rfl|rfl|rfl
    ·exact (w1.nid e).2.1
    ·exact (w2.nid e).2.1
    ·exact (w3.nid e).2.1
    ·exact (w4.nid e).2.1
   refine ng rfl hpp rfl ?_ ((w2.keep fun id e=>kk5 id (w2.nid e).1 (w2.nid e).2.1 (fun e1=>a12 id1 n1' (by rw [←e1]; exact e)) (fun e1=>(hys z2 (by simp)).1 id e1 e) (fun e1=>(hys z2 (by simp)).2 id e1 e)).bH fun _ e=>hH.none e) ((w3.keep fun id e=>kk5 id (w3.nid e).1 (w3.nid e).2.1 (fun e1=>a13 id1 n1' (by rw [←e1]; exact e)) (fun e1=>(hys z3 (by simp)).1 id e1 e) (fun e1=>(hys z3 (by simp)).2 id e1 e)).bH fun _ e=>hH.none e) ((w4.keep fun id e=>kk5 id (w4.nid e).1 (w4.nid e).2.1 (fun e1=>a14 id1 n1' (by rw [←e1]; exact e)) (fun e1=>(hys z4 (by simp)).1 id e1 e) (fun e1=>(hys z4 (by simp)).2 id e1 e)).bH fun _ e=>hH.none e) ⟨a12,a13,a14,a23,a24,a34⟩
   refine zU (X:= .agg (bZ ({s.cases[i0] with state:=o.to}:aJ) f' l')) ((show OwE 78 H K5 5 z1 _ from .inr ⟨id1,hg1,mkO ((o5 id1 n14).trans e1'')⟩).bH (fun _ e=>hH.none e)) hnx (fun k h1 h2 hk=>hlo k h1 h2 hk) fun hh=>⟨f',l',rfl,of5.bH (fun _ e=>hH.none e),ol5.bH (fun _ e=>hH.none e),fun k e1 e2=> ?_,fun w hw=>⟨fun k e1 e2=> ?_,fun k e1 e2=> ?_⟩⟩
   ·rcases ap4 k e2 with h|h
    ·exact (of'.nid e1).2.1 h
    ·rcases ap3 k e1 with h' |h'
     ·exact (ol.nid h).2.1 (sK.none h')
     ·exact hap k h' h
   ·rcases ap3 k e1 with h|h
    ·exact thr w hw k e2 (sK.none h)
    ·exact (hys w hw).1 k h e2
   ·rcases ap4 k e1 with h|h
    ·by_cases h1:k=id1
     ·subst h1; rw [e1'] at h; cases h
     ·have:=kk3 k (thr w hw k e2) h1 (fun e=>(hys w hw).1 k e e2)
      rw [h] at this;exact thr w hw k e2 this.symm
    ·exact (hys w hw).2 k h e2
  have k4' :(o.kind==4)=false:=by simp [p4]
  simp only [go_sem,k4'];have kkK:∀k,H k=none→H1 k≠none→K k=H1 k:=fun k _ b=>kK k b
  by_cases p5:o.kind=5
  ·have k5' :(o.kind==5)=true:=by simp [p5]
   simp only [go_sem,k5'];have hrv:0<o.review:=by
    simp only [fE,dG,Bool.and_eq_true] at hform;simpa [okD,p5] using hform.2.1.2
   obtain ⟨n,en⟩:∃n:Nat,o.review=((n:Nat):Int)+1:=⟨(o.review - 1).toNat,by omega⟩
   have w5:IntKind.i64.wrap (o.review - 1)=((n:Nat):Int):=by rw [bx _ (by have:=hr.2; omega)]; omega
   have hn5:n<s.reviews.length:=by
    have:fz s o=0:=by simpa [bI,hform,p5] using p0
    unfold fz at this;have e1:ue s.reviews o.review=s.reviews[n]? :=by unfold ue; rw [if_pos (by omega),show (o.review - 1).toNat=n by omega]
    rw [e1] at this
    by_cases hlt:n<s.reviews.length
    ·exact hlt
    ·rw [List.getElem?_eq_none (by omega)] at this; cases this
   have hnm:n<(s.reviews.map fL).length:=by simpa using hn5
   obtain ⟨id2,hg2,o2⟩:=w2.ow (by intro e; rw [e] at hnm; cases hnm)
   have o2' :=o2;obtain ⟨cap,rest,ey,hid,hrl,hcap,hsz⟩:=o2';have n24:id2≠i4:=hz4 id2 hg2;have n25:id2≠i5:=hz5 id2 hg2 o2.none;have hidK:=sK _ _ hid;simp only [go_sem,k5,k3,w5];refine (o2.sub sK).idx (U:=U) (e:=71) n rfl hnm (by simp only [go_sem]) (by decide) ?_
   simp only [go_sem,hidK];have e2:List.take (n*7+6) (aq (s.reviews.map fL)++rest)++ [.v (.bool false)]++List.drop (n*7+6+1) (aq (s.reviews.map fL)++rest)=aq ((s.reviews.modify n fun r=> {r with isOpen:=false}).map fL)++rest:=by
    refine (j5 hsz n hnm 6 [.v (.bool false)] (VZ rfl)).trans ?_
    congr 2
    refine List.ext_getElem (by simp) fun j h1 h2=> ?_
    by_cases e:j=n
    ·subst e; simp [fL,AV.cells,Ab.over]
    ·rw [List.getElem_set_ne (Ne.symm e)]; simp [Ne.symm e]
   rw [e2];refine ⟨by rw [V4,aW hsz]; omega, ?_⟩
   have k5b:∀b,upd K id2 b i5=_:=fun b=>(ag _ _ n25.symm).trans k5
   have k4b:∀b,upd K id2 b i4=_:=fun b=>(ag _ _ n24.symm).trans k4
   simp only [go_sem,k5b,k4b];have hdo:doD aR s o= {s with reviews:=s.reviews.modify n fun r=> {r with isOpen:=false}}:=by simp [doD,p5,en]
   have kz:∀a b k,H k=none→H1 k≠none→nid z2≠some k→upd (upd K id2 a) i4 b k=H1 k:=fun a b k c d e=>by rw [ag _ _ (hz4 k c),ag _ _ (fun e' =>e (by rw [e']; exact o2.nid)),kK k d]
   refine .mk _ (.refl _) (.refl _) ⟨(Sub.put (i:=id2) sg (hH.none hg2) _).put h4' _,_, ?_,fun _=>hi0⟩
   rw [hdo];exact ng rfl hpp rfl ((hC.keepx (z:=z2) (by simp) a12 (kz _ _)).bH (fun _ e=>hH.none e)) (.inr ⟨id2,hH.none hg2,cap,rest,by rw [ey]; simp,by rw [ag _ _ n24,ah],by rw [hrl]; simp,by simpa using hcap,bl (f:=fL) (n:=7) (fun _=>rfl) _⟩) ((w3.keep fun id e=>kz _ _ id (w3.nid e).1 (w3.nid e).2.1 fun e1=>a23 id e1 e).bH fun _ e=>hH.none e) ((w4.keep fun id e=>kz _ _ id (w4.nid e).1 (w4.nid e).2.1 fun e1=>a24 id e1 e).bH fun _ e=>hH.none e) ⟨a12,a13,a14,a23,a24,a34⟩
  have k5' :(o.kind==5)=false:=by simp [p5]
  simp only [go_sem,k5']
  by_cases p6:o.kind=6
  ·have k6' :(o.kind==6)=true:=by simp [p6]
   simp only [go_sem,k6'];simp only [go_sem,k5,k3];have hha6:=zK hSK.rd o.case o.field (Nat.le_trans hf.roles (by decide))
   rw [hpp,hcC] at hha6;simp only [List.cons_append,List.nil_append] at hha6;refine hha6.pthen ?_;cases dha:uB s.roles ⟨o.case,o.field⟩
   ·simp only [go_sem]
    simp only [go_sem,k5,k3];have hap1:Rd K 2 (.sl [cD ⟨o.case,o.field⟩] .full) [cD ⟨o.case,o.field⟩]:= .sl (by intro z hz; rw [List.mem_singleton.1 hz]; rfl) .full
    have hfr:=hf.roles;refine OwE.app (U:=U) (tb:=54) (w4.sub sK) (s1.trans sK) hap1 (by simp only [go_sem]) (by decide) (by simp only [go_sem,ne_eq,not_false_eq_true]) (by simp only [go_sem]) (by simp) (by simp only [go_sem,List.length_cons,List.length_nil,V0]; omega) fun id4 y' K3 g4' hor hw ho2=> ?_
    have hor' :K id4=none∨nid z4=some id4:=by
     rcases hor with hor|⟨l,c,ey⟩
     ·exact .inl hor
     ·exact .inr (by rw [ey]; rfl)
    have n44:i4≠id4:=fun e=>by rw [←e,g4] at g4'; cases g4'
    have n45:i5≠id4:=fun e=>by
     rcases hor' with hor|hor
     ·rw [←e,k5] at hor; cases hor
     ·exact (w4.nid hor).2.1 (by rw [←e]; exact h5)
    have m4:K3 i4=_:=(ho2 i4 n44).trans k4;have m5:K3 i5=_:=(ho2 i5 n45).trans k5;simp only [go_sem,m5,hw.rd.fit,hw.rd.cells];simp only [go_sem,aj,n54,m4];have hdo:doD aR s o= {s with roles:=s.roles++ [⟨o.case,o.field⟩]}:=by simp [doD,p6,dha]
    have gid4:g id4=none:=hH.none g4';have kz:∀a b k,H k=none→H1 k≠none→nid z4≠some k→upd (upd K3 i5 a) i4 b k=H1 k:=fun a b k c d e=>by
     have:k≠id4:=fun e' =>by
      rcases hor' with hor|hor
      ·have:=kK k d; rw [e',hor] at this; exact d (by rw [e']; exact this.symm)
      ·exact e (by rw [e']; exact hor)
     rw [ag _ _ (hz4 k c),ag _ _ (hz5 k c d),ho2 k this,kK k d]
    have sg3:Ab.Sub g K3:=fun k b hk=>by rw [ho2 k (fun e=>by rw [e,gid4] at hk; cases hk)]; exact sg _ _ hk
    refine .mk _ (.refl _) (.refl _) ⟨(sg3.put g5 _).put h4' _,_, ?_,fun _=>hi0⟩
    rw [hdo];have hw' :OwE 54 g K3 2 y' ((s.roles++ [(⟨o.case,o.field⟩:fQ)]).map cD):=by rw [List.map_append]; exact .inr ⟨id4,gid4,hw⟩
    have hry:∀k,nid y' =some k→H1 k=none∨nid z4=some k:=fun k e=>by
     have:id4=k:=by have:=hw.nid; rw [e] at this; exact (Option.some.inj this).symm
     subst this;exact hor'.imp (fun h=>sK.none h) id
    have har:∀ {w:AV},apart w z4→(∀k,nid w=some k→H1 k≠none)→apart w y' :=fun ha hh k e1 e2=>(hry k e2).elim (fun h=>hh k e1 h) (fun h=>ha k e1 h)
    refine ng rfl hpp rfl ((hC.move (z:=z4) (by simp) a14 (kz _ _) fun w hw k e=> ?_).bH (fun _ e=>hH.none e)) ((w2.keep fun id e=>kz _ _ id (w2.nid e).1 (w2.nid e).2.1 fun e1=>a24 id e e1).bH fun _ e=>hH.none e) ((w3.keep fun id e=>kz _ _ id (w3.nid e).1 (w3.nid e).2.1 fun e1=>a34 id e e1).bH fun _ e=>hH.none e) (hw'.keep fun id e=> ?_) ⟨a12,a13,har a14 fun k e=>(w1.nid e).2.1,a23,har a24 fun k e=>(w2.nid e).2.1,har a34 fun k e=>(w3.nid e).2.1⟩
    ·simp only [List.mem_cons,List.not_mem_nil,or_false] at hw
     rcases hw with rfl|rfl|rfl|rfl
     ·exact .inr ⟨w,by simp,e⟩
     ·exact .inr ⟨w,by simp,e⟩
     ·exact .inr ⟨w,by simp,e⟩
     ·exact (hry k e).imp id fun h=>⟨z4,by simp,h⟩
    ·have:id=id4:=by have:=hw.nid; rw [e] at this; exact Option.some.inj this
     rw [this,ag _ _ n44.symm,ag _ _ n45.symm]
   ·simp only [go_sem]
    simp only [go_sem,k5,k4];have hdo:doD aR s o=s:=by simp [doD,p6,dha]
    rw [hdo];refine .mk _ (.refl _) (.refl _) ⟨sg.put h4' _,_,(hS.keepb fun k hk hk1=> ?_).bH fun _ e=>hH.none e,fun _=>hi0⟩
    rw [ag _ _ (hz4 k hk),kK k hk1]
  have k6' :(o.kind==6)=false:=by simp [p6]
  simp only [go_sem,k6']
  by_cases p7:o.kind=7
  ·have k7' :(o.kind==7)=true:=by simp [p7]
   simp only [go_sem,k7'];simp only [go_sem,k3];refine (wE o.text _ (he.sub sg)).pthen ?_;obtain ⟨⟨pp,e,a⟩,epp⟩:∃x,aR o.text=x:=⟨_,rfl⟩;obtain ⟨qid,qset,qalg,qtgt,qrules,qkids,qobls⟩:=pp;rw [epp];simp only [go_sem,ji,aK,aV];intro i9 h9;have n95:i5≠i9:=fun e=>by rw [←e,k5] at h9; cases h9
   have n94:i4≠i9:=fun e=>by rw [←e,k4] at h9; cases h9
   simp only [go_sem];have g9:g i9=none:=sg.none h9;have sg9:∀b,Ab.Sub g (upd K i9 b):=fun b=>sg.put g9 b
   have hz9:∀k,H1 k≠none→k≠i9:=fun k hk e=>hk (by have:=kK k hk; rw [e,h9] at this; rw [e]; exact this.symm)
   by_cases pe:e=0
   ·have de:(e==0)=true:=by simp [pe]
    have wv:IntKind.i64.wrap (s.version+1)=s.version+1:=bx _ (by omega)
    simp only [go_sem,de];simp only [go_sem,aj,n95,n94,n54,k5,k4,wv];have hdo:doD aR s o= {s with policy:= .mk qid qset qalg qtgt qrules qkids qobls,version:=s.version+1}:=by simp [doD,p7,epp,pe]
    have kz:∀a b c k,H k=none→H1 k≠none→upd (upd (upd K i9 a) i5 b) i4 c k=H1 k:=fun a b c k d e=>by rw [ag _ _ (hz4 k d),ag _ _ (hz5 k d e),ag _ _ (hz9 k e),kK k e]
    refine .mk _ (.refl _) (.refl _) ⟨((sg9 _).put g5 _).put h4' _,_, ?_,fun _=>hi0⟩
    rw [hdo];exact ng rfl rfl rfl ((hC.keepb (kz _ _ _)).bH (fun _ e=>hH.none e)) ((w2.keepb (kz _ _ _)).bH (fun _ e=>hH.none e)) ((w3.keepb (kz _ _ _)).bH (fun _ e=>hH.none e)) ((w4.keepb (kz _ _ _)).bH (fun _ e=>hH.none e)) ⟨a12,a13,a14,a23,a24,a34⟩
   ·have de:(e==0)=false:=by simp [pe]
    simp only [go_sem,de];simp only [go_sem,aj,n95,n94,k5,k4];have hdo:doD aR s o=s:=by simp [doD,p7,epp,pe]
    rw [hdo];refine .mk _ (.refl _) (.refl _) ⟨(sg9 _).put h4' _,_,(hS.keepb fun k hk hk1=> ?_).bH fun _ e=>hH.none e,fun _=>hi0⟩
    rw [ag _ _ (hz4 k hk),ag _ _ (hz9 k hk1),kK k hk1]
  have k7' :(o.kind==7)=false:=by simp [p7]
  simp only [go_sem,k7']
  by_cases p8:o.kind=8
  ·have k8' :(o.kind==8)=true:=by simp [p8]
   simp only [go_sem,k8'];have hrv:0<o.review∧o.review≤1099511627776:=by
    simp only [fE,dG,Bool.and_eq_true] at hform;simpa [okD,p8] using hform.2.1.2
   have htk:¬s.tick>1099511627776 - o.review:=by
    intro hgt;simp [bI,hform,p8,hgt] at p0
   have w8:IntKind.i64.wrap (s.tick+o.review)=s.tick+o.review:=bx _ (by have:=ht.1; omega)
   simp only [go_sem,k5,k3,w8];simp only [go_sem,aj,n54,k4];have hdo:doD aR s o= {s with tick:=s.tick+o.review}:=by simp [doD,p8]
   have kz:∀a b k,H k=none→H1 k≠none→upd (upd K i5 a) i4 b k=H1 k:=fun a b k c d=>by rw [ag _ _ (hz4 k c),ag _ _ (hz5 k c d),kK k d]
   refine .mk _ (.refl _) (.refl _) ⟨(sg.put g5 _).put h4' _,_, ?_,fun _=>hi0⟩
   rw [hdo];exact ng rfl hpp rfl ((hC.keepb (kz _ _)).bH (fun _ e=>hH.none e)) ((w2.keepb (kz _ _)).bH (fun _ e=>hH.none e)) ((w3.keepb (kz _ _)).bH (fun _ e=>hH.none e)) ((w4.keepb (kz _ _)).bH (fun _ e=>hH.none e)) ⟨a12,a13,a14,a23,a24,a34⟩
  have k8' :(o.kind==8)=false:=by simp [p8]
  simp only [go_sem,k8'];simp only [go_sem,k5,k4];have hdo:doD aR s o=s:=by simp [doD,p1,p3,p4,p5,p6,p7,p8]
  rw [hdo];refine .mk _ (.refl _) (.refl _) ⟨sg.put h4' _,_,(hS.keepb fun k hk hk1=> ?_).bH fun _ e=>hH.none e,fun _=>hi0⟩
  rw [ag _ _ (hz4 k hk),kK k hk1]
 ·have d0:(bI s o !=0)=true:=by simp [p0]
  simp only [go_sem,d0];simp only [go_sem,k5,k4];have hdone:dK aR s o=s:=by simp [dK,p0]
  rw [hdone];refine .mk _ (.refl _) (.refl _) ⟨sg.put h4' _,_,(hS.keepb fun k hk hk1=> ?_).bH fun _ e=>hH.none e,fun h=>(p0 h).elim⟩
  rw [ag _ _ (hz4 k hk),kK k hk1]
end Go.Proofs.YtnlbeamjpefpfaaGreatDoor
namespace Go.Bf
def HM:Txt:= [112,111,108,105,99,121,32,111,112,101,110,32,112,101,114,109,105,116,117,110,108,101,115,115,32,123,32,125]
def jE:bG:= .mk gI false 6 [] [] [] []
def rE:an:=⟨0,[],[],[],[],jE,0⟩
end Go.Bf
namespace Go.Proofs.YtnlbeamjpefpfaaGreatDoor
open Go Go.Ab Go.Bf
theorem JQ {g K:Heap} {S:an} {y1 y2 y3 y4:AV} {tk ver palg:Int} {pid:Txt} {pset:Bool} {ptgt:fP} {prules:List cO} {pkids:List bG} {pobls:List cw} (h1:S.tick=tk) (h2:S.policy= .mk pid pset palg ptgt prules pkids pobls) (h3:S.version=ver)
  (a:Frz g K y1 (iY S.cases)) (b:Frz g K y2 (qi S.reviews)) (c:Frz g K y3 (rF S.notices)) (d:Frz g K y4 (dF S.roles)):
  Frz g K (.agg [.v (.int .i64 tk),y1,y2,y3,y4, .s pid, .v (.bool pset), .v (.int .i64 palg),aT ptgt, .sl (prules.map aB) .no, .sl (pkids.map aK) .no,au pobls, .v (.int .i64 ver)]) (cU S):=by
 have:=sD a b c d;rw [h1,h2,h3,show fB (.mk pid pset palg ptgt prules pkids pobls)= [.s pid, .v (.bool pset), .v (.int .i64 palg),aT ptgt, .sl (prules.map aB) .no, .sl (pkids.map aK) .no,au pobls] by simp [fB,aV]] at this
 exact this
theorem Gh {H:Heap} {i j:Nat} {a b:Option Blk} (c:Option Blk) (h:i≠j):upd (upd (upd H i a) j b) i c=upd (upd H i c) j b:=by
 funext k
 by_cases e:k=i
 ·rw [e,ah,ag _ _ h,ah]
 ·rw [ag _ _ e]
  by_cases e2:k=j
  ·rw [e2,ah,ah]
  ·rw [ag _ _ e2,ag _ _ e2,ag _ _ e,ag _ _ e]
theorem HN:aR HM=(jE,0,0):=by kernel_rfl
theorem HX (h:Heap) (he:qq h):ak Tryz.prog 22 [] h fun r h' =>r=cU rE∧h' =h:=
 ak.freeze fun g hg _=>by
 replace he:=he.sub hg;refine ak.body hU hm Tryz.func22 rfl (by kernel_rfl) 11 rfl [.cell 0 39] rfl (VZ rfl) (fun hwf=> ?_)
 simp only [go_sem];intro i1 h1;simp only [go_sem];refine (wE HM _ (he.sub (.ai h1))).pthen ?_;rw [HN];simp only [go_sem,ji,jE,aK,aT,au,fh,gI,List.map_nil];intro i2 h2;have n21:=aH h2;have n2:=aD h2;simp only [go_sem,aj,n21.symm];refine .mk _ (.refl _) (.refl _) ⟨?_,cU rE,JQ (S:=rE) rfl rfl rfl kP kP kP kP,rfl⟩;rw [Gh _ n21.symm];exact ((Sub.refl g).put h1 _).put n2 _
theorem qe (s:Txt) (h:Heap):ak Tryz.prog 46 [.s s] h fun r h' =>r=aU (idV s)∧h' =h:=by
 refine ak.body hU hm Tryz.func46 rfl (by kernel_rfl) 5 rfl [.cell 2 24] rfl (VZ rfl) (fun hwf=> ?_)
 simp only [go_sem];intro i1 h1;simp only [go_sem];exact .mk _ (.refl _) (.ai h1) ⟨rfl,rfl⟩
theorem dH (cat:Int) (name:Txt) (xs:List AV) (q:Perm) (h:Heap):ak Tryz.prog 47 [.v (.int .i64 cat), .s name, .sl xs q] h fun r h' =>r= .agg [.v (.int .i64 cat), .s name, .sl xs q]∧h' =h:=by
 refine ak.body hU hm Tryz.func47 rfl (by kernel_rfl) 11 rfl [.cell 6 118] rfl (VZ rfl) (fun hwf=> ?_)
 simp only [go_sem];intro i1 h1;simp only [go_sem];exact .mk _ (.refl _) (.ai h1) ⟨rfl,rfl⟩
theorem HC {α:Type} (y:AV) (xs:List AV) (ds:List α) (q:α→Bool) (g:FuncId) (cap:List AV) (h:Heap) (hb:Rd h 3 y xs) (hn:xs.length=ds.length) (hl:xs.length≤1000000000) (hx:∀x∈xs,bA x=true)
  (hp:∀i (h1:i<xs.length) (h2:i<ds.length),ak Tryz.prog g (xs[i]::cap) h fun r h' =>r= .v (.bool (q ds[i]))∧h' =h):
  ak Tryz.prog 158 [y, .fn g cap] h fun r h' =>r= .v (.int .i64 (ixD q ds))∧h' =h:=by
 refine ak.body hU hm Tryz.func158 rfl (by kernel_rfl) 19 rfl [.tmp 4] rfl (VZ rfl) (fun hwf=> ?_)
 simp only [go_sem,hb.len];refine .intro (fun m ρ h' =>h' =h∧∃i:Nat,i≤xs.length∧m=xs.length - i∧(∀j (hj:j<i) (h2:j<ds.length),q ds[j]=false)∧lk ρ 0=some y∧lk ρ 1=some (.fn g cap)∧lk ρ 7=some (.v (.int .i64 xs.length))∧lk ρ 8=some (.v (.int .i64 i))) xs.length ?_ ?_
 ·refine ⟨rfl,0,by omega,rfl,fun j hj=>(by omega), ?_, ?_, ?_, ?_⟩<;>simp only [go_sem]
 ·rintro m ρ h' ⟨rfl,i,hi,rfl,hc,r0,r1,r7,r8⟩
  simp only [go_sem,r7,r8];refine .intro (fun e=> ?_) (fun e=> ?_)
  ·have hlt:i<xs.length:=V7 e
   have hlt2:i<ds.length:=by omega
   have w1:=V6 i (by omega)
   simp only [go_sem,r0,r1,r8];refine hb.idx (e:=82) i rfl hlt (by simp only [go_sem]) (by decide) fun p hp1=> ?_
   have hld:=hp1.all (U:=U) (ty:=82) (by simp only [go_sem]) (by simp only [go_sem]; exact hb.1 _ (V5 hlt)) (by simp only [go_sem]; rw [hx _ (V5 hlt)])
   simp only [go_sem,hld];refine (show ak Tryz.prog g (xs[i]::cap) _ _ from hp i hlt hlt2).pthen ?_
   cases d1:q ds[i]
   ·simp only [go_sem,r8,w1]
    refine ⟨_, ?_,rfl,i+1,by omega,rfl,fun j hj h2=> ?_, ?_, ?_, ?_, ?_⟩
    ·omega
    ·by_cases hji:j=i
     ·subst hji; exact d1
     ·exact hc j (by omega) h2
    all_goals simp only [go_sem,r0,r1,r7]
   ·simp only [go_sem]
    exact .same (.refl _) ⟨by rw [mo hlt2 d1 fun j hj=>hc j hj (by omega)]; rfl,rfl⟩
  ·have hge:i=xs.length:=by have:=V3 e; omega
   simp only [go_sem];exact .same (.refl _) ⟨by rw [iD fun j hj=>hc j (by omega) hj]; rfl,rfl⟩
theorem IZ {h:Heap} (x:sr) {k:Nat} {subj:Txt} (hk:h k=some (.obj [.s subj] 9)):ak Tryz.prog 121 [fF x, .ptr k 0] h fun r h' =>r= .v (.bool (x.actor==subj))∧h' =h:=by
 refine ak.body hU hm Tryz.func121 rfl (by kernel_rfl) 8 rfl [.tmp 3] rfl (VZ rfl) (fun hwf=> ?_)
 simp only [go_sem,fF];intro i1 h1;have n1:k≠i1:=fun e=>by subst e; rw [hk] at h1; cases h1
 simp only [go_sem,aj,n1,hk];exact .mk _ (.refl _) (.ai h1) ⟨rfl,rfl⟩
theorem sv {α:Type} (q:α→Bool) (l:List α):decide ((0:Int)≤ixD q l)=l.any q:=by
 unfold ixD
 by_cases h:l.findIdx q<l.length
 ·rw [if_pos h,decide_eq_true (by omega)]
  exact (List.any_eq_true.2 ⟨_,V5 h,List.findIdx_getElem (w:=h)⟩).symm
 ·rw [if_neg h]
  have e:l.findIdx q=l.length:=by
   have:l.findIdx q≤l.length:=List.findIdx_le_length;omega
  have:=List.findIdx_eq_length.1 e;rw [decide_eq_false (by decide)]
  exact (List.any_eq_false.2 fun x hx=>by rw [this x hx]; decide).symm
theorem Fm (y:AV) (ds:List sr) (q:sr→Bool) (g:FuncId) (cap:List AV) (h:Heap) (hb:Rd h 3 y (ds.map fF)) (hl:ds.length≤1000000000)
  (hp:∀i (h2:i<ds.length),ak Tryz.prog g (fF ds[i]::cap) h fun r h' =>r= .v (.bool (q ds[i]))∧h' =h):
  ak Tryz.prog 120 [y, .fn g cap] h fun r h' =>r= .v (.bool (ds.any q))∧h' =h:=by
 refine ak.body hU hm Tryz.func120 rfl (by kernel_rfl) 9 rfl [.tmp 4] rfl (VZ rfl) (fun hwf=> ?_)
 simp only [go_sem];refine (HC y _ ds q g cap h hb (by simp) (by simpa using hl) (mP (fun _=>rfl) _) fun i a b=>by rw [V1]; exact hp i b).pthen ?_
 simp only [go_sem,sv];exact .same (.refl _) ⟨rfl,rfl⟩
theorem Kr {h:Heap} {x:AV} {c:aJ} (hb:RdC h x c) (subj:Txt) (hl:c.log.length≤1000000000):ak Tryz.prog 83 [x, .s subj] h fun r h' =>r=aU (sd c.log subj)∧h' =h:=by
 obtain ⟨f,l,rfl,hf,hlg⟩:=hb;refine ak.body hU hm Tryz.func83 rfl (by kernel_rfl) 13 rfl [.cell 4 24] rfl (VZ rfl) (fun hwf=> ?_)
 simp only [go_sem];intro i1 h1;simp only [go_sem];intro i2 h2;have n21:=aH h2;have n2:=aD h2;simp only [go_sem];intro i3 h3;have n32:=aH h3;have h3' :=aD h3;have n31:=aH h3';have n3:=aD h3';simp only [go_sem];intro i4 h4;have n43:=aH h4;have h4' :=aD h4;have n42:=aH h4';have h4'' :=aD h4';have n41:=aH h4'';have n4:=aD h4'';have hs:∀a b d e,Ab.Sub h (upd (upd (upd (upd h i1 a) i2 b) i3 d) i4 e):=fun a b d e=>((((Sub.refl h).put h1 a).put n2 b).put n3 d).put n4 e
 simp only [go_sem,aj,n21.symm,n31.symm,n41.symm];refine (Fm l c.log (fun x=>x.actor==subj) _ [.ptr i2 0] _ (hlg.sub (hs _ _ _ _)) hl fun i b=>IZ _ (by simp only [aj,n42.symm,n32.symm,fN,not_false_eq_true])).pthen ?_
 cases d1:c.log.any fun x=>x.actor==subj
 ·simp only [go_sem,aj,n43.symm]
  exact .mk _ (.refl _) (by repeat' first|exact .refl _|(refine Sub.put ?_ (by assumption) _)) ⟨by simp [sd,d1,aU,ax],rfl⟩
 ·simp only [go_sem,aj,n43.symm]
  exact .mk _ (.refl _) (by repeat' first|exact .refl _|(refine Sub.put ?_ (by assumption) _)) ⟨by simp [sd,d1,aU,ax],rfl⟩
def vK (g:bk) (q:Perm):AV:= .agg [.v (.int .i64 g.cat), .s g.name, .sl (g.bag.map aU) q]
def GRow (ys:List AV) (gs:List bk):Prop:=ys.length=gs.length∧∀j (h1:j<ys.length) (h2:j<gs.length),∃q,ys[j]=vK gs[j] q
theorem GRow.sized {ys:List AV} {gs:List bk} (h:GRow ys gs):Sized 3 ys:=fun z hz=>by
 obtain ⟨i,hi,rfl⟩:=List.mem_iff_getElem.1 hz;obtain ⟨q,e⟩:=h.2 i hi (by rw [←h.1]; exact hi)
 rw [e]; rfl
theorem GRow.one (g:bk) (q:Perm):GRow [vK g q] [g]:=⟨rfl,fun j h1 h2=>by
 obtain rfl:j=0:=by simpa using h1
 exact ⟨q,rfl⟩⟩
theorem GRow.app {ys zs:List AV} {gs ks:List bk} (h:GRow ys gs) (k:GRow zs ks):GRow (ys++zs) (gs++ks):=⟨by simp [h.1,k.1],fun j h1 h2=>by
 have hl:=h.1
 by_cases e:j<ys.length
 ·rw [List.getElem_append_left e,List.getElem_append_left (by omega)]; exact h.2 j e (by omega)
 ·rw [List.getElem_append_right (by omega),List.getElem_append_right (by omega)]
  simp only [V4] at h1 h2;obtain ⟨q,e'⟩:=k.2 (j - ys.length) (by omega) (by omega)
  exact ⟨q,by rw [e']; simp only [hl]⟩⟩
theorem GRow.weak {ys:List AV} {gs:List bk} (h:GRow ys gs) (q:Perm):Weak (.sl ys q) (bB gs):=by
 refine .deep _ _ q (by simp [h.1]) (fun k h1 h2=> ?_) fun k h1 h2 j h3 h4=> ?_
 ·obtain ⟨q',e'⟩:=h.2 k h1 (by rw [←h.1]; exact h1)
  rw [e',V1]; rfl
 ·obtain ⟨q',e'⟩:=h.2 k h1 (by rw [←h.1]; exact h1)
  simp only [e',V1];simp only [e',vK,AV.cells] at h3;simp only [vK,jD,AV.cells];rcases j with _|_|_|j
  ·exact .refl _
  ·exact .refl _
  ·exact .sl _ _
  ·simp at h3; omega
theorem GRow.givs (gs:List bk):GRow (gs.map jD) gs:=⟨by simp,fun j h1 h2=>⟨.no,by rw [V1]; rfl⟩⟩
theorem bY:(U 118).sz=3:=by simp only [go_sem]
theorem fq (g:bk) (q:Perm):Sized 3 [vK g q]:=fun z hz=>by rw [List.mem_singleton.1 hz]; rfl
def qD (c:aJ) (subj:Txt):List bk:= [⟨3,idT,[idV c.id]⟩,⟨3,[111,119,110,101,114],[idV c.owner]⟩,⟨3,[115,116,97,116,101],[idV c.state]⟩,⟨3,[101,118,101,110,116,115],[⟨2,c.log.length,[]⟩]⟩,⟨3,[116,111,111,107],[sd c.log subj]⟩]
def oL (c:aJ):List bk:=match c.log.getLast? with
 |some x=> [⟨3,[108,97,115,116],[idV x.actor]⟩]
 |none=> []
def fe (l:List cI):List bk:=(l.filter fun f=>decide (f.name.length≤14)).map fun f=>⟨3,[102,95]++f.name,[f.val]⟩
theorem kI (l:List cI) (i:Nat) (h:i<l.length):fe (l.take (i+1))=fe (l.take i)++(if l[i].name.length≤14 then [⟨3,[102,95]++l[i].name,[l[i].val]⟩] else []):=by
 unfold fe;rw [List.take_succ_eq_append_getElem h,List.filter_append,List.map_append]
 congr 1
 by_cases hh:l[i].name.length≤14<;>simp [hh]
theorem nX (c:aJ) (subj:Txt):cB c subj=qD c subj++oL c++fe c.fields:=rfl
set_option maxRecDepth 100000 in
theorem Cp {h:Heap} (c:aJ) (subj:Txt) (hl:c.log.length≤1000000) (hlf:c.fields.length≤1000000):ak Tryz.prog 49 [bJ c, .s subj] h fun r h' =>r=bB (cB c subj)∧h' =h:=by
 refine ak.body hU hm Tryz.func49 rfl (by kernel_rfl) 77 rfl [.tmp 4] rfl (VZ rfl) (fun hwf=> ?_)
 simp only [go_sem,bJ,kZ,fG,pX];intro i1 h1;simp only [go_sem];refine .quiet (by kernel_rfl) ?_
 simp only [go_sem];refine ⟨_,qe _ _, ?_⟩;simp only [go_sem,aU,idV];refine ⟨_,dH _ _ _ _ _, ?_⟩;simp only [go_sem];refine ⟨_,qe _ _, ?_⟩;simp only [go_sem,aU,idV];refine ⟨_,dH _ _ _ _ _, ?_⟩;simp only [go_sem];refine ⟨_,qe _ _, ?_⟩;simp only [go_sem,aU,idV];refine ⟨_,dH _ _ _ _ _, ?_⟩;simp only [go_sem];refine ⟨_,dH _ _ _ _ _, ?_⟩;simp only [go_sem];refine ⟨_,Kr (show RdC _ (.agg [.s c.id, .s c.owner, .s c.state, .sl (c.fields.map bw) .no, .sl (c.log.map fF) .no]) c from rdC _ c) subj (by omega), ?_⟩
 simp only [go_sem,aU];refine ⟨_,dH _ _ _ _ _, ?_⟩;simp only [go_sem,V0];have hs1:∀b,Ab.Sub h (upd h i1 b):=fun b=>(Sub.refl h).put h1 b
 have hrow5:GRow [.agg [.v (.int .i64 3), .s [105,100], .sl [.agg [.v (.int .i64 5), .v (.int .i64 0), .s c.id]] .full], .agg [.v (.int .i64 3), .s [111,119,110,101,114], .sl [.agg [.v (.int .i64 5), .v (.int .i64 0), .s c.owner]] .full], .agg [.v (.int .i64 3), .s [115,116,97,116,101], .sl [.agg [.v (.int .i64 5), .v (.int .i64 0), .s c.state]] .full], .agg [.v (.int .i64 3), .s [101,118,101,110,116,115], .sl [.agg [.v (.int .i64 2), .v (.int .i64 c.log.length), .s []]] .full], .agg [.v (.int .i64 3), .s [116,111,111,107], .sl [aU (sd c.log subj)] .full]] (qD c subj):=(GRow.one ⟨3,idT,[idV c.id]⟩ .full).app ((GRow.one ⟨3,[111,119,110,101,114],[idV c.owner]⟩ .full).app ((GRow.one ⟨3,[115,116,97,116,101],[idV c.state]⟩ .full).app ((GRow.one ⟨3,[101,118,101,110,116,115],[⟨2,c.log.length,[]⟩]⟩ .full).app (GRow.one ⟨3,[116,111,111,107],[sd c.log subj]⟩ .full))));simp only [aU] at hrow5;cases d1:decide ((0:Int)<(c.log.length:Int))
 ·have hl0:c.log= []:=List.length_eq_zero_iff.1 (by have:=V3 d1; omega)
  simp only [go_sem];simp only [go_sem,V0];refine .intro (fun m ρ H=>∃(i:Nat) (y:AV) (ys:List AV),Acc U 118 h H y ys∧H i1=some (.obj [.s c.id, .s c.owner, .s c.state, .sl (c.fields.map bw) .no, .sl (c.log.map fF) .no] 78)∧GRow ys (qD c subj++fe (c.fields.take i))∧i≤c.fields.length∧m=c.fields.length - i∧lk ρ 5=some y∧lk ρ 2=some (.ptr i1 0)∧lk ρ 55=some (.sl (c.fields.map bw) .no)∧lk ρ 56=some (.v (.int .i64 c.fields.length))∧lk ρ 57=some (.v (.int .i64 i))) c.fields.length ?_ ?_
  ·refine ⟨0,_,_, .full (hs1 _),ah ..,(by have:=hrow5; simpa [fe] using this),by omega,rfl, ?_, ?_, ?_, ?_, ?_⟩<;>simp only [go_sem]
  ·rintro m ρ H ⟨i,y,ys,hy,g1,hrow,hi,rfl,r5,r2,r55,r56,r57⟩
   simp only [go_sem,r56,r57];refine .intro (fun e=> ?_) (fun e=> ?_)
   ·have hlt:i<c.fields.length:=V7 e
    have w1:=V6 i (by omega)
    simp only [go_sem,r55,r57];refine .at i (by simpa using hlt) (by rw [V1]; rfl) ?_
    simp only [go_sem,V1,bw];intro i8 h8;have n81:i1≠i8:=fun e=>by rw [←e,g1] at h8; cases h8
    simp only [go_sem];cases d2:decide ((c.fields[i].name.length:Int)≤14)
    ·simp only [go_sem,r57,w1]
     have hskip:fe (c.fields.take (i+1))=fe (c.fields.take i):=by
      have:¬c.fields[i].name.length≤14:=by have:=V3 d2; omega
      rw [kI _ _ hlt,if_neg this,List.append_nil]
     refine ⟨_, ?_,i+1,y,ys,hy.sub (.ai h8),(ag _ _ n81).trans g1,by rw [hskip]; exact hrow,by omega,rfl, ?_, ?_, ?_, ?_, ?_⟩
     ·omega
     all_goals simp only [go_sem,r5,r2,r55,r56]
    ·simp only [go_sem,r5]
     have h14:c.fields[i].name.length≤14:=by have:=V2 d2; omega
     refine ⟨by have:(1000:Nat)<lim:=(by decide); omega, ?_⟩
     refine (dH _ _ _ _ _).pthen ?_;simp only [go_sem];refine (hy.sub (.ai h8)).app (zs:= [vK ⟨3,[102,95]++c.fields[i].name,[c.fields[i].val]⟩ .full]) (by rw [bY]; decide) (by simp only [go_sem,ne_eq,not_false_eq_true]) (fun k hk=>(Rd.sl (fq _ _) .full:Rd _ 3 _ _).src bY hk) (by rw [bY]; exact hrow.sized) (by rw [bY]; exact fq _ _) (by
      have hln:(fe (c.fields.take i)).length≤i:=by unfold fe; rw [V0]; exact Nat.le_trans (List.length_filter_le _ _) (by rw [List.length_take]; omega)
      simp only [go_sem,hrow.1,List.length_cons,List.length_nil,qD]; omega) fun y' H' hy' kp=> ?_
     simp only [go_sem,r57,w1];refine ⟨_, ?_,i+1,y',_,hy',kp _ _ _ ((ag _ _ n81).trans g1),by rw [kI _ _ hlt,if_pos h14,←List.append_assoc]; exact hrow.app (GRow.one _ _),by omega,rfl, ?_, ?_, ?_, ?_, ?_⟩
     ·omega
     all_goals simp only [go_sem,r2,r55,r56]
   ·have hge:i=c.fields.length:=by have:=V3 e; omega
    subst hge;rw [List.take_length] at hrow;obtain ⟨q,rfl⟩:=hy.row;simp only [go_sem,r5];exact .mk (bB (cB c subj)) (show Weak (.sl ys q) _ by rw [nX,oL,hl0]; simpa using hrow.weak q) hy.1 ⟨rfl,rfl⟩
 ·have hl1:0<c.log.length:=by have:=V2 d1; omega
  simp only [go_sem];have w0:IntKind.i64.wrap ((c.log.length:Int) - 1)=((c.log.length - 1:Nat):Int):=by rw [bx _ (by omega)]; omega
  simp only [go_sem,w0];refine .at (c.log.length - 1) (by simp; omega) (by rw [V1]; rfl) ?_
  simp only [go_sem,V1,fF];rw [if_neg (fun hh=>hh.1)]
  refine (qe _ _).pthen ?_;simp only [go_sem,aU,idV];refine (dH _ _ _ _ _).pthen ?_;simp only [go_sem];have hgl:c.log.getLast? =some c.log[c.log.length - 1]:=by rw [List.getLast?_eq_getElem?,List.getElem?_eq_getElem (by omega)]
  have hlast:GRow [.agg [.v (.int .i64 3), .s [108,97,115,116], .sl [.agg [.v (.int .i64 5), .v (.int .i64 0), .s c.log[c.log.length - 1].actor]] .full]] (oL c):=by
   unfold oL;rw [hgl];exact GRow.one ⟨3,[108,97,115,116],[idV c.log[c.log.length - 1].actor]⟩ .full
  refine .accs (hs1 _) fun y0 H0 hy0 kp0=> ?_
  simp only [go_sem,kp0 _ _ _ (ah ..),V0];refine .intro (fun m ρ H=>∃(i:Nat) (y:AV) (ys:List AV),Acc U 118 h H y ys∧H i1=some (.obj [.s c.id, .s c.owner, .s c.state, .sl (c.fields.map bw) .no, .sl (c.log.map fF) .no] 78)∧GRow ys ((qD c subj++oL c)++fe (c.fields.take i))∧i≤c.fields.length∧m=c.fields.length - i∧lk ρ 5=some y∧lk ρ 2=some (.ptr i1 0)∧lk ρ 55=some (.sl (c.fields.map bw) .no)∧lk ρ 56=some (.v (.int .i64 c.fields.length))∧lk ρ 57=some (.v (.int .i64 i))) c.fields.length ?_ ?_
  ·refine ⟨0,_,_,hy0,kp0 _ _ _ (ah ..),(by have:=hrow5.app hlast; simpa [fe] using this),by omega,rfl, ?_, ?_, ?_, ?_, ?_⟩<;>simp only [go_sem]
  ·rintro m ρ H ⟨i,y,ys,hy,g1,hrow,hi,rfl,r5,r2,r55,r56,r57⟩
   simp only [go_sem,r56,r57];refine .intro (fun e=> ?_) (fun e=> ?_)
   ·have hlt:i<c.fields.length:=V7 e
    have w1:=V6 i (by omega)
    simp only [go_sem,r55,r57];refine .at i (by simpa using hlt) (by rw [V1]; rfl) ?_
    simp only [go_sem,V1,bw];intro i8 h8;have n81:i1≠i8:=fun e=>by rw [←e,g1] at h8; cases h8
    simp only [go_sem];cases d2:decide ((c.fields[i].name.length:Int)≤14)
    ·simp only [go_sem,r57,w1]
     have hskip:fe (c.fields.take (i+1))=fe (c.fields.take i):=by
      have:¬c.fields[i].name.length≤14:=by have:=V3 d2; omega
      rw [kI _ _ hlt,if_neg this,List.append_nil]
     refine ⟨_, ?_,i+1,y,ys,hy.sub (.ai h8),(ag _ _ n81).trans g1,by rw [hskip]; exact hrow,by omega,rfl, ?_, ?_, ?_, ?_, ?_⟩
     ·omega
     all_goals simp only [go_sem,r5,r2,r55,r56]
    ·simp only [go_sem,r5]
     have h14:c.fields[i].name.length≤14:=by have:=V2 d2; omega
     refine ⟨by have:(1000:Nat)<lim:=(by decide); omega, ?_⟩
     refine (dH _ _ _ _ _).pthen ?_;simp only [go_sem];refine (hy.sub (.ai h8)).app (zs:= [vK ⟨3,[102,95]++c.fields[i].name,[c.fields[i].val]⟩ .full]) (by rw [bY]; decide) (by simp only [go_sem,ne_eq,not_false_eq_true]) (fun k hk=>(Rd.sl (fq _ _) .full:Rd _ 3 _ _).src bY hk) (by rw [bY]; exact hrow.sized) (by rw [bY]; exact fq _ _) (by
      have hln:(fe (c.fields.take i)).length≤i:=by unfold fe; rw [V0]; exact Nat.le_trans (List.length_filter_le _ _) (by rw [List.length_take]; omega)
      simp only [go_sem,hrow.1,List.length_cons,List.length_nil,qD,oL,hgl]; omega) fun y' H' hy' kp=> ?_
     simp only [go_sem,r57,w1];refine ⟨_, ?_,i+1,y',_,hy',kp _ _ _ ((ag _ _ n81).trans g1),by rw [kI _ _ hlt,if_pos h14,←List.append_assoc]; exact hrow.app (GRow.one _ _),by omega,rfl, ?_, ?_, ?_, ?_, ?_⟩
     ·omega
     all_goals simp only [go_sem,r2,r55,r56]
   ·have hge:i=c.fields.length:=by have:=V3 e; omega
    subst hge;rw [List.take_length] at hrow;obtain ⟨q,rfl⟩:=hy.row;simp only [go_sem,r5];exact .mk (bB (cB c subj)) (show Weak (.sl ys q) _ by rw [nX]; exact hrow.weak q) hy.1 ⟨rfl,rfl⟩
theorem BU {l:List fQ} {subj:Txt} {i:Nat} (h:i<l.length) (h1:l[i].subj=subj) (h2:(cS (l.take i) subj).length<16):cS (l.take (i+1)) subj=cS (l.take i) subj++ [idV l[i].role]:=by
 unfold cS at h2⊢;rw [List.take_succ_eq_append_getElem h,List.filter_append,List.map_append];rw [List.length_take] at h2;have hl:(((l.take i).filter fun r=>r.subj==subj).map fun r=>idV r.role).length<16:=by omega
 rw [List.take_append,List.take_of_length_le (by omega),List.filter_cons,List.filter_nil,if_pos (by simp [h1])]
 congr 1
 rw [List.take_of_length_le (by simp; simp at hl; omega)]; rfl
theorem wS {l:List fQ} {subj:Txt} {i:Nat} (h:i<l.length) (h1:l[i].subj≠subj∨¬(cS (l.take i) subj).length<16):cS (l.take (i+1)) subj=cS (l.take i) subj:=by
 unfold cS at h1⊢;rw [List.take_succ_eq_append_getElem h,List.filter_append,List.map_append,List.take_append]
 by_cases hs:l[i].subj=subj
 ·have h2:=h1.resolve_left (fun h=>h hs)
  rw [List.length_take] at h2;rw [show 16 - (((l.take i).filter fun r=>r.subj==subj).map fun r=>idV r.role).length=0 by omega,List.take_zero,List.append_nil]
 ·rw [List.filter_cons,List.filter_nil,if_neg (by simpa using hs)]
  simp
theorem Dj (l:List fQ) (subj:Txt):(cS l subj).length≤16:=by unfold cS; rw [List.length_take]; omega
def cL (s:an) (o:OpD):List bk:= [⟨1,idT,[idV o.subj]⟩,⟨1,[114,111,108,101],cS s.roles o.subj⟩,⟨2,[110,97,109,101],[idV (iW o.kind)]⟩]
theorem vF {s:an} (hf:Few s) (id:Txt):(bp s.cases id).log.length≤1000000∧(bp s.cases id).fields.length≤1000000:=by
 cases e:bM s.cases id
 ·rw [Au e]; exact ⟨Nat.zero_le _,Nat.zero_le _⟩
 ·rw [As e]; exact ⟨hf.log _ (V5 _),hf.fields _ (V5 _)⟩
theorem An (c:aJ) (subj:Txt):(cB c subj).length≤6+c.fields.length:=by
 rw [nX,V4,V4];have h1:(oL c).length≤1:=by unfold oL; split<;>simp
 have h2:(fe c.fields).length≤c.fields.length:=by unfold fe; rw [V0]; exact List.length_filter_le _ _
 have h3:(qD c subj).length=5:=rfl;omega
theorem iR {h G:Heap} {i:Nat} (hs:Ab.Sub h G) (hi:G i=none):h i=none:=hs.none hi
theorem z8:(U 24).sz=3:=by simp only [go_sem]
set_option maxRecDepth 100000 in
theorem GL {h:Heap} {x:AV} {s:an} (hb:RdS h x s) (o:OpD) (hf:Few s) (hk:i64 o.kind):ak Tryz.prog 18 [x,opA o] h fun r h' =>r=bB (eE s o)∧h' =h:=by
 have hca:=fun (G:Heap) (hG:Ab.Sub h G)=>uJ (hb.sub hG) o.case hf
 obtain ⟨y1,y2,y3,y4,rfl,⟨xs,hc,hn,hcs⟩,h2,h3,h4⟩:=hb;cases hpp:s.policy with
 |mk pid pset palg ptgt prules pkids pobls=>
 have hcC:fB (.mk pid pset palg ptgt prules pkids pobls)= [.s pid, .v (.bool pset), .v (.int .i64 palg),aT ptgt, .sl (prules.map aB) .no, .sl (pkids.map aK) .no,au pobls]:=by simp [fB,aV]
 rw [hpp,hcC] at hca;simp only [List.cons_append,List.nil_append] at hca;have hfr:=hf.roles;refine ak.body hU hm Tryz.func18 rfl (by kernel_rfl) 99 rfl [.tmp 4] rfl (VZ rfl) (fun hwf=> ?_)
 simp only [go_sem,hcC,opA,opC,List.cons_append,List.nil_append];intro i1 h1;simp only [go_sem];intro i2 h2';have n21:=aH h2';have n2:=aD h2';simp only [go_sem,aj,n21.symm,h4.len,V0];obtain ⟨H,eH⟩:∃H,upd (upd h i1 (some (.obj [.v (.int .i64 s.tick),y1,y2,y3,y4, .s pid, .v (.bool pset), .v (.int .i64 palg),aT ptgt, .sl (prules.map aB) .no, .sl (pkids.map aK) .no,au pobls, .v (.int .i64 s.version)] 39))) i2 (some (.obj (opC o) 26))=H:=⟨_,rfl⟩;have hH:Ab.Sub h H:=by rw [←eH]; exact ((Sub.refl h).put h1 _).put n2 _
 have g1:H i1=some (.obj [.v (.int .i64 s.tick),y1,y2,y3,y4, .s pid, .v (.bool pset), .v (.int .i64 palg),aT ptgt, .sl (prules.map aB) .no, .sl (pkids.map aK) .no,au pobls, .v (.int .i64 s.version)] 39):=by rw [←eH,ag _ _ n21.symm,ah]
 have g2:H i2=some (.obj (opC o) 26):=by rw [←eH,ah]
 simp only [opC] at eH g2;rw [eH];clear eH;refine .intro (fun m ρ G=>∃(i:Nat) (y:AV),Acc U 24 H G y ((cS (s.roles.take i) o.subj).map aU)∧i≤s.roles.length∧m=s.roles.length - i∧lk ρ 5=some y∧lk ρ 2=some (.ptr i1 0)∧lk ρ 3=some (.ptr i2 0)∧lk ρ 12=some y4∧lk ρ 13=some (.v (.int .i64 s.roles.length))∧lk ρ 14=some (.v (.int .i64 i))) s.roles.length ?_ ?_
 ·refine ⟨0,_, .full (.refl _),by omega,rfl, ?_, ?_, ?_, ?_, ?_, ?_⟩<;>simp only [go_sem,cS,List.take_zero,List.filter_nil,List.map_nil]
 ·rintro m ρ G ⟨i,y,hy,hi,rfl,r5,r2,r3,r12,r13,r14⟩
  have k1:=hy.1 _ _ g1;have k2:=hy.1 _ _ g2;simp only [go_sem,r13,r14];refine .intro (fun e=> ?_) (fun e=> ?_)
  ·have hlt:i<s.roles.length:=V7 e
   have w1:=V6 i (by omega)
   simp only [go_sem,r12,r14];refine (h4.sub (hH.trans hy.1)).idx (e:=54) i rfl (by simpa using hlt) Ez (by decide) fun p hp1=> ?_
   have hld:=hp1.all (U:=U) (ty:=54) (by simp only [go_sem]) (by rw [Ez,V1]; rfl) (by simp only [go_sem]; rw [V1]; rfl)
   simp only [go_sem,hld,V1,cD];intro i7 h7;have n71:i1≠i7:=fun e=>by rw [←e,k1] at h7; cases h7
   have n72:i2≠i7:=fun e=>by rw [←e,k2] at h7; cases h7
   simp only [go_sem,aj,n72,k2,r3];have hy7:=hy.sub (.ai h7 (k:=some (.obj [.s s.roles[i].subj, .s s.roles[i].role] 54)));have lr:=Dj (s.roles.take i) o.subj;cases d1:(s.roles[i].subj==o.subj)
   ·have p1:s.roles[i].subj≠o.subj:=by simpa using d1
    simp only [go_sem,r14,w1];refine ⟨_, ?_,i+1,y,by rw [wS hlt (.inl p1)]; exact hy7,by omega,rfl, ?_, ?_, ?_, ?_, ?_, ?_⟩
    ·omega
    all_goals simp only [go_sem,r5,r2,r3,r12,r13]
   ·have p1:s.roles[i].subj=o.subj:=by simpa using d1
    simp only [go_sem,r5,hy.len,V0];cases d2:decide (((cS (s.roles.take i) o.subj).length:Int)<16)
    ·have p2:¬(cS (s.roles.take i) o.subj).length<16:=by have:=V3 d2; omega
     simp only [go_sem,r14,w1];refine ⟨_, ?_,i+1,y,by rw [wS hlt (.inr p2)]; exact hy7,by omega,rfl, ?_, ?_, ?_, ?_, ?_, ?_⟩
     ·omega
     all_goals simp only [go_sem,r5,r2,r3,r12,r13]
    ·have p2:(cS (s.roles.take i) o.subj).length<16:=by have:=V2 d2; omega
     simp only [go_sem,r5];refine (qe _ _).pthen ?_;simp only [go_sem,aU,idV];refine hy7.app (zs:= [aU (idV s.roles[i].role)]) (by rw [z8]; decide) (by simp only [go_sem,ne_eq,not_false_eq_true]) (fun k hk=>(Rd.sl (fun z hz=>by rw [List.mem_singleton.1 hz]; rfl) .full:Rd _ 3 _ _).src z8 hk) (by rw [z8]; exact bl (f:=aU) (fun _=>rfl) _) (by rw [z8]; exact bl (f:=aU) (fun _=>rfl) [idV s.roles[i].role]) (by simp only [go_sem,V0,List.length_cons,List.length_nil]; omega) fun y' H' hy' kp=> ?_
     simp only [go_sem,r14,w1];refine ⟨_, ?_,i+1,y',by rw [BU hlt p1 p2,List.map_append]; exact hy',by omega,rfl, ?_, ?_, ?_, ?_, ?_, ?_⟩
     ·omega
     all_goals simp only [go_sem,r2,r3,r12,r13]
  ·have hge:i=s.roles.length:=by have:=V3 e; omega
   subst hge;rw [List.take_length] at hy;simp only [go_sem];obtain ⟨q5,rfl⟩:=hy.row;refine .quiet (by kernel_rfl) ?_
   simp only [go_sem,k2,r3];refine ⟨_,qe _ _, ?_⟩;simp only [go_sem,aU,idV];refine ⟨_,dH _ _ _ _ _, ?_⟩;simp only [go_sem,r5];refine ⟨_,dH _ _ _ _ _, ?_⟩;simp only [go_sem,k2,r3];refine ⟨_,xU _ hk _, ?_⟩;simp only [go_sem];refine ⟨_,qe _ _, ?_⟩;simp only [go_sem,aU,idV];refine ⟨_,dH _ _ _ _ _, ?_⟩;simp only [go_sem,k2,r3];have hak:=fun (G:Heap)=>Cp (h:=G) (bp s.cases o.case) o.subj (vF hf o.case).1 (vF hf o.case).2
   simp only [bJ,kZ,fG,pX] at hak;have hakl:=An (bp s.cases o.case) o.subj;have hakf:=(vF hf o.case).2;have hr0:GRow [.agg [.v (.int .i64 1), .s [105,100], .sl [.agg [.v (.int .i64 5), .v (.int .i64 0), .s o.subj]] .full], .agg [.v (.int .i64 1), .s [114,111,108,101], .sl ((cS s.roles o.subj).map aU) q5], .agg [.v (.int .i64 2), .s [110,97,109,101], .sl [.agg [.v (.int .i64 5), .v (.int .i64 0), .s (iW o.kind)]] .full]] (cL s o):=(GRow.one ⟨1,idT,[idV o.subj]⟩ .full).app ((GRow.one ⟨1,[114,111,108,101],cS s.roles o.subj⟩ q5).app (GRow.one ⟨2,[110,97,109,101],[idV (iW o.kind)]⟩ .full))
   by_cases pf:o.field= []
   ·have df:(o.field==([]:Txt))=true:=by simp [pf]
    simp only [go_sem,k2,r3,df]
    by_cases pt:o.to= []
    ·have dt:(o.to==([]:Txt))=true:=by simp [pt]
     simp only [go_sem,k1,r2,dt];refine (dH _ _ _ _ _).pthen ?_;simp only [go_sem];refine .accs hy.1 fun y1 G1 hy1 kp1=> ?_
     have k1_1:=kp1 _ _ _ k1;have k2_1:=kp1 _ _ _ k2;have hr1:=hr0.app (GRow.one (⟨4,[110,111,119],[⟨4,s.tick,[]⟩]⟩:bk) .full);simp only [go_sem,k1_1,k2_1,r2,r3];refine (hca _ (hH.trans hy1.1)).pthen ?_;simp only [go_sem,bJ,kZ,fG,pX];intro i20 h20;have n21:i1≠i20:=fun e=>by rw [←e,k1_1] at h20; cases h20
     have n22:i2≠i20:=fun e=>by rw [←e,k2_1] at h20; cases h20
     simp only [go_sem];obtain ⟨q2,eq2⟩:=hy1.row;cases dth:bM s.cases o.case
     ·simp only [go_sem]
      exact .mk (bB (eE s o)) (show Weak y1 _ by rw [eq2,show eE s o=(cL s o++ [(⟨4,[110,111,119],[⟨4,s.tick,[]⟩]⟩:bk)]) by simp [eE,cL,dth,pf,pt]]; exact hr1.weak q2) ((hH.trans hy1.1).put (iR (hH.trans hy1.1) h20) _) ⟨rfl,rfl⟩
     ·simp only [go_sem,aj,n22,k2_1,r3]
      by_cases p6:o.kind=6
      ·have d6:(o.kind !=6)=false:=by simp [p6]
       simp only [go_sem,d6];exact .mk (bB (eE s o)) (show Weak y1 _ by rw [eq2,show eE s o=(cL s o++ [(⟨4,[110,111,119],[⟨4,s.tick,[]⟩]⟩:bk)]) by simp [eE,cL,dth,p6,pf,pt]]; exact hr1.weak q2) ((hH.trans hy1.1).put (iR (hH.trans hy1.1) h20) _) ⟨rfl,rfl⟩
      ·have d6:(o.kind !=6)=true:=by simp [p6]
       simp only [go_sem,aj,n22,k2_1,r3,d6];refine (hak _).pthen ?_;simp only [go_sem,bB];refine (hy1.sub (.ai h20)).app (zs:=(cB (bp s.cases o.case) o.subj).map jD) (by rw [bY]; decide) (by simp only [go_sem,ne_eq,not_false_eq_true]) (fun k hk=>(eC jD 3 (fun _=>rfl) _ _).src bY hk) (by rw [bY]; exact hr1.sized) (by rw [bY]; exact bl (f:=jD) (fun _=>rfl) _) (by simp only [go_sem,V0,List.length_cons,List.length_nil]<;>omega) fun yz Gz hyz kpz=> ?_
       simp only [go_sem];obtain ⟨qz,eqz⟩:=hyz.row;exact .mk (bB (eE s o)) (show Weak yz _ by rw [eqz,show eE s o=(cL s o++ [(⟨4,[110,111,119],[⟨4,s.tick,[]⟩]⟩:bk)])++cB (bp s.cases o.case) o.subj by simp [eE,cL,dth,p6,pf,pt]]; exact (hr1.app (GRow.givs _)).weak qz) (hH.trans hyz.1) ⟨rfl,rfl⟩
    ·have dt:(o.to==([]:Txt))=false:=by simp [pt]
     simp only [go_sem,k2,r3,dt];refine (qe _ _).pthen ?_;simp only [go_sem,aU,idV];refine (dH _ _ _ _ _).pthen ?_;simp only [go_sem];refine .accs hy.1 fun y3 G3 hy3 kp3=> ?_
     have k1_3:=kp3 _ _ _ k1;have k2_3:=kp3 _ _ _ k2;have hr3:=hr0.app (GRow.one (⟨2,[116,111],[idV o.to]⟩:bk) .full);simp only [go_sem,k1_3,r2];refine (dH _ _ _ _ _).pthen ?_;simp only [go_sem];refine hy3.app (zs:= [vK (⟨4,[110,111,119],[⟨4,s.tick,[]⟩]⟩) .full]) (by rw [bY]; decide) (by simp only [go_sem,ne_eq,not_false_eq_true]) (fun k hk=>(Rd.sl (fq _ _) .full:Rd _ 3 _ _).src bY hk) (by rw [bY]; exact hr3.sized) (by rw [bY]; exact fq _ _) (by simp only [go_sem,List.length_cons,List.length_nil]<;>omega) fun y4 G4 hy4 kp4=> ?_
     have k1_4:=kp4 _ _ _ k1_3;have k2_4:=kp4 _ _ _ k2_3;have hr4:=hr3.app (GRow.one (⟨4,[110,111,119],[⟨4,s.tick,[]⟩]⟩:bk) .full);simp only [go_sem,k1_4,k2_4,r2,r3];refine (hca _ (hH.trans hy4.1)).pthen ?_;simp only [go_sem,bJ,kZ,fG,pX];intro i50 h50;have n51:i1≠i50:=fun e=>by rw [←e,k1_4] at h50; cases h50
     have n52:i2≠i50:=fun e=>by rw [←e,k2_4] at h50; cases h50
     simp only [go_sem];obtain ⟨q5,eq5⟩:=hy4.row;cases dth:bM s.cases o.case
     ·simp only [go_sem]
      exact .mk (bB (eE s o)) (show Weak y4 _ by rw [eq5,show eE s o=((cL s o++ [(⟨2,[116,111],[idV o.to]⟩:bk)])++ [(⟨4,[110,111,119],[⟨4,s.tick,[]⟩]⟩:bk)]) by simp [eE,cL,dth,pf,pt]]; exact hr4.weak q5) ((hH.trans hy4.1).put (iR (hH.trans hy4.1) h50) _) ⟨rfl,rfl⟩
     ·simp only [go_sem,aj,n52,k2_4,r3]
      by_cases p6:o.kind=6
      ·have d6:(o.kind !=6)=false:=by simp [p6]
       simp only [go_sem,d6];exact .mk (bB (eE s o)) (show Weak y4 _ by rw [eq5,show eE s o=((cL s o++ [(⟨2,[116,111],[idV o.to]⟩:bk)])++ [(⟨4,[110,111,119],[⟨4,s.tick,[]⟩]⟩:bk)]) by simp [eE,cL,dth,p6,pf,pt]]; exact hr4.weak q5) ((hH.trans hy4.1).put (iR (hH.trans hy4.1) h50) _) ⟨rfl,rfl⟩
      ·have d6:(o.kind !=6)=true:=by simp [p6]
       simp only [go_sem,aj,n52,k2_4,r3,d6];refine (hak _).pthen ?_;simp only [go_sem,bB];refine (hy4.sub (.ai h50)).app (zs:=(cB (bp s.cases o.case) o.subj).map jD) (by rw [bY]; decide) (by simp only [go_sem,ne_eq,not_false_eq_true]) (fun k hk=>(eC jD 3 (fun _=>rfl) _ _).src bY hk) (by rw [bY]; exact hr4.sized) (by rw [bY]; exact bl (f:=jD) (fun _=>rfl) _) (by simp only [go_sem,V0,List.length_cons,List.length_nil]<;>omega) fun yz Gz hyz kpz=> ?_
       simp only [go_sem];obtain ⟨qz,eqz⟩:=hyz.row;exact .mk (bB (eE s o)) (show Weak yz _ by rw [eqz,show eE s o=((cL s o++ [(⟨2,[116,111],[idV o.to]⟩:bk)])++ [(⟨4,[110,111,119],[⟨4,s.tick,[]⟩]⟩:bk)])++cB (bp s.cases o.case) o.subj by simp [eE,cL,dth,p6,pf,pt]]; exact (hr4.app (GRow.givs _)).weak qz) (hH.trans hyz.1) ⟨rfl,rfl⟩
   ·have df:(o.field==([]:Txt))=false:=by simp [pf]
    simp only [go_sem,k2,r3,df];refine (qe _ _).pthen ?_;simp only [go_sem,aU,idV];refine (dH _ _ _ _ _).pthen ?_;simp only [go_sem];refine .accs hy.1 fun y6 G6 hy6 kp6=> ?_
    have k1_6:=kp6 _ _ _ k1;have k2_6:=kp6 _ _ _ k2;have hr6:=hr0.app (GRow.one (⟨2,[102,105,101,108,100],[idV o.field]⟩:bk) .full);simp only [go_sem,k2_6,r3]
    by_cases pt:o.to= []
    ·have dt:(o.to==([]:Txt))=true:=by simp [pt]
     simp only [go_sem,k1_6,r2,dt];refine (dH _ _ _ _ _).pthen ?_;simp only [go_sem];refine hy6.app (zs:= [vK (⟨4,[110,111,119],[⟨4,s.tick,[]⟩]⟩) .full]) (by rw [bY]; decide) (by simp only [go_sem,ne_eq,not_false_eq_true]) (fun k hk=>(Rd.sl (fq _ _) .full:Rd _ 3 _ _).src bY hk) (by rw [bY]; exact hr6.sized) (by rw [bY]; exact fq _ _) (by simp only [go_sem,List.length_cons,List.length_nil]<;>omega) fun y7 G7 hy7 kp7=> ?_
     have k1_7:=kp7 _ _ _ k1_6;have k2_7:=kp7 _ _ _ k2_6;have hr7:=hr6.app (GRow.one (⟨4,[110,111,119],[⟨4,s.tick,[]⟩]⟩:bk) .full);simp only [go_sem,k1_7,k2_7,r2,r3];refine (hca _ (hH.trans hy7.1)).pthen ?_;simp only [go_sem,bJ,kZ,fG,pX];intro i80 h80;have n81:i1≠i80:=fun e=>by rw [←e,k1_7] at h80; cases h80
     have n82:i2≠i80:=fun e=>by rw [←e,k2_7] at h80; cases h80
     simp only [go_sem];obtain ⟨q8,eq8⟩:=hy7.row;cases dth:bM s.cases o.case
     ·simp only [go_sem]
      exact .mk (bB (eE s o)) (show Weak y7 _ by rw [eq8,show eE s o=((cL s o++ [(⟨2,[102,105,101,108,100],[idV o.field]⟩:bk)])++ [(⟨4,[110,111,119],[⟨4,s.tick,[]⟩]⟩:bk)]) by simp [eE,cL,dth,pf,pt]]; exact hr7.weak q8) ((hH.trans hy7.1).put (iR (hH.trans hy7.1) h80) _) ⟨rfl,rfl⟩
     ·simp only [go_sem,aj,n82,k2_7,r3]
      by_cases p6:o.kind=6
      ·have d6:(o.kind !=6)=false:=by simp [p6]
       simp only [go_sem,d6];exact .mk (bB (eE s o)) (show Weak y7 _ by rw [eq8,show eE s o=((cL s o++ [(⟨2,[102,105,101,108,100],[idV o.field]⟩:bk)])++ [(⟨4,[110,111,119],[⟨4,s.tick,[]⟩]⟩:bk)]) by simp [eE,cL,dth,p6,pf,pt]]; exact hr7.weak q8) ((hH.trans hy7.1).put (iR (hH.trans hy7.1) h80) _) ⟨rfl,rfl⟩
      ·have d6:(o.kind !=6)=true:=by simp [p6]
       simp only [go_sem,aj,n82,k2_7,r3,d6];refine (hak _).pthen ?_;simp only [go_sem,bB];refine (hy7.sub (.ai h80)).app (zs:=(cB (bp s.cases o.case) o.subj).map jD) (by rw [bY]; decide) (by simp only [go_sem,ne_eq,not_false_eq_true]) (fun k hk=>(eC jD 3 (fun _=>rfl) _ _).src bY hk) (by rw [bY]; exact hr7.sized) (by rw [bY]; exact bl (f:=jD) (fun _=>rfl) _) (by simp only [go_sem,V0,List.length_cons,List.length_nil]<;>omega) fun yz Gz hyz kpz=> ?_
       simp only [go_sem];obtain ⟨qz,eqz⟩:=hyz.row;exact .mk (bB (eE s o)) (show Weak yz _ by rw [eqz,show eE s o=((cL s o++ [(⟨2,[102,105,101,108,100],[idV o.field]⟩:bk)])++ [(⟨4,[110,111,119],[⟨4,s.tick,[]⟩]⟩:bk)])++cB (bp s.cases o.case) o.subj by simp [eE,cL,dth,p6,pf,pt]]; exact (hr7.app (GRow.givs _)).weak qz) (hH.trans hyz.1) ⟨rfl,rfl⟩
    ·have dt:(o.to==([]:Txt))=false:=by simp [pt]
     simp only [go_sem,k2_6,r3,dt];refine (qe _ _).pthen ?_;simp only [go_sem,aU,idV];refine (dH _ _ _ _ _).pthen ?_;simp only [go_sem];refine hy6.app (zs:= [vK (⟨2,[116,111],[idV o.to]⟩) .full]) (by rw [bY]; decide) (by simp only [go_sem,ne_eq,not_false_eq_true]) (fun k hk=>(Rd.sl (fq _ _) .full:Rd _ 3 _ _).src bY hk) (by rw [bY]; exact hr6.sized) (by rw [bY]; exact fq _ _) (by simp only [go_sem,List.length_cons,List.length_nil]<;>omega) fun y9 G9 hy9 kp9=> ?_
     have k1_9:=kp9 _ _ _ k1_6;have k2_9:=kp9 _ _ _ k2_6;have hr9:=hr6.app (GRow.one (⟨2,[116,111],[idV o.to]⟩:bk) .full);simp only [go_sem,k1_9,r2];refine (dH _ _ _ _ _).pthen ?_;simp only [go_sem];refine hy9.app (zs:= [vK (⟨4,[110,111,119],[⟨4,s.tick,[]⟩]⟩) .full]) (by rw [bY]; decide) (by simp only [go_sem,ne_eq,not_false_eq_true]) (fun k hk=>(Rd.sl (fq _ _) .full:Rd _ 3 _ _).src bY hk) (by rw [bY]; exact hr9.sized) (by rw [bY]; exact fq _ _) (by simp only [go_sem,List.length_cons,List.length_nil]<;>omega) fun y10 G10 hy10 kp10=> ?_
     have k1_10:=kp10 _ _ _ k1_9;have k2_10:=kp10 _ _ _ k2_9;have hr10:=hr9.app (GRow.one (⟨4,[110,111,119],[⟨4,s.tick,[]⟩]⟩:bk) .full);simp only [go_sem,k1_10,k2_10,r2,r3];refine (hca _ (hH.trans hy10.1)).pthen ?_;simp only [go_sem,bJ,kZ,fG,pX];intro i110 h110;have n111:i1≠i110:=fun e=>by rw [←e,k1_10] at h110; cases h110
     have n112:i2≠i110:=fun e=>by rw [←e,k2_10] at h110; cases h110
     simp only [go_sem];obtain ⟨q11,eq11⟩:=hy10.row;cases dth:bM s.cases o.case
     ·simp only [go_sem]
      exact .mk (bB (eE s o)) (show Weak y10 _ by rw [eq11,show eE s o=(((cL s o++ [(⟨2,[102,105,101,108,100],[idV o.field]⟩:bk)])++ [(⟨2,[116,111],[idV o.to]⟩:bk)])++ [(⟨4,[110,111,119],[⟨4,s.tick,[]⟩]⟩:bk)]) by simp [eE,cL,dth,pf,pt]]; exact hr10.weak q11) ((hH.trans hy10.1).put (iR (hH.trans hy10.1) h110) _) ⟨rfl,rfl⟩
     ·simp only [go_sem,aj,n112,k2_10,r3]
      by_cases p6:o.kind=6
      ·have d6:(o.kind !=6)=false:=by simp [p6]
       simp only [go_sem,d6];exact .mk (bB (eE s o)) (show Weak y10 _ by rw [eq11,show eE s o=(((cL s o++ [(⟨2,[102,105,101,108,100],[idV o.field]⟩:bk)])++ [(⟨2,[116,111],[idV o.to]⟩:bk)])++ [(⟨4,[110,111,119],[⟨4,s.tick,[]⟩]⟩:bk)]) by simp [eE,cL,dth,p6,pf,pt]]; exact hr10.weak q11) ((hH.trans hy10.1).put (iR (hH.trans hy10.1) h110) _) ⟨rfl,rfl⟩
      ·have d6:(o.kind !=6)=true:=by simp [p6]
       simp only [go_sem,aj,n112,k2_10,r3,d6];refine (hak _).pthen ?_;simp only [go_sem,bB];refine (hy10.sub (.ai h110)).app (zs:=(cB (bp s.cases o.case) o.subj).map jD) (by rw [bY]; decide) (by simp only [go_sem,ne_eq,not_false_eq_true]) (fun k hk=>(eC jD 3 (fun _=>rfl) _ _).src bY hk) (by rw [bY]; exact hr10.sized) (by rw [bY]; exact bl (f:=jD) (fun _=>rfl) _) (by simp only [go_sem,V0,List.length_cons,List.length_nil]<;>omega) fun yz Gz hyz kpz=> ?_
       simp only [go_sem];obtain ⟨qz,eqz⟩:=hyz.row;exact .mk (bB (eE s o)) (show Weak yz _ by rw [eqz,show eE s o=(((cL s o++ [(⟨2,[102,105,101,108,100],[idV o.field]⟩:bk)])++ [(⟨2,[116,111],[idV o.to]⟩:bk)])++ [(⟨4,[110,111,119],[⟨4,s.tick,[]⟩]⟩:bk)])++cB (bp s.cases o.case) o.subj by simp [eE,cL,dth,p6,pf,pt]]; exact (hr10.app (GRow.givs _)).weak qz) (hH.trans hyz.1) ⟨rfl,rfl⟩
end Go.Proofs.YtnlbeamjpefpfaaGreatDoor
namespace Go.Bf
open Go Go.Ab
def vC (a b:cw):Bool:=a.on==b.on && (a.kind==b.kind && a.arg==b.arg)
def eqL {α:Type} (f:α→α→Bool):List α→List α→Bool
 | [],[]=>true
 |x::a,y::b=>f x y && eqL f a b
 |_,_=>false
theorem gA {α:Type} {f:α→α→Bool}:∀ {a b:List α},a.length=b.length→(∀j (h1:j<a.length) (h2:j<b.length),f a[j] b[j]=true)→eqL f a b=true
 | [],[],_,_=>rfl
 |x::a,y::b,hl,h=>by
  simp only [eqL,Bool.and_eq_true];exact ⟨h 0 (by simp) (by simp),gA (by simpa using hl) fun j h1 h2=>h (j+1) (by simpa using h1) (by simpa using h2)⟩
theorem pK {α:Type} {f:α→α→Bool}:∀ {a b:List α},a.length≠b.length→eqL f a b=false
 | [],[],h=>(h rfl).elim
 | [],_::_,_=>rfl
 |_::_,[],_=>rfl
 |x::a,y::b,h=>by
  simp only [eqL];rw [pK (fun e=>h (by simp [e])),Bool.and_false]
theorem sA {α:Type} {f:α→α→Bool}:∀ {a b:List α} (j:Nat) (h1:j<a.length) (h2:j<b.length),f a[j] b[j]=false→eqL f a b=false
 |x::a,y::b,0,_,_,h=>by simp only [List.getElem_cons_zero] at h; simp [eqL,h]
 |x::a,y::b,j+1,h1,h2,h=>by
  simp only [eqL];rw [sA j (by simpa using h1) (by simpa using h2) (by simpa using h),Bool.and_false]
end Go.Bf
namespace Go.Proofs.YtnlbeamjpefpfaaGreatDoor
open Go Go.Ab Go.Bf
theorem wU (a b:List cw) (h:Heap):ak Tryz.prog 19 [au a,au b] h fun r h' =>r= .v (.bool (eqL vC a b))∧h' =h:=by
 refine ak.body hU hm Tryz.func19 rfl (by kernel_rfl) 26 rfl [.tmp 4] rfl (VZ rfl) (fun hwf=> ?_)
 cases d1:((a.length:Int) !=(b.length:Int))
 case true=>
  have e1:a.length≠b.length:=by
   intro e; rw [e] at d1; simp at d1
  simp only [go_sem,au,V0,d1];exact .same (.refl _) ⟨by rw [pK e1]; rfl,rfl⟩
 have e1:a.length=b.length:=by have:(a.length:Int)=b.length:=(by simpa using d1); omega
 simp only [go_sem,au,V0,d1];refine .intro (fun m ρ h' =>Ab.Sub h h'∧∃i:Nat,i≤a.length∧m=a.length - i∧(∀j (h1:j<a.length) (h2:j<b.length),j<i→vC a[j] b[j]=true)∧lk ρ 0=some (.sl (a.map bf) .no)∧lk ρ 1=some (.sl (b.map bf) .no)∧lk ρ 5=some (.v (.int .i64 i))) a.length ?_ ?_
 ·refine ⟨.refl _,0,by omega,rfl,fun j _ _ hj=>(by omega), ?_, ?_, ?_⟩<;>simp only [go_sem]
 ·rintro m ρ h' ⟨hs,i,hi,rfl,hc,r0,r1,r5⟩
  simp only [go_sem,r0,r5,V0];refine .intro (fun e=> ?_) (fun e=> ?_)
  ·have hlt:i<a.length:=V7 e
   have hlt2:i<b.length:=by omega
   have w1:IntKind.i64.wrap ((i:Int)+1)=((i+1:Nat):Int):=by
    have:=hwf (au a) (by simp)
    simp only [au,wfA,wf1,lim,V0] at this;rw [bx _ (by omega)]; omega
   simp only [go_sem,r0,r5];refine ⟨.of (by kernel_rfl), ?_⟩
   refine .at i (by simpa using hlt) (by rw [V1]; rfl) ?_
   simp only [go_sem,r1,r5,V1,bf];refine .at i (by simpa using hlt2) (by rw [V1]; rfl) ?_
   simp only [go_sem,V1,bf];cases d3:vC a[i] b[i]
   ·have d4:=d3
    simp only [vC] at d4;simp only [go_sem,d4];exact .mk _ (.refl _) hs ⟨by rw [sA i hlt hlt2 d3]; rfl,rfl⟩
   ·have d4:=d3
    simp only [vC] at d4;simp only [go_sem,r5,d4,w1];refine ⟨_, ?_,hs,i+1,by omega,rfl,fun j h1 h2 hj=> ?_, ?_, ?_, ?_⟩
    ·omega
    ·by_cases hji:j=i
     ·subst hji; exact d3
     ·exact hc j h1 h2 (by omega)
    all_goals simp only [go_sem,r0,r1]
  ·have hge:i=a.length:=by have:=V3 e; omega
   subst hge;simp only [go_sem];exact .mk _ (.refl _) hs ⟨by rw [gA e1 fun j h1 h2=>hc j h1 h2 h1]; rfl,rfl⟩
end Go.Proofs.YtnlbeamjpefpfaaGreatDoor
namespace Go.Bf
open Go Go.Ab
def lS (a b:fQ):Bool:=a.subj==b.subj && a.role==b.role
def iq (a b:cI):Bool:=a.name==b.name && (a.val.kind==b.val.kind && (a.val.n==b.val.n && a.val.s==b.val.s))
def mg (a b:sr):Bool:=a.tick==b.tick && (a.actor==b.actor && a.what==b.what)
end Go.Bf
namespace Go.Proofs.YtnlbeamjpefpfaaGreatDoor
open Go Go.Ab Go.Bf
theorem o7 (a b:List fQ) (q1 q2:Perm) (h:Heap):ak Tryz.prog 15 [.sl (a.map cD) q1, .sl (b.map cD) q2] h fun r h' =>r= .v (.bool (eqL lS a b))∧h' =h:=by
 refine ak.body hU hm Tryz.func15 rfl (by kernel_rfl) 26 rfl [.tmp 4] rfl (VZ rfl) (fun hwf=> ?_)
 cases d1:((a.length:Int) !=(b.length:Int))
 case true=>
  have e1:a.length≠b.length:=by
   intro e; rw [e] at d1; simp at d1
  simp only [go_sem,V0,d1];exact .same (.refl _) ⟨by rw [pK e1]; rfl,rfl⟩
 have e1:a.length=b.length:=by have:(a.length:Int)=b.length:=(by simpa using d1); omega
 simp only [go_sem,V0,d1];refine .intro (fun m ρ h' =>Ab.Sub h h'∧∃i:Nat,i≤a.length∧m=a.length - i∧(∀j (h1:j<a.length) (h2:j<b.length),j<i→lS a[j] b[j]=true)∧lk ρ 0=some (.sl (a.map cD) q1)∧lk ρ 1=some (.sl (b.map cD) q2)∧lk ρ 5=some (.v (.int .i64 i))) a.length ?_ ?_
 ·refine ⟨.refl _,0,by omega,rfl,fun j _ _ hj=>(by omega), ?_, ?_, ?_⟩<;>simp only [go_sem]
 ·rintro m ρ h' ⟨hs,i,hi,rfl,hc,r0,r1,r5⟩
  simp only [go_sem,r0,r5,V0];refine .intro (fun e=> ?_) (fun e=> ?_)
  ·have hlt:i<a.length:=V7 e
   have hlt2:i<b.length:=by omega
   have w1:IntKind.i64.wrap ((i:Int)+1)=((i+1:Nat):Int):=by
    have:=hwf (.sl (a.map cD) q1) (by simp)
    simp only [wfA,wf1,lim,V0] at this;rw [bx _ (by omega)]; omega
   simp only [go_sem,r0,r5];refine ⟨.of (by kernel_rfl), ?_⟩
   refine .at i (by simpa using hlt) (by rw [V1]; rfl) ?_
   simp only [go_sem,r1,r5,V1,cD];refine .at i (by simpa using hlt2) (by rw [V1]; rfl) ?_
   simp only [go_sem,V1,cD];cases d3:lS a[i] b[i]
   ·have d4:=d3
    simp only [lS] at d4;simp only [go_sem,d4];exact .mk _ (.refl _) hs ⟨by rw [sA i hlt hlt2 d3]; rfl,rfl⟩
   ·have d4:=d3
    simp only [lS] at d4;simp only [go_sem,r5,d4,w1];refine ⟨_, ?_,hs,i+1,by omega,rfl,fun j h1 h2 hj=> ?_, ?_, ?_, ?_⟩
    ·omega
    ·by_cases hji:j=i
     ·subst hji; exact d3
     ·exact hc j h1 h2 (by omega)
    all_goals simp only [go_sem,r0,r1]
  ·have hge:i=a.length:=by have:=V3 e; omega
   subst hge;simp only [go_sem];exact .mk _ (.refl _) hs ⟨by rw [gA e1 fun j h1 h2=>hc j h1 h2 h1]; rfl,rfl⟩
theorem zY (a b:List cI) (q1 q2:Perm) (h:Heap):ak Tryz.prog 42 [.sl (a.map bw) q1, .sl (b.map bw) q2] h fun r h' =>r= .v (.bool (eqL iq a b))∧h' =h:=by
 refine ak.body hU hm Tryz.func42 rfl (by kernel_rfl) 26 rfl [.tmp 4] rfl (VZ rfl) (fun hwf=> ?_)
 cases d1:((a.length:Int) !=(b.length:Int))
 case true=>
  have e1:a.length≠b.length:=by
   intro e; rw [e] at d1; simp at d1
  simp only [go_sem,V0,d1];exact .same (.refl _) ⟨by rw [pK e1]; rfl,rfl⟩
 have e1:a.length=b.length:=by have:(a.length:Int)=b.length:=(by simpa using d1); omega
 simp only [go_sem,V0,d1];refine .intro (fun m ρ h' =>Ab.Sub h h'∧∃i:Nat,i≤a.length∧m=a.length - i∧(∀j (h1:j<a.length) (h2:j<b.length),j<i→iq a[j] b[j]=true)∧lk ρ 0=some (.sl (a.map bw) q1)∧lk ρ 1=some (.sl (b.map bw) q2)∧lk ρ 5=some (.v (.int .i64 i))) a.length ?_ ?_
 ·refine ⟨.refl _,0,by omega,rfl,fun j _ _ hj=>(by omega), ?_, ?_, ?_⟩<;>simp only [go_sem]
 ·rintro m ρ h' ⟨hs,i,hi,rfl,hc,r0,r1,r5⟩
  simp only [go_sem,r0,r5,V0];refine .intro (fun e=> ?_) (fun e=> ?_)
  ·have hlt:i<a.length:=V7 e
   have hlt2:i<b.length:=by omega
   have w1:IntKind.i64.wrap ((i:Int)+1)=((i+1:Nat):Int):=by
    have:=hwf (.sl (a.map bw) q1) (by simp)
    simp only [wfA,wf1,lim,V0] at this;rw [bx _ (by omega)]; omega
   simp only [go_sem,r0,r5];refine ⟨.of (by kernel_rfl), ?_⟩
   refine .at i (by simpa using hlt) (by rw [V1]; rfl) ?_
   simp only [go_sem,r1,r5,V1,bw];refine .at i (by simpa using hlt2) (by rw [V1]; rfl) ?_
   simp only [go_sem,V1,bw];cases d3:iq a[i] b[i]
   ·have d4:=d3
    simp only [iq] at d4;simp only [go_sem,d4];exact .mk _ (.refl _) hs ⟨by rw [sA i hlt hlt2 d3]; rfl,rfl⟩
   ·have d4:=d3
    simp only [iq] at d4;simp only [go_sem,r5,d4,w1];refine ⟨_, ?_,hs,i+1,by omega,rfl,fun j h1 h2 hj=> ?_, ?_, ?_, ?_⟩
    ·omega
    ·by_cases hji:j=i
     ·subst hji; exact d3
     ·exact hc j h1 h2 (by omega)
    all_goals simp only [go_sem,r0,r1]
  ·have hge:i=a.length:=by have:=V3 e; omega
   subst hge;simp only [go_sem];exact .mk _ (.refl _) hs ⟨by rw [gA e1 fun j h1 h2=>hc j h1 h2 h1]; rfl,rfl⟩
theorem Dl (a b:List sr) (q1 q2:Perm) (h:Heap):ak Tryz.prog 43 [.sl (a.map fF) q1, .sl (b.map fF) q2] h fun r h' =>r= .v (.bool (eqL mg a b))∧h' =h:=by
 refine ak.body hU hm Tryz.func43 rfl (by kernel_rfl) 26 rfl [.tmp 4] rfl (VZ rfl) (fun hwf=> ?_)
 cases d1:((a.length:Int) !=(b.length:Int))
 case true=>
  have e1:a.length≠b.length:=by
   intro e; rw [e] at d1; simp at d1
  simp only [go_sem,V0,d1];exact .same (.refl _) ⟨by rw [pK e1]; rfl,rfl⟩
 have e1:a.length=b.length:=by have:(a.length:Int)=b.length:=(by simpa using d1); omega
 simp only [go_sem,V0,d1];refine .intro (fun m ρ h' =>Ab.Sub h h'∧∃i:Nat,i≤a.length∧m=a.length - i∧(∀j (h1:j<a.length) (h2:j<b.length),j<i→mg a[j] b[j]=true)∧lk ρ 0=some (.sl (a.map fF) q1)∧lk ρ 1=some (.sl (b.map fF) q2)∧lk ρ 5=some (.v (.int .i64 i))) a.length ?_ ?_
 ·refine ⟨.refl _,0,by omega,rfl,fun j _ _ hj=>(by omega), ?_, ?_, ?_⟩<;>simp only [go_sem]
 ·rintro m ρ h' ⟨hs,i,hi,rfl,hc,r0,r1,r5⟩
  simp only [go_sem,r0,r5,V0];refine .intro (fun e=> ?_) (fun e=> ?_)
  ·have hlt:i<a.length:=V7 e
   have hlt2:i<b.length:=by omega
   have w1:IntKind.i64.wrap ((i:Int)+1)=((i+1:Nat):Int):=by
    have:=hwf (.sl (a.map fF) q1) (by simp)
    simp only [wfA,wf1,lim,V0] at this;rw [bx _ (by omega)]; omega
   simp only [go_sem,r0,r5];refine ⟨.of (by kernel_rfl), ?_⟩
   refine .at i (by simpa using hlt) (by rw [V1]; rfl) ?_
   simp only [go_sem,r1,r5,V1,fF];refine .at i (by simpa using hlt2) (by rw [V1]; rfl) ?_
   simp only [go_sem,V1,fF];cases d3:mg a[i] b[i]
   ·have d4:=d3
    simp only [mg] at d4;simp only [go_sem,d4];exact .mk _ (.refl _) hs ⟨by rw [sA i hlt hlt2 d3]; rfl,rfl⟩
   ·have d4:=d3
    simp only [mg] at d4;simp only [go_sem,r5,d4,w1];refine ⟨_, ?_,hs,i+1,by omega,rfl,fun j h1 h2 hj=> ?_, ?_, ?_, ?_⟩
    ·omega
    ·by_cases hji:j=i
     ·subst hji; exact d3
     ·exact hc j h1 h2 (by omega)
    all_goals simp only [go_sem,r0,r1]
  ·have hge:i=a.length:=by have:=V3 e; omega
   subst hge;simp only [go_sem];exact .mk _ (.refl _) hs ⟨by rw [gA e1 fun j h1 h2=>hc j h1 h2 h1]; rfl,rfl⟩
end Go.Proofs.YtnlbeamjpefpfaaGreatDoor
namespace Go.Bf
open Go Go.Ab
theorem any_succ {α:Type} {q:α→Bool} {l:List α} {i:Nat} (h:i<l.length):(l.take (i+1)).any q=((l.take i).any q||q l[i]):=by
 rw [List.take_succ_eq_append_getElem h,List.any_append]; simp
end Go.Bf
namespace Go.Bf
def uy:Txt:= [97,110,110]
end Go.Bf
namespace Go.Proofs.YtnlbeamjpefpfaaGreatDoor
open Go Go.Ab Go.Bf
def zV:List Value:=Lib.pow10Tab.map fun z=>Value.int .u64 z
def MS (ev:Value):Heap:=uG [(3,zV),(2,[ev])]
theorem F7 {ev:Value} (hev:ev= .nilIface∨∃te pe,ev= .iface te pe):qq (MS ev):=⟨ev,hev,1,rfl⟩
end Go.Proofs.YtnlbeamjpefpfaaGreatDoor
namespace Go.Bf
open Go Go.Ab
def BA (o:OpD):OpD:= {o with subj:=o.subj.take 20,case:=o.case.take 20,field:=o.field.take 20,to:=o.to.take 20,val:= {o.val with s:=o.val.s.take 70},reason:=o.reason.take 70,text:=if o.text.length≤4096 then o.text.take 1000 else o.text}
end Go.Bf
namespace Go.Proofs.YtnlbeamjpefpfaaGreatDoor
open Go Go.Ab Go.Bf
theorem lF (s:Txt) (n:Nat) (hn:n≤1000000) (h:Heap):ak Tryz.prog 30 [.s s, .v (.int .i64 n)] h fun r h' =>r= .s (s.take n)∧h' =h:=by
 refine ak.body hU hm Tryz.func30 rfl (by kernel_rfl) 11 rfl [.tmp 4] rfl (VZ rfl) (fun hwf=> ?_)
 have e:(if (n:Int)<(s.length:Int) then (n:Int) else (s.length:Int))=((min n s.length:Nat):Int):=by split<;>omega
 simp only [go_sem,e];refine ⟨by omega,by omega,by omega, ?_⟩
 simp only [go_sem,Option.isSome_none,Option.isSome_some,pH,Int.toNat_natCast];exact .same (.refl _) ⟨by rw [List.take_eq_take_min (i:=n) (l:=s)]; rfl,rfl⟩
set_option maxRecDepth 100000 in
theorem Ih (o:OpD) (h:Heap):ak Tryz.prog 12 [opA o] h fun r h' =>r=opA (BA o)∧h' =h:=by
 refine ak.body hU hm Tryz.func12 rfl (by kernel_rfl) 38 rfl [.cell 2 26] rfl (VZ rfl) (fun hwf=> ?_)
 simp only [go_sem,opA,opC];intro i1 h1;simp only [go_sem];intro i2 h2;have n21:=aH h2;have n2:=aD h2;simp only [go_sem];have hns:∀G,Ab.Sub cN G:=fun G _ _ e=>by cases e
 have hs:∀a b,Ab.Sub h (upd (upd h i1 a) i2 b):=fun a b=>((Sub.refl h).put h1 a).put n2 b
 refine .stage (pick (upd (upd h i1 (some (.obj [.v (.int .i64 o.kind), .s o.subj, .s o.case, .s o.field, .s o.to, .v (.int .i64 o.val.kind), .v (.int .i64 o.val.n), .s o.val.s, .v (.int .i64 o.review), .s o.text, .s o.reason, .v (.bool o.glass)] 26))) i2 _) [i1]) [0,1,3,4,6,7,9,10,2,12,5,8,11] [13,14,15,16,17,18,19] br (by kernel_rfl) ?_
 simp only [go_sem,bz (show i1∈ [i1] by simp),aj,n21.symm]
 refine (show ak Tryz.prog 30 [_, .v (.int .i64 ((20:Nat):Int))] _ _ from (lF _ 20 (by decide) _).mono fun r h' ⟨e1,e2⟩=> ?_)
 subst e1; subst e2
 refine ⟨br, ?_⟩;simp only [go_sem];refine (show ak Tryz.prog 30 [_, .v (.int .i64 ((20:Nat):Int))] _ _ from (lF _ 20 (by decide) _).mono fun r h' ⟨e1,e2⟩=> ?_)
 subst e1; subst e2
 refine ⟨br, ?_⟩;simp only [go_sem];refine (show ak Tryz.prog 30 [_, .v (.int .i64 ((20:Nat):Int))] _ _ from (lF _ 20 (by decide) _).mono fun r h' ⟨e1,e2⟩=> ?_)
 subst e1; subst e2
 refine ⟨br, ?_⟩;simp only [go_sem];refine (show ak Tryz.prog 30 [_, .v (.int .i64 ((20:Nat):Int))] _ _ from (lF _ 20 (by decide) _).mono fun r h' ⟨e1,e2⟩=> ?_)
 subst e1; subst e2
 refine ⟨br, ?_⟩;simp only [go_sem];refine ⟨cN,hns _, ?_⟩;simp only [go_sem,aj,n21.symm];refine ⟨hns _,hns _,hns _,hns _, ?_⟩;refine .stage (pick _ [i1]) [0,1,2,4,5,3,7,8,6] [9,10,11] br (by kernel_rfl) ?_
 simp only [go_sem,bz (show i1∈ [i1] by simp)]
 refine (show ak Tryz.prog 30 [_, .v (.int .i64 ((70:Nat):Int))] _ _ from (lF _ 70 (by decide) _).mono fun r h' ⟨e1,e2⟩=> ?_)
 subst e1; subst e2
 refine ⟨br, ?_⟩;simp only [go_sem];refine (show ak Tryz.prog 30 [_, .v (.int .i64 ((70:Nat):Int))] _ _ from (lF _ 70 (by decide) _).mono fun r h' ⟨e1,e2⟩=> ?_)
 subst e1; subst e2
 refine ⟨br, ?_⟩;simp only [go_sem];refine ⟨cN,hns _, ?_⟩;simp only [go_sem];refine ⟨hns _,hns _, ?_⟩;cases d1:decide ((o.text.length:Int)≤4096)
 ·have p1:¬o.text.length≤4096:=by have:=V3 d1; omega
  simp only [go_sem,aj,n21];exact .mk _ (.refl _) (by repeat' first|exact .refl _|(refine Sub.put ?_ (by assumption) _)) ⟨by simp [BA,ax,p1],rfl⟩
 ·have p1:o.text.length≤4096:=by have:=V2 d1; omega
  simp only [go_sem];refine (show ak Tryz.prog 30 [_, .v (.int .i64 ((1000:Nat):Int))] _ _ from (lF _ 1000 (by decide) _).mono fun r h' ⟨e1,e2⟩=> ?_)
  subst e1; subst e2
  simp only [go_sem,aj,n21];exact .mk _ (.refl _) (by repeat' first|exact .refl _|(refine Sub.put ?_ (by assumption) _)) ⟨by simp [BA,ax,p1],rfl⟩
end Go.Proofs.YtnlbeamjpefpfaaGreatDoor
namespace Go.Bf
open Go Go.Ab
def gx (cat:Int) (name:Txt) (g:bk):Bool:=g.cat==cat && g.name==name
def getD (l:List bk) (cat:Int) (name:Txt):List bX:=match l.find? (gx cat name) with
 |some g=>g.bag
 |none=> []
end Go.Bf
namespace Go.Proofs.YtnlbeamjpefpfaaGreatDoor
open Go Go.Ab Go.Bf
theorem HB {α:Type} (y:AV) (xs:List AV) (ds:List α) (q:α→Bool) (g:FuncId) (cap:List AV) (h:Heap) (hb:Rd h 3 y xs) (hn:xs.length=ds.length) (hl:xs.length≤1000000000) (hx:∀x∈xs,bA x=true)
  (hp:∀i (h1:i<xs.length) (h2:i<ds.length),ak Tryz.prog g (xs[i]::cap) h fun r h' =>r= .v (.bool (q ds[i]))∧h' =h):
  ak Tryz.prog 210 [y, .fn g cap] h fun r h' =>r= .v (.int .i64 (ixD q ds))∧h' =h:=by
 refine ak.body hU hm Tryz.func210 rfl (by kernel_rfl) 19 rfl [.tmp 4] rfl (VZ rfl) (fun hwf=> ?_)
 simp only [go_sem,hb.len];refine .intro (fun m ρ h' =>h' =h∧∃i:Nat,i≤xs.length∧m=xs.length - i∧(∀j (hj:j<i) (h2:j<ds.length),q ds[j]=false)∧lk ρ 0=some y∧lk ρ 1=some (.fn g cap)∧lk ρ 7=some (.v (.int .i64 xs.length))∧lk ρ 8=some (.v (.int .i64 i))) xs.length ?_ ?_
 ·refine ⟨rfl,0,by omega,rfl,fun j hj=>(by omega), ?_, ?_, ?_, ?_⟩<;>simp only [go_sem]
 ·rintro m ρ h' ⟨rfl,i,hi,rfl,hc,r0,r1,r7,r8⟩
  simp only [go_sem,r7,r8];refine .intro (fun e=> ?_) (fun e=> ?_)
  ·have hlt:i<xs.length:=V7 e
   have hlt2:i<ds.length:=by omega
   have w1:=V6 i (by omega)
   simp only [go_sem,r0,r1,r8];refine hb.idx (e:=118) i rfl hlt (by simp only [go_sem]) (by decide) fun p hp1=> ?_
   have hld:=hp1.all (U:=U) (ty:=118) (by simp only [go_sem]) (by simp only [go_sem]; exact hb.1 _ (V5 hlt)) (by simp only [go_sem]; rw [hx _ (V5 hlt)])
   simp only [go_sem,hld];refine (show ak Tryz.prog g (xs[i]::cap) _ _ from hp i hlt hlt2).pthen ?_
   cases d1:q ds[i]
   ·simp only [go_sem,r8,w1]
    refine ⟨_, ?_,rfl,i+1,by omega,rfl,fun j hj h2=> ?_, ?_, ?_, ?_, ?_⟩
    ·omega
    ·by_cases hji:j=i
     ·subst hji; exact d1
     ·exact hc j (by omega) h2
    all_goals simp only [go_sem,r0,r1,r7]
   ·simp only [go_sem]
    exact .same (.refl _) ⟨by rw [mo hlt2 d1 fun j hj=>hc j hj (by omega)]; rfl,rfl⟩
  ·have hge:i=xs.length:=by have:=V3 e; omega
   simp only [go_sem];exact .same (.refl _) ⟨by rw [iD fun j hj=>hc j (by omega) hj]; rfl,rfl⟩
theorem FR {h:Heap} (g:bk) {k1 k2:Nat} {cat:Int} {name:Txt} (h1:h k1=some (.obj [.v (.int .i64 cat)] 3)) (h2:h k2=some (.obj [.s name] 9)):ak Tryz.prog 211 [jD g, .ptr k1 0, .ptr k2 0] h fun r h' =>r= .v (.bool (gx cat name g))∧h' =h:=by
 refine ak.body hU hm Tryz.func211 rfl (by kernel_rfl) 15 rfl [.tmp 4] rfl (VZ rfl) (fun hwf=> ?_)
 simp only [go_sem,jD];intro i1 hi1;have n1:k1≠i1:=fun e=>by subst e; rw [h1] at hi1; cases hi1
 have n2:k2≠i1:=fun e=>by subst e; rw [h2] at hi1; cases hi1
 simp only [go_sem,aj,n1,h1];cases d1:(g.cat==cat)
 ·simp only [go_sem]
  exact .mk _ (.refl _) (.ai hi1) ⟨by simp only [gx,d1]; rfl,rfl⟩
 ·simp only [go_sem,aj,n2,h2]
  exact .mk _ (.refl _) (.ai hi1) ⟨by simp only [gx,d1]; rfl,rfl⟩
theorem Is (gs:List bk) (cat:Int) (name:Txt) (hl:gs.length≤1000000000) (h:Heap):ak Tryz.prog 190 [bB gs, .v (.int .i64 cat), .s name] h fun r h' =>r= .v (.int .i64 (ixD (gx cat name) gs))∧h' =h:=by
 refine ak.body hU hm Tryz.func190 rfl (by kernel_rfl) 10 rfl [.tmp 6] rfl (VZ rfl) (fun hwf=> ?_)
 simp only [go_sem,bB];intro i1 h1;simp only [go_sem];intro i2 h2;have n21:=aH h2;have n2:=aD h2;have hs:∀a b,Ab.Sub h (upd (upd h i1 a) i2 b):=fun a b=>((Sub.refl h).put h1 a).put n2 b
 simp only [go_sem];refine (HB _ _ gs (gx cat name) _ [.ptr i1 0, .ptr i2 0] _ (eC jD 3 (fun _=>rfl) _ gs) (by simp) (by simpa using hl) (mP (fun _=>rfl) _) fun i a b=>by
  rw [V1]; exact FR _ (by rw [ag _ _ n21.symm,ah]) (ah ..)).pthen ?_
 simp only [go_sem];exact .mk _ (.refl _) (hs _ _) ⟨rfl,rfl⟩
theorem get_at {gs:List bk} {cat:Int} {name:Txt} (h:gs.findIdx (gx cat name)<gs.length):getD gs cat name=gs[gs.findIdx (gx cat name)].bag:=by
 unfold getD;rw [show gs.find? (gx cat name)=some gs[gs.findIdx (gx cat name)] from List.find?_eq_some_iff_getElem.2 ⟨List.findIdx_getElem (w:=h),_,h,rfl,fun j hj=>by simpa using List.not_of_lt_findIdx hj⟩]
theorem Mi {gs:List bk} {cat:Int} {name:Txt} (h:¬gs.findIdx (gx cat name)<gs.length):getD gs cat name= []:=by
 unfold getD;have e:gs.findIdx (gx cat name)=gs.length:=by
  have:gs.findIdx (gx cat name)≤gs.length:=List.findIdx_le_length;omega
 rw [List.find?_eq_none.2 fun x hx=>by simpa using List.findIdx_eq_length.1 e x hx]
end Go.Proofs.YtnlbeamjpefpfaaGreatDoor
namespace Go.Bf
open Go Go.Ab
def cT:Txt:= [99]
def stC (st:Txt) (log:List sr):aJ:=⟨cT,uy,st,[],log⟩
def nw:List Txt:= [gI,uv,yb,gw]
abbrev lt (a b:Txt):Prop:=Op.bytesLess a b=true
theorem lt_irrefl:∀a:Txt,¬lt a a
 | []=>by simp [lt,Op.bytesLess]
 |a::x=>by
  have:=lt_irrefl x;simp only [lt,Op.bytesLess,Bool.or_eq_true,Bool.and_eq_true,decide_eq_true_eq,beq_self_eq_true,true_and,not_or];exact ⟨UInt8.lt_irrefl a,this⟩
theorem lt_trans:∀ {a b c:Txt},lt a b→lt b c→lt a c
 |_,[],_,h,_=>by cases ‹Txt›<;>simp [lt,Op.bytesLess] at h
 | [],b::y,c,_,h=>by cases c<;>simp [lt,Op.bytesLess] at h⊢
 |a::x,b::y,[],_,h=>by simp [lt,Op.bytesLess] at h
 |a::x,b::y,c::z,h1,h2=>by
  simp only [lt,Op.bytesLess,Bool.or_eq_true,Bool.and_eq_true,decide_eq_true_eq,beq_iff_eq] at h1 h2⊢;rcases h1 with h1|⟨rfl,h1⟩
  ·rcases h2 with h2|⟨rfl,h2⟩
   ·exact .inl (UInt8.lt_trans h1 h2)
   ·exact .inl h1
  ·rcases h2 with h2|⟨rfl,h2⟩
   ·exact .inl h2
   ·exact .inr ⟨rfl,lt_trans h1 h2⟩
theorem yA:∀a b:Txt,lt a b∨a=b∨lt b a
 | [],[]=> .inr (.inl rfl)
 | [],b::y=> .inl rfl
 |a::x,[]=> .inr (.inr rfl)
 |a::x,b::y=>by
  simp only [lt,Op.bytesLess,Bool.or_eq_true,Bool.and_eq_true,decide_eq_true_eq,beq_iff_eq];rcases UInt8.lt_or_lt_of_ne (a:=a) (b:=b) with h
  by_cases e:a=b
  ·subst e
   rcases yA x y with h|rfl|h
   ·exact .inl (.inr ⟨rfl,h⟩)
   ·exact .inr (.inl rfl)
   ·exact .inr (.inr (.inr ⟨rfl,h⟩))
  ·rcases h e with h|h
   ·exact .inl (.inl h)
   ·exact .inr (.inr (.inl h))
def Asc (cs:List aJ):Prop:=cs.Pairwise fun a b=>lt a.id b.id
theorem DY {c:aJ} {cs:List aJ} {id:Txt} (h:¬lt c.id id):findD (c::cs) id=0:=by
 have:Op.bytesLess c.id id=false:=by simpa using h
 simp [findD,List.findIdx_cons,geB,this]
theorem DZ {c:aJ} {cs:List aJ} {id:Txt} (h:lt c.id id):findD (c::cs) id=findD cs id+1:=by
 have:Op.bytesLess c.id id=true:=h;simp [findD,List.findIdx_cons,geB,this]
theorem tc:∀ {cs:List aJ},Asc cs→∀id,bM cs id=cs.any fun c=>c.id==id
 | [],_,id=>rfl
 |c::cs,h,id=>by
  obtain ⟨h1,h2⟩:=List.pairwise_cons.1 h
  by_cases hl:lt c.id id
  ·have hne:(c.id==id)=false:=by
    rw [beq_eq_false_iff_ne];intro e; rw [e] at hl; exact lt_irrefl _ hl
   have e:bM (c::cs) id=bM cs id:=by
    unfold bM; rw [DZ hl]; rfl
   rw [e,tc h2 id,List.any_cons,hne,Bool.false_or]
  ·have e:bM (c::cs) id=(c.id==id):=by
    unfold bM; rw [DY hl]; rfl
   rw [e,List.any_cons];cases hc:(c.id==id)
   ·have hlt:lt id c.id:=by
     rcases yA c.id id with h|h|h
     ·exact (hl h).elim
     ·rw [h,beq_self_eq_true] at hc; cases hc
     ·exact h
    rw [Bool.false_or];refine (List.any_eq_false.2 fun d hd=> ?_).symm
    intro he;have:=lt_trans hlt (h1 d hd);rw [beq_iff_eq.1 he] at this;exact lt_irrefl _ this
   ·simp
theorem DN:∀ {cs:List aJ},Asc cs→∀c:aJ,(cs.any fun d=>d.id==c.id)=false→Asc (cs.take (findD cs c.id)++ [c]++cs.drop (findD cs c.id))
 | [],_,c,_=>by simp [Asc,findD]
 |d::cs,h,c,hn=>by
  obtain ⟨h1,h2⟩:=List.pairwise_cons.1 h;simp only [List.any_cons,Bool.or_eq_false_iff] at hn
  by_cases hl:lt d.id c.id
  ·rw [DZ hl]
   simp only [List.take_succ_cons,List.drop_succ_cons,List.cons_append];refine List.pairwise_cons.2 ⟨fun e he=> ?_,DN h2 c hn.2⟩
   simp only [List.mem_append,List.mem_singleton] at he;rcases he with (he|rfl)|he
   ·exact h1 e (List.mem_of_mem_take he)
   ·exact hl
   ·exact h1 e (List.mem_of_mem_drop he)
  ·rw [DY hl]
   have hlt:lt c.id d.id:=by
    rcases yA d.id c.id with h|h|h
    ·exact (hl h).elim
    ·rw [h,beq_self_eq_true] at hn; cases hn.1
    ·exact h
   refine List.pairwise_cons.2 ⟨fun e he=> ?_,h⟩
   rcases List.mem_cons.1 he with rfl|he
   ·exact hlt
   ·exact lt_trans hlt (h1 e he)
def Ch (fs:List cI):Prop:=fs.Pairwise fun a b=>lt a.name b.name
theorem zf (name:Txt) (v:bX):eL [] name v= [⟨name,v⟩]:=rfl
theorem xl {f:cI} {fs:List cI} {name:Txt} {v:bX} (h:lt f.name name):eL (f::fs) name v=f::eL fs name v:=by
 have hb:Op.bytesLess f.name name=true:=h;unfold eL;simp only [List.findIdx_cons,geB,hb,Bool.not_true,cond_false,List.getElem?_cons_succ];generalize hi:fs.findIdx (fun f=> !Op.bytesLess f.name name)=i
 cases e:fs[i]? with
 |none=>simp
 |some g=>
  by_cases hg:g.name=name
  ·simp [hg]
  ·simp [hg]
theorem xj {f:cI} {fs:List cI} {name:Txt} {v:bX} (h:f.name=name):eL (f::fs) name v=⟨f.name,v⟩::fs:=by
 subst h;have hb:Op.bytesLess f.name f.name=false:=by
  cases hb:Op.bytesLess f.name f.name
  ·rfl
  ·exact (lt_irrefl _ hb).elim
 unfold eL;simp [List.findIdx_cons,geB,hb]
theorem xk {f:cI} {fs:List cI} {name:Txt} {v:bX} (h:lt name f.name):eL (f::fs) name v=⟨name,v⟩::f::fs:=by
 have hb:Op.bytesLess f.name name=false:=by
  cases hb:Op.bytesLess f.name name
  ·rfl
  ·exact (lt_irrefl _ (lt_trans h hb)).elim
 have hne:f.name≠name:=fun e=>by rw [e] at h; exact lt_irrefl _ h
 unfold eL;simp [List.findIdx_cons,geB,hb,hne]
theorem tj:∀ {fs:List cI} {name:Txt} {v:bX} {g:cI},g∈eL fs name v→g=⟨name,v⟩∨g∈fs
 | [],name,v,g,h=>by rw [zf] at h; exact .inl (List.mem_singleton.1 h)
 |f::fs,name,v,g,h=>by
  rcases yA f.name name with hl|hl|hl
  ·rw [xl hl] at h
   rcases List.mem_cons.1 h with rfl|h
   ·exact .inr (List.mem_cons_self ..)
   ·rcases tj h with h|h
    ·exact .inl h
    ·exact .inr (List.mem_cons_of_mem _ h)
  ·rw [xj hl] at h
   rcases List.mem_cons.1 h with rfl|h
   ·exact .inl (by rw [hl])
   ·exact .inr (List.mem_cons_of_mem _ h)
  ·rw [xk hl] at h
   rcases List.mem_cons.1 h with rfl|h
   ·exact .inl rfl
   ·exact .inr h
theorem zc:∀ {fs:List cI} {name:Txt} {v:bX},Ch fs→Ch (eL fs name v)
 | [],name,v,_=>by rw [zf]; simp [Ch]
 |f::fs,name,v,h=>by
  obtain ⟨h1,h2⟩:=List.pairwise_cons.1 h;rcases yA f.name name with hl|hl|hl
  ·rw [xl hl]
   refine List.pairwise_cons.2 ⟨fun g hg=> ?_,zc h2⟩
   rcases tj hg with rfl|hg
   ·exact hl
   ·exact h1 g hg
  ·rw [xj hl]
   exact List.pairwise_cons.2 ⟨h1,h2⟩
  ·rw [xk hl]
   refine List.pairwise_cons.2 ⟨fun g hg=> ?_,h⟩
   rcases List.mem_cons.1 hg with rfl|hg
   ·exact hl
   ·exact lt_trans hl (h1 g hg)
theorem ze:∀ {fs:List cI} {name:Txt} {v:bX},Ch fs→(eL fs name v).length=if fs.any (fun f=>f.name==name) then fs.length else fs.length+1
 | [],name,v,_=>rfl
 |f::fs,name,v,h=>by
  obtain ⟨h1,h2⟩:=List.pairwise_cons.1 h;rcases yA f.name name with hl|hl|hl
  ·have hne:(f.name==name)=false:=by rw [beq_eq_false_iff_ne]; intro e; rw [e] at hl; exact lt_irrefl _ hl
   rw [xl hl,List.length_cons,ze h2,List.any_cons,hne,Bool.false_or];split<;>simp
  ·rw [xj hl]
   simp [hl]
  ·have hne:(f.name==name)=false:=by rw [beq_eq_false_iff_ne]; intro e; rw [e] at hl; exact lt_irrefl _ hl
   have hno:(fs.any fun f=>f.name==name)=false:=List.any_eq_false.2 fun g hg he=>by
    have:=lt_trans hl (h1 g hg);rw [beq_iff_eq.1 he] at this;exact lt_irrefl _ this
   rw [xk hl,List.any_cons,hne,hno];simp
theorem CJ (f:cI) (fs:List cI) (n:Txt):dZ (f::fs) n=if f.name=n then f.val else dZ fs n:=by
 unfold dZ
 by_cases h:f.name=n<;>simp [h]
def mkC (who id:Txt):aJ:=⟨id,who,gI,[],[⟨0,who,[110,101,119]⟩]⟩
def Rs (cs:List aJ) (id:Txt):Bool:=cs.any fun c=>c.id==id
end Go.Bf
namespace Go.Ab
open Go
section
variable {α : Type}
def dget (l:List (List UInt8×α)) (k:List UInt8):Option α:=(l.find? fun p=>p.1==k).map (·.2)
def dset (l:List (List UInt8×α)) (k:List UInt8) (v:α):List (List UInt8×α):=if (dget l k).isSome then l.map (fun p=>if p.1==k then (p.1,v) else p) else l++ [(k,v)]
end
end Go.Ab
namespace Go.Bf
open Go Go.Ab Go.Proofs.YtnlbeamjpefpfaaGreatDoor
structure Own (cs:List aJ) (own:List (Txt×Txt)):Prop where
 asc:Asc cs
 len:cs.length=own.length
 small:cs.length≤64
 mem:∀c∈cs,c=mkC c.owner c.id∧dget own c.id=some c.owner
 has:∀id,Rs cs id=(dget own id).isSome
 who:∀id w,dget own id=some w→w≠ []
 keys:∀p∈own,p.1.length≤3
theorem od:∀ {cs:List aJ},Asc cs→∀ {id:Txt},bM cs id=true→bp cs id∈cs∧(bp cs id).id=id:=by
 intro cs ha id h;have hlt:=gX h;unfold bp;rw [if_pos h];have hg:cs.getD (findD cs id) lG=cs[findD cs id]:=by simp [hlt]
 rw [hg];refine ⟨V5 _, ?_⟩;unfold bM at h;rw [List.getElem?_eq_getElem hlt] at h;simpa using h
end Go.Bf
namespace Go.Proofs.YtnlbeamjpefpfaaGreatDoor
open Go Go.Ab Go.Bf
theorem yO (rs:List fQ):eqL lS rs rs=true:=gA rfl fun j h1 h2=>by simp [lS]
def zj (o:OpD):Prop:=i64 o.kind∧i64 o.val.kind∧i64 o.val.n∧i64 o.review
theorem G0 {x:AV} (h:Dat U 24 x):∃v,x=aU v∧i64 v.kind∧i64 v.n:=by
 obtain ⟨ys,rfl,hys⟩:=h.yS (show (U 24).k= .strct [(0,3),(1,3),(2,9)] by simp only [go_sem])
 simp only [List.map_cons,List.map_nil,uZ] at hys;obtain ⟨y0,_,rfl,d0,y1,_,rfl,d1,y2,_,rfl,d2,rfl⟩:=hys;obtain ⟨n,rfl,hn⟩:=d0.i64 (by simp only [go_sem])
 obtain ⟨m,rfl,hm⟩:=d1.i64 (by simp only [go_sem])
 obtain ⟨s,rfl,_⟩:=d2.nC (by simp only [go_sem])
 exact ⟨⟨n,m,s⟩,by simp [aU,iA,AV.cells],hn,hm⟩
theorem GZ {x:AV} (h:Dat U 26 x):∃o,x=opA o∧zj o:=by
 obtain ⟨ys,rfl,hys⟩:=h.yS (show (U 26).k= .strct [(0,3),(1,9),(2,9),(3,9),(4,9),(5,24),(8,3),(9,9),(10,9),(11,4)] by simp only [go_sem])
 simp only [List.map_cons,List.map_nil,uZ] at hys;obtain ⟨y0,_,rfl,d0,y1,_,rfl,d1,y2,_,rfl,d2,y3,_,rfl,d3,y4,_,rfl,d4,y5,_,rfl,d5,y6,_,rfl,d6,y7,_,rfl,d7,y8,_,rfl,d8,y9,_,rfl,d9,rfl⟩:=hys;obtain ⟨a,rfl,ha⟩:=d0.i64 (by simp only [go_sem])
 obtain ⟨b,rfl,_⟩:=d1.nC (by simp only [go_sem])
 obtain ⟨c,rfl,_⟩:=d2.nC (by simp only [go_sem])
 obtain ⟨d,rfl,_⟩:=d3.nC (by simp only [go_sem])
 obtain ⟨e,rfl,_⟩:=d4.nC (by simp only [go_sem])
 obtain ⟨v,rfl,hv1,hv2⟩:=G0 d5;obtain ⟨r,rfl,hr⟩:=d6.i64 (by simp only [go_sem])
 obtain ⟨t,rfl,_⟩:=d7.nC (by simp only [go_sem])
 obtain ⟨s,rfl,_⟩:=d8.nC (by simp only [go_sem])
 obtain ⟨g,rfl⟩:=d9.GQ (by simp only [go_sem])
 exact ⟨⟨a,b,c,d,e,v,r,t,s,g⟩,by simp [opA,opC,aU,iA,AV.cells],ha,hv1,hv2,hr⟩
theorem inH {P:Program} {f:FuncId} {args:List AV} {h:Heap} {Q:AV→Heap→Prop} (hh:∀H2,H2=h→ak P f args H2 Q):ak P f args h Q:=hh h rfl
end Go.Proofs.YtnlbeamjpefpfaaGreatDoor
namespace Go.Bf
open Go Go.Ab Go.Proofs.YtnlbeamjpefpfaaGreatDoor
def Rt (v:Int):bX:=⟨2,v,[]⟩
structure Last (fs:List cI) (last:List (Txt×Int)):Prop where
 asc:Ch fs
 len:fs.length=last.length
 small:fs.length≤16
 kind:∀f∈fs,f.val.kind=2
 get:∀n,dZ fs n=((dget last n).map Rt).getD ay
 keys:∀p∈last,p.1.length=2
end Go.Bf
namespace Go.Bf
open Go Go.Ab
def Fine (n:Nat) (st:PS):Prop:=(st.bad=0∨st.bad=5∨st.bad=6)∧0≤st.place∧st.place≤n
def zi (n:Nat) (ts:List pU):Prop:=∀i,0≤(ts.getD i ⟨7,0,0,[]⟩).pos∧(ts.getD i ⟨7,0,0,[]⟩).pos≤n
theorem vH {n:Nat} {st:PS} {e p:Int} (h:Fine n st) (he:e=5∨e=6) (h0:0≤p) (h1:p≤n):Fine n (bD st e p):=by
 unfold bD; split
 ·exact ⟨.inr he,h0,h1⟩
 ·exact h
theorem AU {n:Nat} {a b:PS} (h:Rch a b) (ht:zi n a.ts) (hf:Fine n a):Fine n b:=by
 induction h with
 |refl=>exact hf
 |wrong e p h1 he hp ih=>
  obtain ⟨i,_,rfl⟩:=hp;rw [(pQ h1).1];exact vH ih he (ht i).1 (ht i).2
 |next _ _ _ ih=>exact ih
theorem En {a b:PS} (h:me a b):b.ts=a.ts:=by
 induction h with
 |refl=>rfl
 |small _ h1 ih=>exact (pQ h1).1.trans ih
 |rule _ _ _ _ ih=>exact ih
theorem E6 {n:Nat} {a b:PS} (h:me a b) (ht:zi n a.ts) (hf:Fine n a):Fine n b:=by
 induction h with
 |refl=>exact hf
 |small h1 h2 ih=>exact AU h2 (by rw [En h1]; exact ht) ih
 |rule _ _ _ _ ih=>exact ih
theorem vP {s:Txt} {ts:List pU} (h:qE s= .ok ts):zi s.length ts:=by
 obtain ⟨pre,rfl,_,h3,_⟩:=yx h;intro i;rw [List.getD_eq_getElem?_getD]
 by_cases hi:i<pre.length
 ·rw [List.getElem?_append_left hi,List.getElem?_eq_getElem hi]
  have:=h3 _ (V5 hi);exact ⟨this.1,by simp only [Option.getD_some]; omega⟩
 ·rw [List.getElem?_append_right (by omega)]
  by_cases h0:i - pre.length=0
  ·rw [h0]; simp
  ·rw [List.getElem?_eq_none (by simp; omega)]; simp
theorem Hr {s:Txt} {ts:List pU} (h:qE s= .ok ts):Fine s.length (nT s (ga 4 ⟨ts,0,0,0,0⟩)):=by
 have h0:Fine s.length ⟨ts,0,0,0,0⟩:=⟨.inl rfl,Int.le_refl _,by show (0:Int)≤_; omega⟩
 have hr:=zW 4 ⟨ts,0,0,0,0⟩;have h1:=E6 hr (vP h) h0;have ht:zi s.length (ga 4 ⟨ts,0,0,0,0⟩).2.ts:=by rw [En hr]; exact vP h
 have h2:Fine s.length (if (aL (ga 4 ⟨ts,0,0,0,0⟩).2).kind=7 then (ga 4 ⟨ts,0,0,0,0⟩).2 else bg (ga 4 ⟨ts,0,0,0,0⟩).2):=by
  split
  ·exact h1
  ·exact AU (jJ _) ht h1
 unfold nT;generalize (if (aL (ga 4 ⟨ts,0,0,0,0⟩).2).kind=7 then (ga 4 ⟨ts,0,0,0,0⟩).2 else bg (ga 4 ⟨ts,0,0,0,0⟩).2)=st1 at h2⊢
 split
 ·exact vH h2 (.inl rfl) (by omega) (Int.le_refl _)
 ·exact h2
theorem BD (s:Txt):(aR s).2.1=0∧(aR s).2.2=0∧fW (aR s).1=0∨
  ((aR s).2.1=5∨(aR s).2.1=6)∧0≤(aR s).2.2∧(aR s).2.2≤s.length∧(aR s).1=mM:=by
 unfold aR;cases h:qE s with
 |bad e a=>
  have:=vW h;exact .inr ⟨this.1,this.2.1,this.2.2,rfl⟩
 |ok ts=>
  have hf:=Hr h;simp only [wD];split
  ·rename_i hb
   refine .inl ⟨rfl,rfl, ?_⟩;simp only;unfold nT at hb;generalize (if (aL (ga 4 ⟨ts,0,0,0,0⟩).2).kind=7 then (ga 4 ⟨ts,0,0,0,0⟩).2 else bg (ga 4 ⟨ts,0,0,0,0⟩).2)=st1 at hb
   split at hb
   ·rename_i hc
    unfold bD at hb;rw [if_pos hc.1] at hb;exact absurd hb (by show¬(5:Int)=0; decide)
   ·rename_i hc
    exact Classical.byContradiction fun hn=>hc ⟨hb,hn⟩
  ·rename_i hb
   exact .inr ⟨hf.1.resolve_left hb,hf.2.1,hf.2.2,rfl⟩
end Go.Bf
namespace Go.Bf
open Go Go.Ab Go.Proofs.YtnlbeamjpefpfaaGreatDoor
theorem o6 {p:bG} (h:fW p=0):lD 1 p:=by
 cases hw:jI ⟨[],0⟩ 1 p with
 |bad e=>
  have:=rR 4 1 _ _ e rfl hw;rw [fW,hw] at h;exact (this h).elim
 |ok m=>exact El _ _ _ _ hw
theorem LR {fs:List cI} (h:∀f∈fs,eqV f.val ay=false) (n:Txt):(fs.any fun f=>f.name==n)= !(eqV (dZ fs n) ay):=by
 induction fs with
 |nil=>rfl
 |cons f fs ih=>
  rw [CJ,List.any_cons]
  by_cases e:f.name=n
  ·rw [if_pos e,h f (List.mem_cons_self ..)]
   simp [e]
  ·rw [if_neg e]
   have e' :(f.name==n)=false:=by simpa using e
   rw [e',Bool.false_or];exact ih fun g hg=>h g (List.mem_cons_of_mem _ hg)
structure sn (c:aJ):Prop where
 id:bu c.id=true
 owner:bu c.owner=true
 state:c.state∈nw
 asc:Ch c.fields
 nfields:c.fields.length≤16
 field:∀f∈c.fields,bu f.name=true∧cc f.val=true∧eqV f.val ay=false
 log1:1≤c.log.length
 log2:c.log.length≤256
 actor:∀x∈c.log,bu x.actor=true∧i64 x.tick
structure cW (k:Nat) (s:an):Prop where
 tick:0≤s.tick∧s.tick≤1099511627776
 asc:Asc s.cases
 ncases:s.cases.length≤64
 case:∀c∈s.cases,sn c
 nrev:s.reviews.length≤1000
 nnot:s.notices.length≤1000
 roles:s.roles.length≤64
 role:∀r∈s.roles,bu r.subj=true∧bu r.role=true
 pol:fW s.policy=0
 ver:0≤s.version∧s.version≤k
theorem cW.few {k:Nat} {s:an} (h:cW k s):Few s:=by
 have h1:=h.ncases;have h2:=h.nrev;have h3:=h.nnot;have h4:=h.roles;refine ⟨by omega,fun c hc=> ?_,fun c hc=> ?_,by omega,by omega,by omega⟩
 ·have:=(h.case c hc).nfields; omega
 ·have:=(h.case c hc).log2; omega
theorem cW.lD {k:Nat} {s:an} (h:cW k s):lD 1 s.policy:=o6 h.pol
theorem cW.DA {k:Nat} {s:an} (h:cW k s):i64 s.tick:=by
 have:=h.tick;constructor<;>omega
theorem F9:cW 0 rE:=by
 refine ⟨by decide, .nil,by decide,fun c h=>(by cases h),by decide,by decide,by decide,fun r h=>(by cases h),by kernel_rfl,by decide⟩
theorem jA {s:Txt} (h:iZ s=true) (hn:s≠ []):bu s=true:=by
 simp only [iZ,Bool.or_eq_true,beq_iff_eq] at h;exact h.resolve_left hn
structure Lx (o:OpD):Prop where
 subj:bu o.subj=true
 kind:1≤o.kind∧o.kind≤8
 case:iZ o.case=true
 field:iZ o.field=true
 to:iZ o.to=true
 val:eqV o.val ay=true∨cc o.val=true
 text:o.text.length≤4096
 ok:okD o=true
theorem rj {o:OpD} (h:fE o=true):Lx o:=by
 simp only [fE,Bool.and_eq_true,decide_eq_true_eq,Bool.or_eq_true,dG] at h;obtain ⟨⟨⟨⟨⟨⟨⟨h1,h2⟩,h3⟩,h4⟩,h5⟩,h6⟩,h7⟩,⟨⟨h8,h9⟩,h10⟩,h11⟩:=h;exact ⟨h1,⟨h8,h9⟩,h4,h5,h6,h7,h3,h10⟩
theorem vI {a b:Txt} (h:jY a b=true):b∈nw:=by
 unfold jY at h;simp only [nw,List.mem_cons,List.not_mem_nil,or_false];split at h
 ·exact .inr (.inl (by simpa using h))
 ·split at h
  ·exact .inr (.inr (.inl (by simpa using h)))
  ·split at h
   ·simp only [Bool.or_eq_true,beq_iff_eq] at h
    rcases h with h|h
    ·exact .inr (.inl h)
    ·exact .inr (.inr (.inr h))
   ·cases h
theorem mem_modify {α:Type} {l:List α} {i:Nat} {f:α→α} {x:α} (h:x∈l.modify i f):x∈l∨∃hi:i<l.length,x=f l[i]:=by
 obtain ⟨j,hj,rfl⟩:=List.mem_iff_getElem.1 h;have hj' :j<l.length:=by simpa using hj
 rw [List.getElem_modify];split
 ·rename_i e; subst e; exact .inr ⟨hj',rfl⟩
 ·exact .inl (V5 hj')
theorem jF {α β:Type} {l:List α} {i:Nat} {f:α→α} {g:α→β} (h:∀x,g (f x)=g x):(l.modify i f).map g=l.map g:=by
 refine List.ext_getElem (by simp) fun j h1 h2=> ?_
 simp only [V1,List.getElem_modify];split
 ·exact h _
 ·rfl
theorem zx {cs cs' :List aJ} (h:cs'.map (·.id)=cs.map (·.id)) (ha:Asc cs):Asc cs' :=by
 unfold Asc at*;have h1:(cs.map (·.id)).Pairwise lt:=by rw [List.pairwise_map]; exact ha
 rw [←h,List.pairwise_map] at h1;exact h1
theorem J9 {cs:List aJ} {i:Nat} {c d:aJ} (h:d∈cs.take i++ [c]++cs.drop i):d=c∨d∈cs:=by
 simp only [List.mem_append,List.mem_singleton] at h;rcases h with (h|h)|h
 ·exact .inr (List.mem_of_mem_take h)
 ·exact .inl h
 ·exact .inr (List.mem_of_mem_drop h)
theorem IU {k:Nat} {s:an} {o:OpD} (hs:cW k s) (hr:bI s o=0):cW (k+1) (doD aR s o):=by
 have hf:fE o=true:=by
  unfold bI at hr;cases h:fE o with
  |true=>rfl
  |false=>rw [h] at hr; simp at hr
 have F:=rj hf;have vk:0≤s.version∧s.version≤((k+1:Nat):Int):=⟨hs.ver.1,by have:=hs.ver.2; omega⟩
 unfold bI at hr;rw [hf] at hr;simp only [Bool.true_eq_false,if_false] at hr;have hok:=F.ok;unfold okD at hok;have t64:=hs.DA;unfold doD
 by_cases k1:o.kind=1
 ·simp only [k1,if_true] at hr hok⊢
  have hno:bM s.cases o.case=false:=by
   cases h:bM s.cases o.case with
   |false=>rfl
   |true=>rw [h] at hr; simp at hr
  rw [hno] at hr;simp only [Bool.false_eq_true,if_false] at hr;have hlt:¬64≤s.cases.length:=fun h=>by simp [h] at hr
  have hc:bu o.case=true:=jA F.case (by simpa using hok)
  rw [tc hs.asc] at hno;refine {hs with asc:= ?_,ncases:= ?_,case:= ?_,ver:=vk}
  ·exact DN hs.asc (iH s ⟨o.case,o.subj,gI,[],[]⟩ o.subj [110,101,119]) hno
  ·have:findD s.cases o.case≤s.cases.length:=List.findIdx_le_length
   simp; omega
  ·intro c h
   rcases J9 h with rfl|h
   ·exact ⟨hc,F.subj,by simp [iH,nw], .nil,by simp [iH],fun f h=>(by cases h),by simp [iH],by simp [iH],fun x h=>by
     simp only [iH,List.nil_append,List.mem_singleton] at h;subst h;exact ⟨F.subj,t64⟩⟩
   ·exact hs.case c h
 ·simp only [k1,if_false] at hr hok⊢
  by_cases k3:o.kind=3
  ·have hk:2≤o.kind∧o.kind≤4:=by omega
   simp only [hk,and_self,if_true] at hr;simp only [k3,if_true];have e2:¬(o.kind=2∨o.kind=6):=by omega
   simp only [k3,if_true,show¬((3:Int)=2∨(3:Int)=6) by decide,if_false,Bool.and_eq_true,Bool.not_eq_true'] at hok
   have hth:bM s.cases o.case=true:=by
    unfold bW at hr;cases h:bM s.cases o.case with
    |true=>rfl
    |false=>rw [h] at hr; simp at hr
   unfold bW at hr;rw [hth] at hr;simp only [Bool.true_eq_false,if_false,k3,true_and] at hr;obtain ⟨hm,hid⟩:=od hs.asc hth;have hlt:=gX hth;have hce:bp s.cases o.case=s.cases[findD s.cases o.case]:=by
    unfold bp; rw [if_pos hth]; simp [hlt]
   rw [hce] at hr hm;generalize hcc:s.cases[findD s.cases o.case]=c at hr hm;have hc:=hs.case c hm;have h16:¬(c.fields.length≥16∧eqV (dZ c.fields o.field) ay=true):=fun h=>by simp [h.1,h.2] at hr
   rw [if_neg h16] at hr;have hlg:¬c.log.length≥256:=fun h=>by simp [h] at hr
   have hnf:bu o.field=true:=jA F.field (by simpa using hok.1.2)
   have hvz:eqV o.val ay=false:=hok.2;have hv:cc o.val=true:=F.val.resolve_left (by rw [hvz]; simp)
   refine {hs with asc:= ?_,ncases:= ?_,case:= ?_,ver:=vk}
   ·exact zx (jF fun x=>rfl) hs.asc
   ·simpa using hs.ncases
   ·intro d hd
    rcases mem_modify hd with hd|⟨hi,rfl⟩
    ·exact hs.case d hd
    ·rw [hcc]
     have hany:=LR (fun f hf=>(hc.field f hf).2.2) o.field
     have hlen:=ze (v:=o.val) (name:=o.field) hc.asc;refine ⟨hc.id,hc.owner,hc.state,zc hc.asc, ?_, ?_,by simp [iH], ?_, ?_⟩
     ·simp only [iH]
      rw [hlen,hany];have:=hc.nfields;cases he:eqV (dZ c.fields o.field) ay
      ·simp; omega
      ·rw [he] at h16; simp at h16⊢; omega
     ·intro f hf
      rcases tj hf with rfl|hf
      ·exact ⟨hnf,hv,hvz⟩
      ·exact hc.field f hf
     ·simp only [iH,V4,List.length_singleton]; omega
     ·intro x hx
      simp only [iH,List.mem_append,List.mem_singleton] at hx;rcases hx with hx|rfl
      ·exact hc.actor x hx
      ·exact ⟨F.subj,t64⟩
  ·simp only [k3,if_false] at hok⊢
   by_cases k4:o.kind=4
   ·have hk:2≤o.kind∧o.kind≤4:=by omega
    simp only [hk,and_self,if_true] at hr;simp only [k4,if_true];have hth:bM s.cases o.case=true:=by
     unfold bW at hr;cases h:bM s.cases o.case with
     |true=>rfl
     |false=>rw [h] at hr; simp at hr
    unfold bW at hr;rw [hth] at hr;simp only [Bool.true_eq_false,if_false,k4] at hr;obtain ⟨hm,hid⟩:=od hs.asc hth;have hlt:=gX hth;have hce:bp s.cases o.case=s.cases[findD s.cases o.case]:=by
     unfold bp; rw [if_pos hth]; simp [hlt]
    rw [hce] at hr hm;generalize hcc:s.cases[findD s.cases o.case]=c at hr hm;have hc:=hs.case c hm;simp only [show¬((4:Int)=3) by decide,false_and,if_false,show ((4:Int)≠2) by decide,ne_eq,not_false_eq_true,true_and,false_or] at hr
    have hlg:¬c.log.length≥256:=fun h=>by simp [h] at hr
    rw [if_neg hlg] at hr;have hfo:jY c.state o.to=true:=by
     cases h:jY c.state o.to with
     |true=>rfl
     |false=>rw [h] at hr; simp at hr
    refine {hs with asc:= ?_,ncases:= ?_,case:= ?_,ver:=vk}
    ·exact zx (jF fun x=>rfl) hs.asc
    ·simpa using hs.ncases
    ·intro d hd
     rcases mem_modify hd with hd|⟨hi,rfl⟩
     ·exact hs.case d hd
     ·rw [hcc]
      refine ⟨hc.id,hc.owner,vI hfo,hc.asc,hc.nfields,hc.field,by simp [iH], ?_, ?_⟩
      ·simp only [iH,V4,List.length_singleton]; omega
      ·intro x hx
       simp only [iH,List.mem_append,List.mem_singleton] at hx;rcases hx with hx|rfl
       ·exact hc.actor x hx
       ·exact ⟨F.subj,t64⟩
   ·simp only [k4,if_false] at hok⊢
    by_cases k5:o.kind=5
    ·simp only [k5,if_true]
     refine {hs with nrev:= ?_,ver:=vk}
     simpa using hs.nrev
    ·simp only [k5,if_false] at hok⊢
     by_cases k6:o.kind=6
     ·have hk:¬(2≤o.kind∧o.kind≤4):=by omega
      simp only [k6,if_true] at hr;simp only [k6,if_true];simp only [k6,or_true,if_true,Bool.and_eq_true] at hok;have hc:bu o.case=true:=jA F.case (by simpa using hok.1)
      have hfd:bu o.field=true:=jA F.field (by simpa using hok.2)
      cases hh:uB s.roles ⟨o.case,o.field⟩ with
      |true=>simp only [if_true]; exact {hs with ver:=vk}
      |false=>
       rw [hh] at hr;have hlt:¬s.roles.length≥64:=fun h=>by simp [h] at hr
       simp only [Bool.false_eq_true,if_false];refine {hs with roles:= ?_,role:= ?_,ver:=vk}
       ·simp only [V4,List.length_singleton]; omega
       ·intro r h
        rcases List.mem_append.1 h with h|h
        ·exact hs.role r h
        ·rw [List.mem_singleton.1 h]; exact ⟨hc,hfd⟩
     ·simp only [k6,if_false]
      by_cases k7:o.kind=7
      ·simp only [k7,if_true]
       by_cases hp:(aR o.text).2.1=0
       ·simp only [hp,if_true]
        have hr0:fW (aR o.text).1=0:=by
         rcases BD o.text with h|h
         ·exact h.2.2
         ·have:=h.1; exact absurd hp (by simp_all)
        refine {hs with pol:=hr0,ver:= ?_}
        have:=hs.ver;constructor
        ·show 0≤s.version+1; omega
        ·show s.version+1≤_; omega
       ·simp only [hp,if_false]
        exact {hs with ver:=vk}
      ·simp only [k7,if_false]
       by_cases k8:o.kind=8
       ·simp only [k8,if_true]
        have hk:¬(2≤o.kind∧o.kind≤4):=by omega
        simp only [k8,if_true] at hr;have hlt:¬s.tick>1099511627776 - o.review:=fun h=>by simp [h] at hr
        simp only [k8,show¬((8:Int)=2∨(8:Int)=6) by decide,if_false,if_true,Bool.and_eq_true,decide_eq_true_eq] at hok
        refine {hs with tick:= ?_,ver:=vk}
        have:=hs.tick;constructor
        ·show 0≤s.tick+o.review; omega
        ·show s.tick+o.review≤_; omega
       ·simp only [k8,if_false]
        exact {hs with ver:=vk}
theorem ny {k:Nat} {s:an} (o:OpD) (hs:cW k s):cW (k+1) (dK aR s o):=by
 unfold dK
 by_cases h:bI s o=0
 ·rw [if_pos h]; exact IU hs h
 ·rw [if_neg h]
  exact {hs with ver:=⟨hs.ver.1,by have:=hs.ver.2; omega⟩}
def kH (a b:aJ):Bool:=a.id==b.id && (a.owner==b.owner && (a.state==b.state && (eqL iq a.fields b.fields && eqL mg a.log b.log)))
def lJ (l:List OpD) (n:Nat):List OpD:=(l.take n).map BA
theorem fj.eq {xs:List AV} {sz:Nat} (j:Nat) (hj:j<xs.length) (hz:xs[j].cells.length=sz) (k:AV→Prop):fj xs (j:Int) sz k=k (.pe xs[j] 0):=propext ⟨fun h=>by
 obtain ⟨_,b,hb,_,hk⟩:=h;have:xs[j]? =some xs[j]:=by simp [hj]
 rw [show ((j:Int).toNat)=j by simp,this] at hb
 cases hb;exact hk,fun h=>fj.at j hj hz h⟩
end Go.Bf
namespace Go.Proofs.YtnlbeamjpefpfaaGreatDoor
open Go Go.Ab Go.Bf
def CRow (x:AV) (c:aJ):Prop:=∃qf ql,x= .agg [.s c.id, .s c.owner, .s c.state, .sl (c.fields.map bw) qf, .sl (c.log.map fF) ql]
def CRows (xs:List AV) (cs:List aJ):Prop:=xs.length=cs.length∧∀i (h1:i<xs.length) (h2:i<cs.length),CRow xs[i] cs[i]
theorem crows (cs:List aJ):CRows (cs.map bJ) cs:=⟨by simp,fun i h1 h2=>by rw [V1]; exact ⟨_,_,rfl⟩⟩
set_option maxRecDepth 100000 in
theorem vm {xs ys:List AV} {cs ds:List aJ} (h1:CRows xs cs) (h2:CRows ys ds) (q1 q2:Perm) (h:Heap):ak Tryz.prog 14 [.sl xs q1, .sl ys q2] h fun r h' =>r= .v (.bool (eqL kH cs ds))∧h' =h:=by
 refine ak.body hU hm Tryz.func14 rfl (by kernel_rfl) 82 rfl [.tmp 4] rfl (VZ rfl) (fun hwf=> ?_)
 cases d1:((xs.length:Int) !=(ys.length:Int))
 ·have e1:xs.length=ys.length:=by have:(xs.length:Int)=ys.length:=(by simpa using d1); omega
  have e2:cs.length=ds.length:=by rw [←h1.1,←h2.1,e1]
  simp -implicitDefEqProofs only [go_sem,d1];refine tr.wf fun hw=> ?_
  have hxl:=hw 11 (.sl xs q1) (by simp -implicitDefEqProofs only [go_sem])
  simp only [wfA,wf1,lim] at hxl;refine .intro (fun m ρ h' =>h' =h∧∃i:Nat,i≤xs.length∧m=xs.length - i∧(∀j (a:j<cs.length) (b:j<ds.length),j<i→kH cs[j] ds[j]=true)∧lk ρ 0=some (.sl xs q1)∧lk ρ 1=some (.sl ys q2)∧lk ρ 12=some (.v (.int .i64 xs.length))∧lk ρ 13=some (.v (.int .i64 i))) xs.length ?_ ?_
  ·refine ⟨rfl,0,by omega,rfl,fun j _ _ hj=>(by omega), ?_, ?_, ?_, ?_⟩<;>simp -implicitDefEqProofs only [go_sem]
  ·rintro m ρ h' ⟨rfl,i,hi,rfl,hc,r0,r1,r12,r13⟩
   cases e3:decide ((i:Int)<(xs.length:Int))
   ·have hge:i=xs.length:=by have:=V3 e3; omega
    simp -implicitDefEqProofs only [go_sem,r12,r13,e3];exact .same (.refl _) ⟨by rw [gA e2 fun j a b=>hc j a b (by rw [hge,h1.1]; exact a)]; rfl,rfl⟩
   ·have hlt:i<xs.length:=V7 e3
    have hlt2:i<ys.length:=by omega
    have hlt3:i<cs.length:=by rw [←h1.1]; exact hlt
    have hlt4:i<ds.length:=by rw [←h2.1]; exact hlt2
    have w1:=V6 i (by omega)
    obtain ⟨qf,ql,ex⟩:=h1.2 i hlt hlt3;obtain ⟨qf',ql',ey⟩:=h2.2 i hlt2 hlt4;have ix:=fun k=>fj.eq (sz:=5) i hlt (by rw [ex]; rfl) k
    have iy:=fun k=>fj.eq (sz:=5) i hlt2 (by rw [ey]; rfl) k
    rw [ex] at ix;rw [ey] at iy;have hno:kH cs[i] ds[i]=false→eqL kH cs ds=false:=fun e=>sA i hlt3 hlt4 e
    have hdef:kH cs[i] ds[i]=(cs[i].id==ds[i].id && (cs[i].owner==ds[i].owner && (cs[i].state==ds[i].state && (eqL iq cs[i].fields ds[i].fields && eqL mg cs[i].log ds[i].log)))):=rfl;have hst:=hc;obtain ⟨c,ec⟩:∃c,cs[i]=c:=⟨_,rfl⟩;obtain ⟨d,ed⟩:∃d,ds[i]=d:=⟨_,rfl⟩;rw [ec,ed] at hdef hno;rw [ec] at ix;rw [ed] at iy;simp -implicitDefEqProofs only [go_sem,r12,r13,e3];simp only [List.append];simp -implicitDefEqProofs only [go_sem];refine .quiet (by kernel_rfl) ?_
    simp -implicitDefEqProofs only [go_sem,r0,r1,ix,iy,and_self];cases a1:(c.id==d.id)
    case false=>
     simp -implicitDefEqProofs only [go_sem];exact .same (.refl _) ⟨by rw [hno (by rw [hdef,a1]; rfl)]; rfl,rfl⟩
    simp -implicitDefEqProofs only [go_sem,r0,r1,ix,iy,and_self];cases a2:(c.owner==d.owner)
    case false=>
     simp -implicitDefEqProofs only [go_sem];exact .same (.refl _) ⟨by rw [hno (by rw [hdef,a1,a2]; rfl)]; rfl,rfl⟩
    simp -implicitDefEqProofs only [go_sem,r0,r1,ix,iy,and_self];cases a3:(c.state==d.state)
    case false=>
     simp -implicitDefEqProofs only [go_sem];exact .same (.refl _) ⟨by rw [hno (by rw [hdef,a1,a2,a3]; rfl)]; rfl,rfl⟩
    simp -implicitDefEqProofs only [go_sem,r0,r1,ix,iy,and_self];refine ⟨_,zY c.fields d.fields qf qf' _, ?_⟩;cases a4:eqL iq c.fields d.fields
    ·simp -implicitDefEqProofs only [go_sem]
     exact .same (.refl _) ⟨by rw [hno (by rw [hdef,a1,a2,a3,a4]; rfl)]; rfl,rfl⟩
    simp -implicitDefEqProofs only [go_sem,r0,r1,ix,iy,and_self];refine ⟨_,Dl c.log d.log ql ql' _, ?_⟩;cases a5:eqL mg c.log d.log
    ·simp -implicitDefEqProofs only [go_sem]
     exact .same (.refl _) ⟨by rw [hno (by rw [hdef,a1,a2,a3,a4,a5]; rfl)]; rfl,rfl⟩
    simp -implicitDefEqProofs only [go_sem,r13,w1];refine ⟨_, ?_,rfl,i+1,by omega,rfl,fun j a b hj=> ?_, ?_, ?_, ?_, ?_⟩
    ·omega
    ·by_cases hji:j=i
     ·subst hji; rw [ec,ed,hdef,a1,a2,a3,a4,a5]; rfl
     ·exact hc j a b (by omega)
    all_goals simp -implicitDefEqProofs only [go_sem,r0,r1,r12]
 ·have e2:cs.length≠ds.length:=by
   rw [←h1.1,←h2.1];intro e; rw [e] at d1; simp at d1
  simp -implicitDefEqProofs only [go_sem,d1];exact .same (.refl _) ⟨by rw [pK e2]; rfl,rfl⟩
theorem MG (l:List OpD) (n:Nat) (hn:n≤1000) (h:Heap):ak Tryz.prog 23 [.sl (l.map opA) .no, .v (.int .i64 n)] h fun r h' =>r= .sl ((lJ l n).map opA) .no∧h' =h:=by
 refine ak.body hU hm Tryz.func23 rfl (by kernel_rfl) 27 rfl [.tmp 4] rfl (VZ rfl) (fun hwf=> ?_)
 simp -implicitDefEqProofs only [go_sem];have hsz:(U 26).sz=12:=by simp only [go_sem]
 refine tr.wf fun hw=> ?_
 refine .intro (fun m ρ H=>∃(i:Nat) (y:AV),Acc U 26 h H y ((lJ (l.take i) n).map opA)∧i≤l.length∧i≤n∧m=l.length - i∧lk ρ 0=some (.sl (l.map opA) .no)∧lk ρ 1=some (.v (.int .i64 n))∧lk ρ 5=some y∧lk ρ 6=some (.v (.int .i64 i))) l.length ?_ ?_
 ·refine ⟨0, .sl [] .full,by simpa [lJ] using Acc.full (.refl _),by omega,by omega,rfl, ?_, ?_, ?_, ?_⟩<;>simp -implicitDefEqProofs only [go_sem]
 ·rintro m ρ H ⟨i,y,hy,hi,hin,rfl,r0,r1,r5,r6⟩
  obtain ⟨q,eq⟩:=hy.row;subst eq
  by_cases hgo:i<l.length∧i<n
  ·have d1:decide ((i:Int)<(l.length:Int))=true:=decide_eq_true (by omega)
   have d2:decide ((i:Int)<(n:Int))=true:=decide_eq_true (by omega)
   have w1:=V6 i (by omega)
   have hsn:lJ (l.take (i+1)) n=lJ (l.take i) n++ [BA l[i]]:=by
    unfold lJ;rw [List.take_take,List.take_take,Nat.min_eq_right (by omega),Nat.min_eq_right (by omega),←List.take_append_getElem hgo.1]
    simp only [List.map_append,List.map_cons,List.map_nil]
   simp -implicitDefEqProofs only [go_sem,r0,r1,r5,r6,V0,d1,d2];refine .at i (by simpa using hgo.1) (by rw [V1]; rfl) ?_
   have hok:=fun (G:Heap)=>Ih l[i] G
   simp only [opA,opC] at hok;simp -implicitDefEqProofs only [go_sem,V1,opA,opC];refine (hok _).pthen ?_;simp -implicitDefEqProofs only [go_sem];refine Acc.app hy (zs:= [opA (BA l[i])]) (by rw [hsz]; decide) (by simp only [go_sem,ne_eq,not_false_eq_true]) (fun k hk=>hk) (by rw [hsz]; exact bl (f:=opA) (fun _=>rfl) _) (by rw [hsz]; intro z hz; rw [List.mem_singleton.1 hz]; rfl) (by simp only [go_sem,lJ,V0,List.length_take,List.length_cons,List.length_nil]<;>omega) fun yz Gz hyz kpz=> ?_
   simp -implicitDefEqProofs only [go_sem,r6,w1];refine ⟨_, ?_,i+1,yz,by rw [hsn,List.map_append]; exact hyz,by omega,by omega,rfl, ?_, ?_, ?_, ?_⟩
   ·omega
   all_goals simp -implicitDefEqProofs only [go_sem,r0,r1]
  ·have hall:lJ (l.take i) n=lJ l n:=by
    unfold lJ;rcases Nat.lt_or_ge i l.length with hlt|hge
    ·have:i=n:=by
      rcases Nat.lt_or_ge i n with h2|h2
      ·exact (hgo ⟨hlt,h2⟩).elim
      ·omega
     subst this;rw [List.take_take,Nat.min_self]
    ·rw [List.take_of_length_le (l:=l) hge]
   rw [hall] at hy;cases d1:decide ((i:Int)<(l.length:Int))
   ·simp -implicitDefEqProofs only [go_sem,r0,r5,r6,V0,d1]
    exact .mk _ (by rw [hall]; exact .sl _ _) hy.1 ⟨rfl,rfl⟩
   ·have d2:decide ((i:Int)<(n:Int))=false:=decide_eq_false fun h3=>hgo ⟨by have:=V2 d1; omega,by omega⟩
    simp -implicitDefEqProofs only [go_sem,r0,r1,r5,r6,V0,d1,d2];exact .mk _ (by rw [hall]; exact .sl _ _) hy.1 ⟨rfl,rfl⟩
end Go.Proofs.YtnlbeamjpefpfaaGreatDoor
namespace Go.Bf
open Go Go.Ab Go.Proofs.YtnlbeamjpefpfaaGreatDoor
def xP (l:List bX):Prop:=l.length≤16∧∀v∈l,cc v=true∧∀w∈l.head?,v.kind=w.kind
structure KB (gs:List bk):Prop where
 len:gs.length≤64
 each:∀g∈gs,1≤g.cat∧g.cat≤4∧bu g.name=true∧xP g.bag
 dist:gs.Pairwise fun a b=>gx b.cat b.name a=false
def rB (g:bk):Int×Txt:=(g.cat,g.name)
theorem He (gs:List bk):(gs.Pairwise fun a b=>gx b.cat b.name a=false)↔(gs.map rB).Nodup:=by
 rw [List.Nodup,List.pairwise_map];have:(fun a b:bk=>gx b.cat b.name a=false)=fun a b=>rB a≠rB b:=by
  funext a b
  simp [gx,rB]
 rw [this]
theorem iG {v:bX} (h:cc v=true):xP [v]:=⟨by simp,fun w hw=>by rw [List.mem_singleton.1 hw]; exact ⟨h,fun u hu=>by simp at hu; rw [hu]⟩⟩
theorem mT {s:Txt} (h:bu s=true):cc (idV s)=true:=by simp [cc,idV,h]
theorem EJ {l:List fQ} (h:∀r∈l,bu r.role=true) (s:Txt):xP (cS l s):=by
 have hv:∀v∈cS l s,cc v=true∧v.kind=5:=fun v hv=>by
  have:=List.mem_of_mem_take hv;obtain ⟨r,hr,rfl⟩:=List.mem_map.1 this;exact ⟨mT (h r (List.mem_filter.1 hr).1),rfl⟩
 refine ⟨by simp only [cS,List.length_take]; omega,fun v hm=>⟨(hv v hm).1,fun w hw=> ?_⟩⟩
 rw [(hv v hm).2,(hv w (List.mem_of_mem_head? hw)).2]
theorem GS {c:UInt8} {i j:Nat} (h:qT c j=true) (hi:i≠0):qT c i=true:=by
 simp only [qT,Bool.or_eq_true,Bool.and_eq_true,decide_eq_true_eq] at h⊢;rcases h with h|⟨_,h⟩
 ·exact .inl h
 ·exact .inr ⟨hi,h⟩
theorem CK {n:Txt} (h:bu n=true) (hl:n.length≤14):bu ([102,95]++n)=true:=by
 simp only [bu,Bool.and_eq_true,decide_eq_true_eq] at h⊢;obtain ⟨⟨h1,h2⟩,h3⟩:=h;refine ⟨⟨?_,by simp⟩,by simp; omega⟩
 unfold tF at h1⊢;rw [List.all_eq_true] at h1⊢
 rintro ⟨c,i⟩ hp
 rw [List.mk_mem_zipIdx_iff_getElem?] at hp
 match i,hp with
 |0,hp=>cases hp; rfl
 |1,hp=>cases hp; rfl
 |i+2,hp=>
  have hp:n[i]? =some c:=by simpa using hp
  exact GS (h1 (c,i) (List.mk_mem_zipIdx_iff_getElem?.2 hp)) (by omega)
theorem Dw {s:Txt} (h:s∈nw):bu s=true:=by
 simp only [nw,List.mem_cons,List.not_mem_nil,or_false] at h;rcases h with rfl|rfl|rfl|rfl<;>kernel_rfl
theorem Aj (k:Int) (h:1≤k∧k≤8):bu (iW k)=true:=by
 have:(List.range 9).all (fun n=>bu (iW n))=true:=by kernel_rfl
 have h2:=List.all_eq_true.1 this k.toNat (List.mem_range.2 (by omega))
 rwa [show ((k.toNat:Nat):Int)=k by omega] at h2
theorem I0 (l:List sr) (s:Txt):cc (sd l s)=true:=by
 unfold sd;cases l.any fun x=>x.actor==s<;>rfl
theorem EO {c:aJ} (hc:sn c) (s:Txt):∀g∈cB c s,g.cat=3∧bu g.name=true∧xP g.bag:=by
 intro g hg;simp only [cB,List.mem_append,List.mem_cons,List.not_mem_nil,or_false] at hg;rcases hg with ((rfl|rfl|rfl|rfl|rfl)|hg)|hg
 ·exact ⟨rfl,by kernel_rfl,iG (mT hc.id)⟩
 ·exact ⟨rfl,by kernel_rfl,iG (mT hc.owner)⟩
 ·exact ⟨rfl,by kernel_rfl,iG (mT (Dw hc.state))⟩
 ·exact ⟨rfl,by kernel_rfl,iG (by simp [cc])⟩
 ·exact ⟨rfl,by kernel_rfl,iG (I0 _ _)⟩
 ·cases hl:c.log.getLast? with
  |none=>rw [hl] at hg; cases hg
  |some x=>
   rw [hl] at hg;rw [List.mem_singleton.1 hg];exact ⟨rfl,by kernel_rfl,iG (mT (hc.actor x (List.mem_of_getLast? hl)).1)⟩
 ·obtain ⟨f,hf,rfl⟩:=List.mem_map.1 hg
  obtain ⟨hf1,hf2⟩:=List.mem_filter.1 hf;have hf2:f.name.length≤14:=by simpa using hf2
  obtain ⟨h1,h2,_⟩:=hc.field f hf1;exact ⟨rfl,CK h1 hf2,iG h2⟩
theorem EN {c:aJ} (hc:sn c) (s:Txt):((cB c s).map rB).Nodup:=by
 have hfn:(((c.fields.filter fun f=>decide (f.name.length≤14)).map fun f=>(⟨3,[102,95]++f.name,[f.val]⟩:bk)).map rB).Nodup:=by
  rw [List.map_map,List.Nodup,List.pairwise_map];refine ((List.Pairwise.filter _ hc.asc).imp fun {a b} hab he=> ?_)
  simp only [Function.comp,rB,Prod.mk.injEq,true_and,List.append_cancel_left_eq] at he;rw [he] at hab;exact lt_irrefl _ hab
 have hff:∀x∈((c.fields.filter fun f=>decide (f.name.length≤14)).map fun f=>(⟨3,[102,95]++f.name,[f.val]⟩:bk)).map rB,∃t,x=(3,102::t):=by
  intro x hx;obtain ⟨g,hg,rfl⟩:=List.mem_map.1 hx;obtain ⟨f,hf,rfl⟩:=List.mem_map.1 hg;exact ⟨_,rfl⟩
 unfold cB;rw [List.map_append,List.nodup_append];refine ⟨?_,hfn, ?_⟩
 ·cases c.log.getLast? with
  |none=>simp [rB,idT]
  |some x=>simp [rB,idT]
 ·intro a ha b hb
  obtain ⟨t,rfl⟩:=hff b hb;intro e;subst e;cases hl:c.log.getLast? with
  |none=>
   rw [hl] at ha;simp [rB,idT] at ha
  |some x=>
   rw [hl] at ha;simp [rB,idT] at ha
theorem xX {k:Nat} {s:an} {o:OpD} (hs:cW k s) (hf:fE o=true):KB (eE s o):=by
 have F:=rj hf;have hcs:∀g∈(if bM s.cases o.case=true∧o.kind≠6 then cB (bp s.cases o.case) o.subj else []),g.cat=3∧bu g.name=true∧xP g.bag:=by
  intro g hg;split at hg
  ·rename_i ht
   exact EO (hs.case _ (od hs.asc ht.1).1) _ g hg
  ·cases hg
 have hcd:((if bM s.cases o.case=true∧o.kind≠6 then cB (bp s.cases o.case) o.subj else []).map rB).Nodup:=by
  split
  ·rename_i ht
   exact EN (hs.case _ (od hs.asc ht.1).1) _
  ·exact .nil
 have hcl:(if bM s.cases o.case=true∧o.kind≠6 then cB (bp s.cases o.case) o.subj else []).length≤22:=by
  split
  ·rename_i ht
   have hc:=hs.case _ (od hs.asc ht.1).1;have h16:=hc.nfields;have:((bp s.cases o.case).fields.filter fun f=>decide (f.name.length≤14)).length≤(bp s.cases o.case).fields.length:=List.length_filter_le _ _
   simp only [cB,V4,V0,List.length_cons,List.length_nil];cases (bp s.cases o.case).log.getLast? <;>simp<;>omega
  ·simp
 unfold eE;generalize (if bM s.cases o.case=true∧o.kind≠6 then cB (bp s.cases o.case) o.subj else [])=C at hcs hcd hcl⊢
 have e1:(if o.field= [] then [] else [(⟨2,[102,105,101,108,100],[idV o.field]⟩:bk)])=if o.field= [] then [] else [(⟨2,[102,105,101,108,100],[idV o.field]⟩:bk)]:=rfl
 have hro:xP (cS s.roles o.subj):=EJ (fun r hr=>(hs.role r hr).2) _
 have htk:cc ⟨4,s.tick,[]⟩=true:=by
  have:=hs.tick;simp [cc,this]
 have hac:=mT (Aj o.kind F.kind);have hsu:=mT F.subj;refine ⟨?_, ?_, ?_⟩
 ·by_cases p1:o.field= []<;>by_cases p2:o.to= []<;>simp [p1,p2]<;>omega
 ·intro g hg
  simp only [List.mem_append,List.mem_cons,List.not_mem_nil,or_false] at hg;rcases hg with ((((rfl|rfl|rfl)|hg)|hg)|rfl)|hg
  ·exact ⟨by simp,by simp,by kernel_rfl,iG hsu⟩
  ·exact ⟨by simp,by simp,by kernel_rfl,hro⟩
  ·exact ⟨by simp,by simp,by kernel_rfl,iG hac⟩
  ·split at hg
   ·cases hg
   ·rename_i hne
    rw [List.mem_singleton.1 hg];exact ⟨by simp,by simp,by kernel_rfl,iG (mT (jA F.field hne))⟩
  ·split at hg
   ·cases hg
   ·rename_i hne
    rw [List.mem_singleton.1 hg];exact ⟨by simp,by simp,by kernel_rfl,iG (mT (jA F.to hne))⟩
  ·exact ⟨by simp,by simp,by kernel_rfl,iG htk⟩
  ·obtain ⟨h1,h2,h3⟩:=hcs g hg
   exact ⟨by omega,by omega,h2,h3⟩
 ·rw [He,List.map_append,List.nodup_append]
  refine ⟨?_,hcd, ?_⟩
  ·by_cases p1:o.field= []<;>by_cases p2:o.to= []<;>simp [p1,p2,rB,idT]
  ·intro a ha b hb e
   subst e;obtain ⟨g,hg,rfl⟩:=List.mem_map.1 hb;have h3:=(hcs g hg).1;have hne:∀x∈([⟨1,idT,[idV o.subj]⟩,⟨1,[114,111,108,101],cS s.roles o.subj⟩,⟨2,[110,97,109,101],[idV (iW o.kind)]⟩]++(if o.field= [] then [] else [⟨2,[102,105,101,108,100],[idV o.field]⟩])++(if o.to= [] then [] else [⟨2,[116,111],[idV o.to]⟩])++ [⟨4,[110,111,119],[⟨4,s.tick,[]⟩]⟩]:List bk),x.cat≠3:=by
    intro x hx;simp only [List.mem_append,List.mem_cons,List.not_mem_nil,or_false] at hx;rcases hx with (((rfl|rfl|rfl)|hx)|hx)|rfl
    ·simp
    ·simp
    ·simp
    ·split at hx
     ·cases hx
     ·rw [List.mem_singleton.1 hx]; simp
    ·split at hx
     ·cases hx
     ·rw [List.mem_singleton.1 hx]; simp
    ·simp
   obtain ⟨x,hx,he⟩:=List.mem_map.1 ha;have:x.cat=g.cat:=congrArg Prod.fst he;exact hne x hx (by rw [this,h3])
def sL:an→List AV
 |⟨tick,cs,rv,nt,ro, .mk pid set alg tgt rules kids obls,ver⟩=> [.v (.int .i64 tick),iY cs,qi rv,rF nt,dF ro, .s pid, .v (.bool set), .v (.int .i64 alg),aT tgt, .sl (rules.map aB) .no, .sl (fh kids) .no,au obls, .v (.int .i64 ver)]
theorem fM (s:an):cU s= .agg (sL s):=by
 obtain ⟨tick,cs,rv,nt,ro,⟨pid,set,alg,tgt,rules,kids,obls⟩,ver⟩:=s;simp [cU,fB,sL]
theorem AN (c:aJ):kH c c=true:=by
 have h1:eqL iq c.fields c.fields=true:=gA rfl fun j _ _=>by simp [iq]
 have h2:eqL mg c.log c.log=true:=gA rfl fun j _ _=>by simp [mg]
 simp [kH,h1,h2]
theorem vn (cs:List aJ):eqL kH cs cs=true:=gA rfl fun j _ _=>AN _
end Go.Bf
namespace Go.Proofs.YtnlbeamjpefpfaaGreatDoor
open Go Go.Ab Go.Bf
theorem JK {x:AV} (h:Dat U 22 x):∃l:List OpD,x= .sl (l.map opA) .no∧l.length≤maxLen∧∀o∈l,zj o:=h.list (by simp only [go_sem]) fun y hy=>GZ hy
theorem Px {l:List OpD} {n:Nat} (h:∀o∈l,zj o):∀o∈lJ l n,zj o:=fun o ho=>by
 obtain ⟨a,ha,rfl⟩:=List.mem_map.1 ho;exact h a (List.mem_of_mem_take ha)
end Go.Proofs.YtnlbeamjpefpfaaGreatDoor
namespace Go.Bf
open Go Go.Ab Go.Proofs.YtnlbeamjpefpfaaGreatDoor
structure Stays (cs cs' :List aJ) (id:Txt):Prop where
 len:cs'.length≤cs.length+1
 ids:∀c∈cs,∃d∈cs',d.id=c.id
 rest:∀c∈cs,c.id≠id→c∈cs'
abbrev aS:=Nat×Nat
def naM:aS:=(0,0)
def aM:aS:=(2,0)
def bV:aS:=(0,2)
def yu:aS:=(1,0)
def yt:aS:=(0,1)
def mU:aS:=(1,1)
def sO:List aS:= [naM,aM,bV,yu,yt,mU]
abbrev iV:=aS×List cw
def fK (m:aS):aS:=if m=aM then yu else if m=bV then yt else m
def mC (a b:aS):aS:=(max a.1 b.1,max a.2 b.2)
def B9 (m:aS):aS:=(m.2,m.1)
def oW (j:aS):aS:=
 if j.2=2 then bV else if j.2=1∧1≤j.1 then mU else if j.2=1 then yt else if j.1=2 then aM else if j.1=1 then yu else naM
def uQ (l:List aS):aS:=l.foldl mC naM
def firstM (l:List aS):aS:=(l.find? fun m=>decide (m≠naM)).getD naM
def w7 (m:aS):Bool:=decide (m=naM∨m=aM∨m=bV)
def mH:List aS→aS→aS
 | [],j=>j
 |m::r,j=>if w7 m=false then mU else mH r (if j=naM then m else if m≠naM then mU else j)
def fR (alg:Int) (l:List aS):aS:=
 if alg=1 then oW (uQ l)
 else if alg=2 then B9 (oW (B9 (uQ l)))
 else if alg=3 then firstM l
 else if alg=4 then mH l naM
 else if alg=5 then (if aM∈l then aM else bV)
 else if alg=6 then (if bV∈l then bV else aM)
 else naM
def vi (gs:List bk) (a:nU):List bX:=getD gs a.cat a.name
def lU (a b:bX):Option Bool:=
 if cc a=false∨cc b=false∨a.kind≠b.kind∨a.kind=1 then none
 else if a.kind=3∨a.kind=5 then some (Op.bytesLess a.s b.s) else some (decide (a.n<b.n))
def cP (m:bN) (v:bX):Option Bool:=
 if m.op=1 then (if v.kind=m.val.kind then some (eqV v m.val) else none)
 else if m.op=2 then lU v m.val else lU m.val v
def iJ (gs:List bk) (m:bN):Nat:=
 if vi gs m.attr= []∧m.attr.must=true then 1
 else if (vi gs m.attr).any fun v=>cP m v==some true then 2
 else if (vi gs m.attr).any fun v=>cP m v==none then 1 else 0
def Al (gs:List bk) (l:List bN):Nat:=l.foldl (fun a m=>min a (iJ gs m)) 2
def xp (gs:List bk) (l:List (List bN)):Nat:=l.foldl (fun a x=>max a (Al gs x)) 0
def lC (gs:List bk) (t:fP):Nat:=t.foldl (fun a x=>min a (xp gs x)) 2
structure iQ where
 bag:List bX
 v:bX
 e:Int
def iN (b:Bool):bX:=⟨1,if b then 1 else 0,[]⟩
def ig (b:Bool):iQ:=⟨[],iN b,0⟩
def isI (x:iQ) (n:Int):Bool:=x.e==0 && eqV x.v ⟨1,n,[]⟩
abbrev w64 (n:Int):Int:=IntKind.i64.wrap n
def GC (a b:Int):Bool:=decide (0<b) && decide (w64 (9223372036854775807 - b)<a)||decide (b<0) && decide (a<w64 (-9223372036854775808 - b))
def IV (a b:Int):Bool:=decide (0<b) && decide (a<w64 (-9223372036854775808+b))||decide (b<0) && decide (w64 (9223372036854775807+b)<a)
def FH (a b:Int):Bool:=a== -1 && b== -9223372036854775808||b== -1 && a== -9223372036854775808||a !=0 && w64 ((w64 (a*b)).tdiv a) !=b
def mh (e:Int):bX×Int:=(ay,e)
def xC (o:Bool) (n:Int):bX×Int:=if o then mh 3 else (⟨2,w64 n,[]⟩,0)
def gv (op:Int) (l:List bX):bX×Int:=
 if¬(6≤op∧op≤13)∨l.length≠(if op=11 then 1 else 2)∨(l.all cc)=false then mh 1
 else
  let a:=l.getD 0 ay; let b:=l.getD 1 ay
  if op=6 then (if a.kind=b.kind then (iN (eqV a b),0) else mh 2)
  else if op=7 then (match lU a b with
   |some x=>(iN x,0)
   |none=>mh 2)
  else if op=8∨op=9∨op=10 then
   (if l.all fun v=>v.kind==2 then (if op=8 then xC (GC a.n b.n) (a.n+b.n) else if op=9 then xC (IV a.n b.n) (a.n - b.n) else xC (FH a.n b.n) (a.n*b.n)) else mh 2)
  else if (l.all fun v=>v.kind==1)=false then mh 2
  else if op=11 then (iN (a.n==0),0)
  else if op=12 then (iN (a.n==1 && b.n==1),0)
  else (iN (a.n==1||b.n==1),0)
def opsOf (op:Int):Nat:=if op=1∨op=2 then 0 else if op=3∨op=4∨op=11 then 1 else 2
def xN (r:bX×Int):iQ:=⟨[],r.1,r.2⟩
def j4 (gs:List bk) (n:aO) (l:List iQ):iQ:=
 if n.op=1 then ⟨[],n.val,0⟩
 else if n.op=2 then (if vi gs n.attr= []∧n.attr.must=true then ⟨[],ay,4⟩ else ⟨vi gs n.attr,ay,0⟩)
 else if (n.op=12∨n.op=13)∧(l.any fun x=>isI x (n.op - 12))=true then ig (n.op==13)
 else match l.find? fun x=>x.e !=0 with
  |some x=>⟨[],ay,x.e⟩
  |none=>
   if n.op=3 then (match (l.headD ⟨[],ay,0⟩).bag with
    | [v]=>⟨[],v,0⟩
    |_=>⟨[],ay,4⟩)
   else if n.op=4 then ⟨[],⟨2,(l.headD ⟨[],ay,0⟩).bag.length,[]⟩,0⟩
   else if n.op=5 then ig ((l.headD ⟨[],ay,0⟩).bag.any fun v=>eqV v (l.getD 1 ⟨[],ay,0⟩).v)
   else xN (gv n.op (l.map (·.v)))
def w6 (gs:List bk) (st:List iQ) (n:aO):List iQ:=st.take (st.length - opsOf n.op)++ [j4 gs n (st.drop (st.length - opsOf n.op))]
def tW (gs:List bk) (l:List aO):iQ:=if l= [] then xN (mh 1) else (l.foldl (w6 gs) []).headD (xN (mh 1))
def oh (gs:List bk) (l:List aO):Nat:=if l.isEmpty then 2 else if isI (tW gs l) 1 then 2 else if isI (tW gs l) 0 then 0 else 1
def dY (l:List cw) (m:aS):List cw:=l.filter fun o=>o.on==1 && m==aM||o.on==2 && m==bV
def lR (r:cO) (t c:Nat):iV:=
 let m:=if r.deny then bV else aM
 if t=0∨t=2∧c=0 then (naM,[]) else if t=1∨c=1 then (fK m,[]) else (m,dY r.obls m)
def gC (gs:List bk) (r:cO):iV:=lR r (lC gs r.tgt) (oh gs r.cond)
def eu (alg:Int) (m:aS) (parts:List iV):List cw:=
 if alg=3 then ((parts.find? fun x=>x.1==m).map (·.2)).getD [] else ((parts.filter fun x=>x.1==m).map (·.2)).flatten
def nN (alg:Int) (obls:List cw) (t:Nat) (parts:List iV):iV:=
 let m:=fR alg (parts.map (·.1))
 if t=0 then (naM,[]) else if t=1 then (fK m,[]) else if m≠aM∧m≠bV then (m,[])
 else (m,eu alg m parts++dY obls m)
mutual
def dU (gs:List bk):bG→iV
 | .mk id set alg tgt rules kids obls=>if lC gs tgt=0 then (naM,[]) else nN alg obls (lC gs tgt) (rules.map (gC gs)++kC gs kids)
def kC (gs:List bk):List bG→List iV
 | []=> []
 |k::r=>dU gs k::kC gs r
end
theorem q7 (gs:List bk):∀l:List bG,kC gs l=l.map (dU gs)
 | []=>by simp [kC]
 |k::r=>by simp [kC,q7 gs r]
def qI:bG→fP
 | .mk _ _ _ t _ _ _=>t
def mD:fP→Option bN
 | []=>none
 | [l]::r=>match l.find? fun m=>m.op==1 && !m.attr.must with
  |some m=>some m
  |none=>mD r
 |_::r=>mD r
def qF (gs:List bk) (p:bG):Bool:=match mD (qI p) with
 |none=>true
 |some m=>decide (iJ gs m≠0)
mutual
def jk (gs:List bk):bG→bG
 | .mk id set alg tgt rules kids obls=> .mk id set alg tgt rules (jj gs kids) obls
def jj (gs:List bk):List bG→List bG
 | []=> []
 |k::r=>if qF gs k then jk gs k::jj gs r else jj gs r
end
end Go.Bf
namespace Go.Ab
open Go
section
variable {U : TypeId → TI} {ρ : Env} {h0 h h' : Heap} {sz id : Nat} {tb : TypeId} {y : AV} {xs : List AV} {e : TypeId} {K : AV → Prop} {x : IntKind} {m : Int}
theorem sB (xs:List AV) (j:Nat):aq xs=aq (xs.take j)++aq (xs.drop j):=by rw [←kO,List.take_append_drop]
theorem OwE.cut (hw:OwE tb h0 h sz y xs) {hi:Operand} (j:Nat) (hm:ev ρ hi=some (.v (.int x m))) (hj:m=j) (hl:j≤xs.length) (hz:(U tb).sz=sz) (h1:sz≠0)
  (hk:∀z,OwE tb h0 h sz z (xs.take j)→(z=y∨∃id l l' c,y= .ob id 0 l c sz∧z= .ob id 0 l' c sz)→K z):jn U ρ y none (some hi) none K (.slice tb):=by
 subst hj; subst hz
 rcases hw with ⟨rfl,rfl⟩|⟨id,h2,cap,rest,rfl,h3,h4,h5,h6⟩
 ·rw [uh,jH,hm]
  refine ⟨h1, ?_⟩;simp only [fA,pM,Option.isSome_some,pH,Int.toNat_natCast];have:j=0:=by simpa using hl
  subst this;refine ⟨by omega,by simp, ?_⟩
  exact hk _ (.inl ⟨rfl,rfl⟩) (.inl rfl)
 ·rw [yR]
  refine ⟨h1,rfl, ?_⟩;simp only [mI,jH,hm,fA,pM];refine ⟨by omega,by omega,by omega, ?_⟩
  simp only [Int.toNat_natCast,Nat.zero_mul,Nat.add_zero,Nat.sub_zero,show (((0:Nat):Int)).toNat=0 from rfl]
  have e1:(xs.take j).length=j:=by simp; omega
  have hs:Sized (U tb).sz (xs.drop j):=fun z hz=>h6 z (List.mem_of_mem_drop hz)
  refine hk _ (.inr ⟨id,h2,cap,aq (xs.drop j)++rest,by rw [e1],by rw [h3,sB xs j,List.append_assoc], ?_,by omega,fun z hz=>h6 z (List.mem_of_mem_take hz)⟩) (.inr ⟨id,_,_,cap,rfl,rfl⟩)
  rw [V4,aW hs,h4,List.length_drop,e1,←Nat.add_mul]
  congr 1
  omega
theorem OwE.from (hw:OwE tb h0 h sz y xs) {lo:Operand} (j:Nat) (hm:ev ρ lo=some (.v (.int x m))) (hj:m=j) (hl:j≤xs.length) (hz:(U tb).sz=sz) (h1:sz≠0)
  (hk:∀z,Rd h sz z (xs.drop j)→K z):jn U ρ y (some lo) none none K (.slice tb):=by
 subst hj; subst hz
 rcases hw with ⟨rfl,rfl⟩|⟨id,h2,cap,rest,rfl,h3,h4,h5,h6⟩
 ·have:j=0:=by simpa using hl
  subst this;rw [uj,jH,hm];refine ⟨h1,by simp [Sized], ?_⟩
  simp only [fA,pM,mI];exact ⟨by omega,by simp,by simp,hk _ (.sl (by intro z hz; simp [nR] at hz) _)⟩
 ·rw [yR]
  refine ⟨h1,rfl, ?_⟩;simp only [mI,jH,hm,fA,pM];refine ⟨by omega,by omega,by omega, ?_⟩
  simp only [Int.toNat_natCast,Nat.zero_add];have e1:(xs.drop j).length=xs.length - j:=by simp
  have hs:Sized (U tb).sz (xs.drop j):=fun z hz=>h6 z (List.mem_of_mem_drop hz)
  have ht:Sized (U tb).sz (xs.take j):=fun z hz=>h6 z (List.mem_of_mem_take hz)
  have e2:=aW hs;have e3:=aW ht;have e4:(xs.take j).length=j:=by simp; omega
  rw [e4] at e3;refine hk _ ⟨hs, .inr ⟨id,j*(U tb).sz,cap - j,_,tb,by rw [e1],h3, ?_, ?_⟩⟩
  ·rw [sB xs j,V4,V4,e3,e2]; omega
  ·rw [sB xs j,List.append_assoc,←e3,List.drop_left,←e2,List.take_left]
end
end Go.Ab
namespace Go.Bf
open Go Go.Ab Go.Proofs.YtnlbeamjpefpfaaGreatDoor
def hbit:Nat→Nat
 |0=>0
 |1=>4602678819172646912
 |_=>4607182418800017408
def aP (m:aS):AV:= .v (.complex .f64 (hbit m.1) (hbit m.2))
def M9 (m:aS):Prop:=m.1≤2∧m.2≤2
def M6 (m:aS):Prop:=m∈sO
instance (m:aS):Decidable (M9 m):=inferInstanceAs (Decidable (_∧_))
instance (m:aS):Decidable (M6 m):=inferInstanceAs (Decidable (m∈sO))
theorem M6.m9 {m:aS} (h:M6 m):M9 m:=by
 unfold M6 sO at h;simp only [List.mem_cons,List.not_mem_nil,or_false] at h;rcases h with rfl|rfl|rfl|rfl|rfl|rfl<;>decide
theorem le2 {n:Nat} (h:n≤2):n=0∨n=1∨n=2:=by omega
theorem KW {a b:Nat} (ha:a≤2) (hb:b≤2):Op.floatEq .f64 (hbit a) (hbit b)=(a==b):=by
 rcases le2 ha with rfl|rfl|rfl<;>rcases le2 hb with rfl|rfl|rfl<;>rfl
theorem J7 (m n:aS):(m==n)=(m.1==n.1 && m.2==n.2):=rfl
theorem Hj {m n:aS} (hmm:M9 m) (hn:M9 n):eqC (aP m) (aP n)=(m==n):=by
 simp only [aP,eqC,KW hmm.1 hn.1,KW hmm.2 hn.2,J7]
theorem wo {m n:aS} (hmm:M9 m) (hn:M9 n) (K:AV→Prop):fH .eql (.complex .f64 (hbit m.1) (hbit m.2)) (.complex .f64 (hbit n.1) (hbit n.2)) K=K (.v (.bool (m==n))):=
 mG (fun P ty w=>by
  obtain ⟨m1,m2⟩:=m;obtain ⟨n1,n2⟩:=n;obtain ⟨a1,a2⟩:=hmm;obtain ⟨b1,b2⟩:=hn;simp only at a1 a2 b1 b2;rcases le2 a1 with rfl|rfl|rfl<;>rcases le2 a2 with rfl|rfl|rfl<;>rcases le2 b1 with rfl|rfl|rfl<;>rcases le2 b2 with rfl|rfl|rfl<;>rfl) K
theorem wq {m n:aS} (hmm:M9 m) (hn:M9 n) (K:AV→Prop):fH .neq (.complex .f64 (hbit m.1) (hbit m.2)) (.complex .f64 (hbit n.1) (hbit n.2)) K=K (.v (.bool (!(m==n)))):=
 mG (fun P ty w=>by
  obtain ⟨m1,m2⟩:=m;obtain ⟨n1,n2⟩:=n;obtain ⟨a1,a2⟩:=hmm;obtain ⟨b1,b2⟩:=hn;simp only at a1 a2 b1 b2;rcases le2 a1 with rfl|rfl|rfl<;>rcases le2 a2 with rfl|rfl|rfl<;>rcases le2 b1 with rfl|rfl|rfl<;>rcases le2 b2 with rfl|rfl|rfl<;>rfl) K
structure Nb (m:aS):Prop where
 na:∀K,fH .eql (.complex .f64 (hbit m.1) (hbit m.2)) (.complex .f64 0 0) K=K (.v (.bool (m==naM)))
 pe:∀K,fH .eql (.complex .f64 (hbit m.1) (hbit m.2)) (.complex .f64 4607182418800017408 0) K=K (.v (.bool (m==aM)))
 de:∀K,fH .eql (.complex .f64 (hbit m.1) (hbit m.2)) (.complex .f64 0 4607182418800017408) K=K (.v (.bool (m==bV)))
 ip:∀K,fH .eql (.complex .f64 (hbit m.1) (hbit m.2)) (.complex .f64 4602678819172646912 0) K=K (.v (.bool (m==yu)))
 id:∀K,fH .eql (.complex .f64 (hbit m.1) (hbit m.2)) (.complex .f64 0 4602678819172646912) K=K (.v (.bool (m==yt)))
 ib:∀K,fH .eql (.complex .f64 (hbit m.1) (hbit m.2)) (.complex .f64 4602678819172646912 4602678819172646912) K=K (.v (.bool (m==mU)))
 nna:∀K,fH .neq (.complex .f64 (hbit m.1) (hbit m.2)) (.complex .f64 0 0) K=K (.v (.bool (!(m==naM))))
 npe:∀K,fH .neq (.complex .f64 (hbit m.1) (hbit m.2)) (.complex .f64 4607182418800017408 0) K=K (.v (.bool (!(m==aM))))
 nde:∀K,fH .neq (.complex .f64 (hbit m.1) (hbit m.2)) (.complex .f64 0 4607182418800017408) K=K (.v (.bool (!(m==bV))))
theorem nb {m:aS} (h:M9 m):Nb m:=
 ⟨wo (n:=naM) h (by decide),wo (n:=aM) h (by decide),wo (n:=bV) h (by decide),wo (n:=yu) h (by decide),wo (n:=yt) h (by decide),wo (n:=mU) h (by decide),
  wq (n:=naM) h (by decide),wq (n:=aM) h (by decide),wq (n:=bV) h (by decide)⟩
theorem K6 {a b:Nat} (ha:a≤2) (hb:b≤2) (k:AV→Prop):xz [.v (.float .f64 (hbit a)), .v (.float .f64 (hbit b))] k=k (.v (.float .f64 (hbit (max a b)))):=
 C3 (fun P ts ty w=>by
  rcases le2 ha with rfl|rfl|rfl<;>rcases le2 hb with rfl|rfl|rfl<;>rfl) k
structure Fb (a:Nat):Prop where
 one:∀K,fH .eql (.float .f64 (hbit a)) (.float .f64 4607182418800017408) K=K (.v (.bool (a==2)))
 half:∀K,fH .eql (.float .f64 (hbit a)) (.float .f64 4602678819172646912) K=K (.v (.bool (a==1)))
 ge:∀K,fH .geq (.float .f64 (hbit a)) (.float .f64 4602678819172646912) K=K (.v (.bool (decide (1≤a))))
theorem fb {a:Nat} (h:a≤2):Fb a:=by
 rcases le2 h with rfl|rfl|rfl<;>
  exact ⟨mG fun P ty w=>rfl,mG fun P ty w=>rfl,mG fun P ty w=>rfl⟩
end Go.Bf
namespace Go.Proofs.YtnlbeamjpefpfaaGreatDoor
open Go Go.Ab Go.Bf
theorem zR (m:aS) (hmm:M6 m) (h:Heap):ak Tryz.prog 151 [aP m] h fun r h' =>r= .v (.bool true)∧h' =h:=by
 have hn:ak Tryz.prog 176 [aP m] h fun r h' =>(∃c l,r= .s (c::l))∧h' =h:=by
  obtain ⟨n1,n2,n3,n4,n5,n6⟩:=nb hmm.m9;refine ak.body hU hm Tryz.func176 rfl (by kernel_rfl) 16 rfl [.tmp 2] rfl (VZ rfl) (fun hwf=> ?_)
  cases d1:(m==naM)
  case true=>simp only [go_sem,aP,n1,d1]; exact .same (.refl _) ⟨⟨_,_,rfl⟩,rfl⟩
  cases d2:(m==aM)
  case true=>simp only [go_sem,aP,n1,n2,d1,d2]; exact .same (.refl _) ⟨⟨_,_,rfl⟩,rfl⟩
  cases d3:(m==bV)
  case true=>simp only [go_sem,aP,n1,n2,n3,d1,d2,d3]; exact .same (.refl _) ⟨⟨_,_,rfl⟩,rfl⟩
  cases d4:(m==yu)
  case true=>simp only [go_sem,aP,n1,n2,n3,n4,d1,d2,d3,d4]; exact .same (.refl _) ⟨⟨_,_,rfl⟩,rfl⟩
  cases d5:(m==yt)
  case true=>simp only [go_sem,aP,n1,n2,n3,n4,n5,d1,d2,d3,d4,d5]; exact .same (.refl _) ⟨⟨_,_,rfl⟩,rfl⟩
  have d6:(m==mU)=true:=by
   unfold M6 sO at hmm;simp only [List.mem_cons,List.not_mem_nil,or_false] at hmm;rcases hmm with rfl|rfl|rfl|rfl|rfl|rfl<;>first|rfl|(cases d1; done)|(cases d2; done)|(cases d3; done)|(cases d4; done)|(cases d5; done)
  simp only [go_sem,aP,n1,n2,n3,n4,n5,n6,d1,d2,d3,d4,d5,d6];exact .same (.refl _) ⟨⟨_,_,rfl⟩,rfl⟩
 refine ak.body hU hm Tryz.func151 rfl (by kernel_rfl) 6 rfl [.tmp 2] rfl (VZ rfl) (fun hwf=> ?_)
 simp only [go_sem];refine hn.mono ?_
 rintro r h' ⟨⟨c,l,rfl⟩,rfl⟩
 simp only [go_sem];exact .same (.refl _) ⟨rfl,rfl⟩
theorem vQ (m:aS) (hmm:M9 m) (h:Heap):ak Tryz.prog 118 [aP m] h fun r h' =>r=aP (fK m)∧h' =h:=by
 obtain ⟨n1,n2,n3,n4,n5,n6⟩:=nb hmm;refine ak.body hU hm Tryz.func118 rfl (by kernel_rfl) 9 rfl [.tmp 2] rfl (VZ rfl) (fun hwf=> ?_)
 cases d2:(m==aM)
 case true=>simp only [go_sem,aP,n2,d2]; exact .same (.refl _) ⟨by rw [fK,if_pos (by simpa using d2)]; rfl,rfl⟩
 cases d3:(m==bV)
 case true=>simp only [go_sem,aP,n2,n3,d2,d3]; exact .same (.refl _) ⟨by rw [fK,if_neg (by simpa using d2),if_pos (by simpa using d3)]; rfl,rfl⟩
 simp only [go_sem,aP,n2,n3,d2,d3];exact .same (.refl _) ⟨by rw [fK,if_neg (by simpa using d2),if_neg (by simpa using d3)]; rfl,rfl⟩
theorem rP (m:aS) (h:Heap):ak Tryz.prog 177 [aP m] h fun r h' =>r= .tup [.v (.float .f64 (hbit m.1)), .v (.float .f64 (hbit m.2))]∧h' =h:=by
 refine ak.body hU hm Tryz.func177 rfl (by kernel_rfl) 10 rfl [.tmp 2, .tmp 3] rfl (VZ rfl) (fun hwf=> ?_)
 simp only [go_sem,aP];exact .same (.refl _) ⟨rfl,rfl⟩
theorem Lc (a b:Nat) (h:Heap):ak Tryz.prog 178 [.v (.float .f64 (hbit a)), .v (.float .f64 (hbit b))] h fun r h' =>r=aP (a,b)∧h' =h:=by
 refine ak.body hU hm Tryz.func178 rfl (by kernel_rfl) 8 rfl [.tmp 4] rfl (VZ rfl) (fun hwf=> ?_)
 simp only [go_sem];exact .same (.refl _) ⟨rfl,rfl⟩
theorem Ks (m:aS) (h:Heap):ak Tryz.prog 154 [aP m] h fun r h' =>r=aP (B9 m)∧h' =h:=by
 refine ak.body hU hm Tryz.func154 rfl (by kernel_rfl) 13 rfl [.tmp 2] rfl (VZ rfl) (fun hwf=> ?_)
 simp only [go_sem];refine (rP m _).pthen ?_;simp only [go_sem];refine (Lc m.2 m.1 _).pthen ?_;simp only [go_sem];exact .same (.refl _) ⟨rfl,rfl⟩
theorem JY (a b:aS) (ha:M9 a) (hb:M9 b) (h:Heap):ak Tryz.prog 152 [aP a,aP b] h fun r h' =>r=aP (mC a b)∧h' =h:=by
 have m1:=K6 ha.1 hb.1;have m2:=K6 ha.2 hb.2;refine ak.body hU hm Tryz.func152 rfl (by kernel_rfl) 26 rfl [.tmp 4] rfl (VZ rfl) (fun hwf=> ?_)
 simp only [go_sem];refine (rP a _).pthen ?_;simp only [go_sem];refine (rP b _).pthen ?_;simp only [go_sem,m1,m2];refine (Lc _ _ _).pthen ?_;simp only [go_sem];exact .same (.refl _) ⟨rfl,rfl⟩
theorem M9.join {a b:aS} (ha:M9 a) (hb:M9 b):M9 (mC a b):=⟨Nat.max_le.2 ⟨ha.1,hb.1⟩,Nat.max_le.2 ⟨ha.2,hb.2⟩⟩
theorem Ej (j:aS):M6 (oW j):=by
 unfold oW
 repeat' split
 all_goals decide
theorem Ek (j:aS) (hj:M9 j) (h:Heap):ak Tryz.prog 153 [aP j] h fun r h' =>r=aP (oW j)∧h' =h:=by
 obtain ⟨p1,p2,p3⟩:=fb hj.1;obtain ⟨q1,q2,q3⟩:=fb hj.2;refine ak.body hU hm Tryz.func153 rfl (by kernel_rfl) 29 rfl [.tmp 2] rfl (VZ rfl) (fun hwf=> ?_)
 simp only [go_sem];refine (rP j _).pthen ?_;cases d1:(j.2==2)
 case true=>simp only [go_sem,q1,d1]; exact .same (.refl _) ⟨by rw [oW,if_pos (by simpa using d1)]; rfl,rfl⟩
 have e1:¬j.2=2:=by simpa using d1
 cases d2:(j.2==1)
 case true=>
  have e2:j.2=1:=by simpa using d2
  cases d3:decide (1≤j.1)
  ·simp only [go_sem,p3,q1,q2,d1,d2,d3]; exact .same (.refl _) ⟨by rw [oW,if_neg e1,if_neg (by have:=V3 d3; omega),if_pos e2]; rfl,rfl⟩
  ·simp only [go_sem,p3,q1,q2,d1,d2,d3]; exact .same (.refl _) ⟨by rw [oW,if_neg e1,if_pos ⟨e2,V2 d3⟩]; rfl,rfl⟩
 have e2:¬j.2=1:=by simpa using d2
 cases d4:(j.1==2)
 case true=>simp only [go_sem,p1,q1,q2,d1,d2,d4]; exact .same (.refl _) ⟨by rw [oW,if_neg e1,if_neg (fun h=>e2 h.1),if_neg e2,if_pos (by simpa using d4)]; rfl,rfl⟩
 cases d5:(j.1==1)
 case true=>simp only [go_sem,p1,p2,q1,q2,d1,d2,d4,d5]; exact .same (.refl _) ⟨by rw [oW,if_neg e1,if_neg (fun h=>e2 h.1),if_neg e2,if_neg (by simpa using d4),if_pos (by simpa using d5)]; rfl,rfl⟩
 simp only [go_sem,p1,p2,q1,q2,d1,d2,d4,d5];exact .same (.refl _) ⟨by rw [oW,if_neg e1,if_neg (fun h=>e2 h.1),if_neg e2,if_neg (by simpa using d4),if_neg (by simpa using d5)]; rfl,rfl⟩
end Go.Proofs.YtnlbeamjpefpfaaGreatDoor
namespace Go.Bf
open Go Go.Ab Go.Proofs.YtnlbeamjpefpfaaGreatDoor
def vV (a b:bX):Int:=if cc a=false∨cc b=false then 1 else 2
def j0 (a b:bX):AV:=match lU a b with
 |some x=> .tup [.v (.bool x), .v (.int .i64 0)]
 |none=> .tup [.v (.bool false), .v (.int .i64 (vV a b))]
theorem yw {a b:bX} (h:cc a=false∨cc b=false):j0 a b= .tup [.v (.bool false), .v (.int .i64 1)]:=by
 unfold j0 lU;rw [if_pos (by rcases h with h|h; exact .inl h; exact .inr (.inl h))]
 simp only [vV,if_pos h]
theorem vU {a b:bX} (h1:cc a=true) (h2:cc b=true) (h:a.kind≠b.kind∨a.kind=1):j0 a b= .tup [.v (.bool false), .v (.int .i64 2)]:=by
 unfold j0 lU;rw [if_pos (.inr (.inr h))];simp [vV,h1,h2]
theorem J5 {a b:bX} (h1:cc a=true) (h2:cc b=true) (h:a.kind=b.kind) (h0:a.kind≠1) (ht:a.kind=3∨a.kind=5):j0 a b= .tup [.v (.bool (Op.bytesLess a.s b.s)), .v (.int .i64 0)]:=by
 unfold j0 lU;rw [if_neg (by simp [h1,h2,h]; rw [←h]; exact h0),if_pos ht]
theorem J4 {a b:bX} (h1:cc a=true) (h2:cc b=true) (h:a.kind=b.kind) (h0:a.kind≠1) (ht:¬(a.kind=3∨a.kind=5)):j0 a b= .tup [.v (.bool (decide (a.n<b.n))), .v (.int .i64 0)]:=by
 unfold j0 lU;rw [if_neg (by simp [h1,h2,h]; rw [←h]; exact h0),if_neg ht]
end Go.Bf
namespace Go.Proofs.YtnlbeamjpefpfaaGreatDoor
open Go Go.Ab Go.Bf
theorem IX (k:Int) (h:Heap):ak Tryz.prog 212 [.v (.int .i64 k)] h fun r h' =>r= .v (.bool (k==3||k==5))∧h' =h:=by
 refine ak.body hU hm Tryz.func212 rfl (by kernel_rfl) 9 rfl [.tmp 2] rfl (VZ rfl) (fun hwf=> ?_)
 cases d1:(k==3)<;>cases d2:(k==5)
 all_goals
  simp only [go_sem,d1,d2];exact .same (.refl _) ⟨rfl,rfl⟩
theorem zQ (a b:bX) (h:Heap):ak Tryz.prog 192 [aU a,aU b] h fun r h' =>r=j0 a b∧h' =h:=by
 have ha:=fun (G:Heap)=>iT a G
 have hb:=fun (G:Heap)=>iT b G
 simp only [aU] at ha hb;refine ak.body hU hm Tryz.func192 rfl (by kernel_rfl) 40 rfl [.tmp 4, .tmp 5] rfl (VZ rfl) (fun hwf=> ?_)
 simp only [go_sem,aU];intro i1 h1;simp only [go_sem];intro i2 h2;have n21:=aH h2;have n2:=aD h2;have hs:∀x y,Ab.Sub h (upd (upd h i1 x) i2 y):=fun x y=>((Sub.refl h).put h1 x).put n2 y
 simp only [go_sem,aj,n21.symm];refine (ha _).pthen ?_;cases da:cc a
 ·simp only [go_sem]
  exact .mk _ (.refl _) (hs _ _) ⟨by rw [yw (.inl da)]; rfl,rfl⟩
 simp only [go_sem];refine (hb _).pthen ?_;cases db:cc b
 ·simp only [go_sem]
  exact .mk _ (.refl _) (hs _ _) ⟨by rw [yw (.inr db)]; rfl,rfl⟩
 cases dk:(a.kind !=b.kind)
 case true=>
  simp only [go_sem,aj,n21.symm,dk];exact .mk _ (.refl _) (hs _ _) ⟨by rw [vU da db (.inl (by simpa using dk))]; rfl,rfl⟩
 have ek:a.kind=b.kind:=by simpa using dk
 cases d1:(a.kind==1)
 case true=>
  simp only [go_sem,aj,n21.symm,dk,d1];exact .mk _ (.refl _) (hs _ _) ⟨by rw [vU da db (.inr (by simpa using d1))]; rfl,rfl⟩
 have e1:a.kind≠1:=by simpa using d1
 simp only [go_sem,aj,n21.symm,dk,d1];refine (IX _ _).pthen ?_;cases dt:(a.kind==3||a.kind==5)
 ·simp only [go_sem,aj,n21.symm]
  exact .mk _ (.refl _) (hs _ _) ⟨by rw [J4 da db ek e1 (by simpa using dt)]; rfl,rfl⟩
 ·simp only [go_sem,aj,n21.symm]
  exact .mk _ (.refl _) (hs _ _) ⟨by rw [J5 da db ek e1 (by simpa using dt)]; rfl,rfl⟩
def Ff (bag:List bX) (must:Bool):AV:=if bag= []∧must=true then .tup [.sl [] .no, .v (.int .i64 4)] else .tup [.sl (bag.map aU) .no, .v (.int .i64 0)]
theorem D3 (gs:List bk) (cat:Int) (name:Txt) (must:Bool) (hl:gs.length≤1000000000) (hb:∀g∈gs,g.bag.length≤1000000) (h:Heap):ak Tryz.prog 167 [bB gs, .agg [.v (.int .i64 cat), .s name, .v (.bool must)]] h fun r h' =>r=Ff (getD gs cat name) must∧h' =h:=by
 have hpl:=fun G=>Is gs cat name hl G
 simp only [bB] at hpl;have frz:∀(x:AV) (e:Int),Weak x (.sl [] .no)→Weak (.tup [x, .v (.int .i64 e)]) (.tup [.sl [] .no, .v (.int .i64 e)]):=fun x e hx=> .tup _ _ rfl fun i a b=>by
  rcases i with _|_|i
  ·exact hx
  ·exact .refl _
  ·simp at a; omega
 refine ak.body hU hm Tryz.func167 rfl (by kernel_rfl) 30 rfl [.tmp 4, .tmp 5] rfl (VZ rfl) (fun hwf=> ?_)
 simp only [go_sem,bB];intro i1 h1;simp only [go_sem];refine (hpl _).pthen ?_
 by_cases hx:gs.findIdx (gx cat name)<gs.length
 ·have e1:ixD (gx cat name) gs=(gs.findIdx (gx cat name):Nat):=by rw [ixD]; exact if_pos hx
  have d1:decide ((0:Int)≤((gs.findIdx (gx cat name):Nat):Int))=true:=decide_eq_true (by omega)
  rw [e1];simp only [go_sem,d1];refine .at (gs.findIdx (gx cat name)) (by simpa using hx) (by rw [V1]; rfl) ?_
  simp only [go_sem,V1,jD];rw [if_neg (fun hh=>hh.1)]
  have hlb:=hb _ (V5 hx);rw [get_at hx];obtain ⟨B,eB⟩:∃B,gs[gs.findIdx (gx cat name)].bag=B:=⟨_,rfl⟩;rw [eB] at hlb⊢;refine (AA _ (B.map aU) _ (eC aU 3 (fun _=>rfl) _ _) (by simpa using hlb) (bn (fun _=>rfl) _)).pthen ?_
  cases d2:((B.length:Int)==0)
  ·have e2:B≠ []:=by rintro rfl; simp at d2
   simp only [go_sem,d2,V0];exact .mk _ (.refl _) (.ai h1) ⟨by rw [Ff,if_neg (fun hh=>e2 hh.1)]; rfl,rfl⟩
  ·have e3:(B.length:Int)=0:=by simpa using d2
   have e2:B= []:=List.length_eq_zero_iff.1 (by omega)
   subst e2;cases must
   ·simp only [go_sem,List.map_nil,List.length_nil]
    exact .mk _ (.refl _) (.ai h1) ⟨rfl,rfl⟩
   ·simp only [go_sem,List.map_nil,List.length_nil]
    exact .mk (.tup [.sl [] .no, .v (.int .i64 4)]) (frz _ _ (.sl _ _)) (.ai h1) ⟨rfl,rfl⟩
 ·have e1:ixD (gx cat name) gs= -1:=by rw [ixD]; exact if_neg hx
  have d1:decide ((0:Int)≤ -1)=false:=rfl;rw [e1,Mi hx];cases must
  ·simp only [go_sem,d1]
   exact .mk (.tup [.sl [] .no, .v (.int .i64 0)]) (frz _ _ (.sl _ _)) (.ai h1) ⟨rfl,rfl⟩
  ·simp only [go_sem,d1]
   exact .mk (.tup [.sl [] .no, .v (.int .i64 4)]) (frz _ _ (.sl _ _)) (.ai h1) ⟨rfl,rfl⟩
def kX (m:bN) (v:bX):AV:=
 if m.op=1 then (if v.kind=m.val.kind then .tup [.v (.bool (eqV v m.val)), .v (.int .i64 0)] else .tup [.v (.bool false), .v (.int .i64 2)])
 else if m.op=2 then j0 v m.val else j0 m.val v
theorem Cl (m:bN) (v:bX) (h:Heap):ak Tryz.prog 168 [dD m,aU v] h fun r h' =>r=kX m v∧h' =h:=by
 have hl1:=fun G=>zQ v m.val G
 have hl2:=fun G=>zQ m.val v G
 simp only [aU] at hl1 hl2;refine ak.body hU hm Tryz.func168 rfl (by kernel_rfl) 42 rfl [.tmp 4, .tmp 5] rfl (VZ rfl) (fun hwf=> ?_)
 simp only [go_sem,dD,aU];intro i1 h1;simp only [go_sem];intro i2 h2;have n21:=aH h2;have n2:=aD h2;have hs:∀x y,Ab.Sub h (upd (upd h i1 x) i2 y):=fun x y=>((Sub.refl h).put h1 x).put n2 y
 cases d1:(m.op==1)
 case true=>
  have e1:m.op=1:=by simpa using d1
  cases dk:(v.kind !=m.val.kind)
  ·have dk' :v.kind=m.val.kind:=by simpa using dk
   simp only [go_sem,aj,n21.symm,d1,dk];exact .mk _ (.refl _) (hs _ _) ⟨by rw [kX,if_pos e1,if_pos dk']; rfl,rfl⟩
  ·simp only [go_sem,aj,n21.symm,d1,dk]
   exact .mk _ (.refl _) (hs _ _) ⟨by rw [kX,if_pos e1,if_neg (by simpa using dk)]; rfl,rfl⟩
 have e1:m.op≠1:=by simpa using d1
 have aft:∀a b:bX,∃x e,j0 a b= .tup [.v (.bool x), .v (.int .i64 e)]:=fun a b=>by
  unfold j0;split
  ·exact ⟨_,_,rfl⟩
  ·exact ⟨_,_,rfl⟩
 cases d2:(m.op==2)
 case true=>
  have e2:m.op=2:=by simpa using d2
  obtain ⟨x,e,ee⟩:=aft v m.val;rw [ee] at hl1;simp only [go_sem,aj,n21.symm,d1,d2];refine (hl1 _).pthen ?_;simp only [go_sem];exact .mk _ (.refl _) (hs _ _) ⟨by rw [kX,if_neg e1,if_pos e2,ee]; rfl,rfl⟩
 ·have e2:m.op≠2:=by simpa using d2
  obtain ⟨x,e,ee⟩:=aft m.val v;rw [ee] at hl2;simp only [go_sem,aj,n21.symm,d1,d2];refine (hl2 _).pthen ?_;simp only [go_sem];exact .mk _ (.refl _) (hs _ _) ⟨by rw [kX,if_neg e1,if_neg e2,ee]; rfl,rfl⟩
theorem zk (m:bN) (v:bX):∃e:Int,(e !=0)=(cP m v==none)∧kX m v= .tup [.v (.bool (cP m v==some true)), .v (.int .i64 e)]:=by
 have hl:∀a b:bX,∃e:Int,(e !=0)=(lU a b==none)∧j0 a b= .tup [.v (.bool (lU a b==some true)), .v (.int .i64 e)]:=fun a b=>by
  unfold j0;cases hx:lU a b with
  |some x=>exact ⟨0,rfl,by cases x<;>rfl⟩
  |none=>refine ⟨vV a b, ?_,rfl⟩; unfold vV; split<;>rfl
 unfold kX cP
 by_cases e1:m.op=1
 ·rw [if_pos e1,if_pos e1]
  by_cases ek:v.kind=m.val.kind
  ·rw [if_pos ek,if_pos ek]
   exact ⟨0,rfl,by cases eqV v m.val<;>rfl⟩
  ·rw [if_neg ek,if_neg ek]
   exact ⟨2,rfl,rfl⟩
 ·rw [if_neg e1,if_neg e1]
  by_cases e2:m.op=2
  ·rw [if_pos e2,if_pos e2]; exact hl _ _
  ·rw [if_neg e2,if_neg e2]; exact hl _ _
theorem Fg (bag:List bX) (must:Bool):∃e:Int,(e !=0)=decide (bag= []∧must=true)∧Ff bag must= .tup [.sl (bag.map aU) .no, .v (.int .i64 e)]:=by
 unfold Ff;split
 ·rename_i h; exact ⟨4,by rw [decide_eq_true h]; rfl,by rw [h.1]; rfl⟩
 ·rename_i h; exact ⟨0,by rw [decide_eq_false h]; rfl,rfl⟩
def pT (gs:List bk):Prop:=gs.length≤1000000∧∀g∈gs,g.bag.length≤1000000
theorem pT.bag {gs:List bk} (h:pT gs) (a:nU):(vi gs a).length≤1000000:=by
 unfold vi getD;split
 ·rename_i g hg; exact h.2 g (List.mem_of_find?_eq_some hg)
 ·simp
theorem yB (m:bN) (gs:List bk) (hf:pT gs) (h:Heap):ak Tryz.prog 136 [dD m,bB gs] h fun r h' =>r= .v (.int .i64 (iJ gs m:Nat))∧h' =h:=by
 have hg:=fun G=>D3 gs m.attr.cat m.attr.name m.attr.must (by have:=hf.1; omega) hf.2 G
 have hbl:=hf.bag m.attr;obtain ⟨B,eB⟩:∃B,vi gs m.attr=B:=⟨_,rfl⟩;have eg:Go.Bf.getD gs m.attr.cat m.attr.name=B:=eB;rw [eB] at hbl;rw [eg] at hg;have hmm:iJ gs m=if B= []∧m.attr.must=true then 1 else if B.any (fun v=>cP m v==some true) then 2 else if B.any (fun v=>cP m v==none) then 1 else 0:=by
  unfold iJ; rw [eB]
 obtain ⟨eg,hge,hga⟩:=Fg B m.attr.must;rw [hga] at hg;have hag:=fun (v:bX) (G:Heap)=>Cl m v G
 simp only [dD,bB,aU] at hag hg;refine ak.body hU hm Tryz.func136 rfl (by kernel_rfl) 38 rfl [.tmp 4] rfl (VZ rfl) (fun hwf=> ?_)
 simp only [go_sem,dD,bB];intro i1 h1;simp only [go_sem];refine (hg _).pthen ?_;cases d0:decide (B= []∧m.attr.must=true)
 case true=>
  rw [d0] at hge;simp only [go_sem,hge];exact .mk _ (.refl _) (.ai h1) ⟨by rw [hmm,if_pos (V2 d0)]; rfl,rfl⟩
 rw [d0] at hge;rw [if_neg (V3 d0)] at hmm;simp only [go_sem,hge,V0];obtain ⟨H,eH⟩:∃H,upd h i1 (some (.obj [.v (.int .i64 m.attr.cat), .s m.attr.name, .v (.bool m.attr.must), .v (.int .i64 m.op), .v (.int .i64 m.val.kind), .v (.int .i64 m.val.n), .s m.val.s] 216))=H:=⟨_,rfl⟩;have hH:Ab.Sub h H:=by rw [←eH]; exact .ai h1
 have k1:H i1=some (.obj [.v (.int .i64 m.attr.cat), .s m.attr.name, .v (.bool m.attr.must), .v (.int .i64 m.op), .v (.int .i64 m.val.kind), .v (.int .i64 m.val.n), .s m.val.s] 216):=by rw [←eH,ah]
 rw [eH];clear eH;refine .intro (fun q ρ G=>Ab.Sub H G∧∃i:Nat,i≤B.length∧q=B.length - i∧(∀j (hj:j<i) (h2:j<B.length),(cP m B[j]==some true)=false)∧lk ρ 2=some (.ptr i1 0)∧lk ρ 7=some (.v (.int .i64 (if (B.take i).any (fun v=>cP m v==none) then 1 else 0)))∧lk ρ 21=some (.sl (B.map aU) .no)∧lk ρ 22=some (.v (.int .i64 B.length))∧lk ρ 23=some (.v (.int .i64 i))) B.length ?_ ?_
 ·refine ⟨.refl _,0,by omega,rfl,fun j hj=>(by omega), ?_, ?_, ?_, ?_, ?_⟩<;>simp only [go_sem]
  simp
 ·rintro q ρ G ⟨hs,i,hi,rfl,hc,r2,r7,r21,r22,r23⟩
  have k1' :=hs _ _ k1;simp only [go_sem,r22,r23];refine .intro (fun e=> ?_) (fun e=> ?_)
  ·have hlt:i<B.length:=V7 e
   have w1:=V6 i (by omega)
   have hsn:(B.take (i+1)).any (fun v=>cP m v==none)=((B.take i).any (fun v=>cP m v==none)||(cP m B[i]==none)):=any_succ hlt
   have ix:=fun k=>fj.eq (xs:=B.map aU) (sz:=3) i (by simpa using hlt) (by rw [V1]; rfl) k
   rw [V1] at ix;have hci:=fun (d:(cP m B[i]==some true)=false)=>(fun j (hj:j<i+1) (h2:j<B.length)=>(by
    by_cases hji:j=i
    ·subst hji; exact d
    ·exact hc j (by omega) h2:(cP m B[j]==some true)=false))
   have hat:=fun (d:(cP m B[i]==some true)=true)=>(List.any_eq_true.2 ⟨B[i],V5 hlt,d⟩:B.any (fun v=>cP m v==some true)=true)
   obtain ⟨v,ev⟩:∃v,B[i]=v:=⟨_,rfl⟩;rw [ev] at ix hsn hci hat;simp only [aU] at ix;obtain ⟨e,he1,he2⟩:=zk m v;have hag1:=hag v;rw [he2] at hag1;simp only [go_sem,r21,r23,ix];intro i4 h4;have n41:i4≠i1:=fun e=>by rw [e,k1'] at h4; cases h4
   simp only [go_sem,r2,aj,n41.symm,k1'];refine (hag1 _).pthen ?_;cases d1:(cP m v==some true)
   ·cases d2:(cP m v==none)
    ·rw [d2] at he1 hsn
     rw [Bool.or_false] at hsn;simp only [go_sem,r23,he1,w1];refine ⟨_, ?_,hs.trans (.ai h4),i+1,by omega,rfl,hci d1, ?_, ?_, ?_, ?_, ?_⟩
     ·omega
     all_goals simp only [go_sem,r2,r7,r21,r22,hsn]
    ·rw [d2] at he1 hsn
     rw [Bool.or_true] at hsn;simp only [go_sem,r23,he1,w1];refine ⟨_, ?_,hs.trans (.ai h4),i+1,by omega,rfl,hci d1, ?_, ?_, ?_, ?_, ?_⟩
     ·omega
     all_goals simp only [go_sem,r2,r21,r22,hsn]
   ·simp only [go_sem]
    refine .mk _ (.refl _) (hH.trans (hs.trans (.ai h4))) ⟨by rw [hmm,if_pos (hat d1)]; rfl,rfl⟩
  ·have hge:i=B.length:=by have:=V3 e; omega
   subst hge;rw [List.take_length] at r7;simp only [go_sem,r7];refine .mk _ (.refl _) (hH.trans hs) ⟨?_,rfl⟩;have hno:B.any (fun v=>cP m v==some true)=false:=List.any_eq_false.2 fun x hx=>by
    obtain ⟨j,hj,rfl⟩:=List.mem_iff_getElem.1 hx;rw [hc j hj hj]; decide
   rw [hmm,hno];cases B.any (fun v=>cP m v==none)<;>rfl
theorem Ee (a b:Nat):(if ((b:Int)<(a:Int)) then (b:Int) else (a:Int))=((min a b:Nat):Int):=by
 split<;>omega
theorem J8 (a b:Nat):(if ((a:Int)<(b:Int)) then (b:Int) else (a:Int))=((max a b:Nat):Int):=by
 split<;>omega
theorem Jy (l:List bN) (hl:l.length≤1000000) (gs:List bk) (hf:pT gs) (h:Heap):ak Tryz.prog 114 [gR l,bB gs] h fun r h' =>r= .v (.int .i64 (Al gs l:Nat))∧h' =h:=by
 have hmt:=fun (m:bN) (G:Heap)=>yB m gs hf G
 simp only [dD,bB] at hmt;refine ak.body hU hm Tryz.func114 rfl (by kernel_rfl) 21 rfl [.tmp 4] rfl (VZ rfl) (fun hwf=> ?_)
 simp only [go_sem,gR,bB,V0];refine .intro (fun q ρ G=>Ab.Sub h G∧∃i:Nat,i≤l.length∧q=l.length - i∧lk ρ 1=some (.sl (gs.map jD) .no)∧lk ρ 5=some (.v (.int .i64 (Al gs (l.take i):Nat)))∧lk ρ 8=some (.sl (l.map dD) .no)∧lk ρ 9=some (.v (.int .i64 l.length))∧lk ρ 10=some (.v (.int .i64 i))) l.length ?_ ?_
 ·refine ⟨.refl _,0,by omega,rfl, ?_, ?_, ?_, ?_, ?_⟩<;>simp only [go_sem]
  rfl
 ·rintro q ρ G ⟨hs,i,hi,rfl,r1,r5,r8,r9,r10⟩
  simp only [go_sem,r9,r10];refine .intro (fun e=> ?_) (fun e=> ?_)
  ·have hlt:i<l.length:=V7 e
   have w1:=V6 i (by omega)
   have hsn:Al gs (l.take (i+1))=min (Al gs (l.take i)) (iJ gs l[i]):=by
    unfold Al; rw [List.take_succ_eq_append_getElem hlt,List.foldl_append]; rfl
   have ix:=fun k=>fj.eq (xs:=l.map dD) (sz:=7) i (by simpa using hlt) (by rw [V1]; rfl) k
   rw [V1] at ix;obtain ⟨m,em⟩:∃m,l[i]=m:=⟨_,rfl⟩;rw [em] at ix hsn;have hmt1:=hmt m;simp only [dD] at ix;simp only [go_sem,r8,r10,ix];intro i4 h4;simp only [go_sem,r1,r5];refine (hmt1 _).pthen ?_;simp only [go_sem,r10,Ee,w1];refine ⟨_, ?_,hs.trans (.ai h4),i+1,by omega,rfl, ?_, ?_, ?_, ?_, ?_⟩
   ·omega
   all_goals simp only [go_sem,r1,r8,r9,hsn]
  ·have hge:i=l.length:=by have:=V3 e; omega
   subst hge;rw [List.take_length] at r5;simp only [go_sem,r5];exact .mk _ (.refl _) hs ⟨rfl,rfl⟩
def Jn (t:fP):Prop:=t.length≤1000000∧∀x∈t,x.length≤1000000∧∀l∈x,l.length≤1000000
theorem HW (t:fP) (ht:Jn t) (gs:List bk) (hf:pT gs) (h:Heap):ak Tryz.prog 80 [aT t,bB gs] h fun r h' =>r= .v (.int .i64 (lC gs t:Nat))∧h' =h:=by
 have hat:=fun (l:List bN) (hl:l.length≤1000000) (G:Heap)=>Jy l hl gs hf G
 simp only [gR,bB] at hat;have htl:=ht.1;refine ak.body hU hm Tryz.func80 rfl (by kernel_rfl) 34 rfl [.tmp 4] rfl (VZ rfl) (fun hwf=> ?_)
 simp only [go_sem,aT,bB,V0];refine .intro (fun q ρ G=>Ab.Sub h G∧∃i:Nat,i≤t.length∧q=t.length - i∧lk ρ 1=some (.sl (gs.map jD) .no)∧lk ρ 5=some (.v (.int .i64 (lC gs (t.take i):Nat)))∧lk ρ 11=some (.sl (t.map cH) .no)∧lk ρ 12=some (.v (.int .i64 t.length))∧lk ρ 13=some (.v (.int .i64 i))) t.length ?_ ?_
 ·refine ⟨.refl _,0,by omega,rfl, ?_, ?_, ?_, ?_, ?_⟩<;>simp only [go_sem]
  rfl
 ·rintro q ρ G ⟨hs,i,hi,rfl,r1,r5,r11,r12,r13⟩
  simp only [go_sem,r12,r13];refine .intro (fun e=> ?_) (fun e=> ?_)
  ·have hlt:i<t.length:=V7 e
   have w1:=V6 i (by omega)
   have hsn:lC gs (t.take (i+1))=min (lC gs (t.take i)) (xp gs t[i]):=by
    unfold lC; rw [List.take_succ_eq_append_getElem hlt,List.foldl_append]; rfl
   have ix:=fun k=>fj.eq (xs:=t.map cH) (sz:=1) i (by simpa using hlt) (by rw [V1]; rfl) k
   rw [V1] at ix;obtain ⟨hx1,hx2⟩:=ht.2 t[i] (V5 hlt);obtain ⟨x,ex⟩:∃x,t[i]=x:=⟨_,rfl⟩;rw [ex] at ix hsn hx1 hx2;simp only [cH] at ix;simp only [go_sem,r11,r13,ix,V0];refine .intro (fun q ρ' K=>Ab.Sub h K∧∃n:Nat,n≤x.length∧q=x.length - n∧lk ρ' 1=some (.sl (gs.map jD) .no)∧lk ρ' 5=some (.v (.int .i64 (lC gs (t.take i):Nat)))∧lk ρ' 8=some (.v (.int .i64 (xp gs (x.take n):Nat)))∧lk ρ' 11=some (.sl (t.map cH) .no)∧lk ρ' 12=some (.v (.int .i64 t.length))∧lk ρ' 13=some (.v (.int .i64 i))∧lk ρ' 17=some (.sl (x.map gR) .no)∧lk ρ' 18=some (.v (.int .i64 x.length))∧lk ρ' 19=some (.v (.int .i64 n))) x.length ?_ ?_
   ·refine ⟨hs,0,by omega,rfl, ?_, ?_, ?_, ?_, ?_, ?_, ?_, ?_, ?_⟩<;>simp only [go_sem,r1,r5,r11,r12,r13]
    rfl
   ·rintro q ρ' K ⟨hs',n,hn,rfl,s1,s5,s8,s11,s12,s13,s17,s18,s19⟩
    simp only [go_sem,s18,s19];refine .intro (fun e=> ?_) (fun e=> ?_)
    ·have hlt2:n<x.length:=V7 e
     have w2:=V6 n (by omega)
     have hsn2:xp gs (x.take (n+1))=max (xp gs (x.take n)) (Al gs x[n]):=by
      unfold xp; rw [List.take_succ_eq_append_getElem hlt2,List.foldl_append]; rfl
     have ix2:=fun k=>fj.eq (xs:=x.map gR) (sz:=1) n (by simpa using hlt2) (by rw [V1]; rfl) k
     rw [V1] at ix2;have hx3:=hx2 x[n] (V5 hlt2);obtain ⟨l,el⟩:∃l,x[n]=l:=⟨_,rfl⟩;rw [el] at ix2 hsn2 hx3;simp only [gR] at ix2;simp only [go_sem,s1,s8,s17,s19,ix2];refine (hat l hx3 _).pthen ?_;simp only [go_sem,s19,J8,w2];refine ⟨_, ?_,hs',n+1,by omega,rfl, ?_, ?_, ?_, ?_, ?_, ?_, ?_, ?_, ?_⟩
     ·omega
     all_goals simp only [go_sem,s1,s5,s11,s12,s13,s17,s18,hsn2]
    ·have hge:n=x.length:=by have:=V3 e; omega
     subst hge;rw [List.take_length] at s8;simp only [go_sem,s5,s8,s13,Ee,w1];refine ⟨_, ?_,hs',i+1,by omega,rfl, ?_, ?_, ?_, ?_, ?_⟩
     ·omega
     all_goals simp only [go_sem,s1,s11,s12,hsn]
  ·have hge:i=t.length:=by have:=V3 e; omega
   subst hge;rw [List.take_length] at r5;simp only [go_sem,r5];exact .mk _ (.refl _) hs ⟨rfl,rfl⟩
end Go.Proofs.YtnlbeamjpefpfaaGreatDoor
namespace Go.Bf
open Go Go.Ab Go.Proofs.YtnlbeamjpefpfaaGreatDoor
def xB (o:Bool) (n:Int):AV:=if o then .tup [.v (.int .i64 0), .v (.int .i64 3)] else .tup [.v (.int .i64 (w64 n)), .v (.int .i64 0)]
def pq (r:bX×Int):AV:= .tup [aU r.1, .v (.int .i64 r.2)]
end Go.Bf
namespace Go.Proofs.YtnlbeamjpefpfaaGreatDoor
open Go Go.Ab Go.Bf
theorem LO (a b:Int) (h:Heap):ak Tryz.prog 219 [.v (.int .i64 a), .v (.int .i64 b)] h fun r h' =>r=xB (GC a b) (a+b)∧h' =h:=by
 refine ak.body hU hm Tryz.func219 rfl (by kernel_rfl) 27 rfl [.tmp 4, .tmp 5] rfl (VZ rfl) (fun hwf=> ?_)
 cases d1:decide (0<b)<;>cases d2:decide (IntKind.i64.wrap (9223372036854775807 - b)<a)<;>cases d3:decide (b<0)<;>cases d4:decide (a<IntKind.i64.wrap (-9223372036854775808 - b))
 all_goals
  simp -implicitDefEqProofs only [go_sem,d1,d2,d3,d4];exact .same (.refl _) ⟨by simp only [xB,GC,w64,d1,d2,d3,d4]; rfl,rfl⟩
theorem MW (a b:Int) (h:Heap):ak Tryz.prog 220 [.v (.int .i64 a), .v (.int .i64 b)] h fun r h' =>r=xB (IV a b) (a - b)∧h' =h:=by
 refine ak.body hU hm Tryz.func220 rfl (by kernel_rfl) 27 rfl [.tmp 4, .tmp 5] rfl (VZ rfl) (fun hwf=> ?_)
 cases d1:decide (0<b)<;>cases d2:decide (a<IntKind.i64.wrap (-9223372036854775808+b))<;>cases d3:decide (b<0)<;>cases d4:decide (IntKind.i64.wrap (9223372036854775807+b)<a)
 all_goals
  simp -implicitDefEqProofs only [go_sem,d1,d2,d3,d4];exact .same (.refl _) ⟨by simp only [xB,IV,w64,d1,d2,d3,d4]; rfl,rfl⟩
theorem Mz (a b:Int) (h:Heap):ak Tryz.prog 221 [.v (.int .i64 a), .v (.int .i64 b)] h fun r h' =>r=xB (FH a b) (a*b)∧h' =h:=by
 refine ak.body hU hm Tryz.func221 rfl (by kernel_rfl) 36 rfl [.tmp 4, .tmp 5] rfl (VZ rfl) (fun hwf=> ?_)
 cases d0:(a !=0)
 ·have e0:a=0:=by simpa using d0
  subst e0;cases d1:(b== -1)
  all_goals
   simp -implicitDefEqProofs only [go_sem,d1];exact .same (.refl _) ⟨by simp [xB,FH,w64,ax],rfl⟩
 have e0:a≠0:=by simpa using d0
 cases d1:(a== -1)<;>cases d2:(b== -9223372036854775808)<;>cases d3:(b== -1)<;>cases d4:(a== -9223372036854775808)<;>cases d5:(IntKind.i64.wrap ((IntKind.i64.wrap (a*b)).tdiv a) !=b)
 all_goals
  simp -implicitDefEqProofs only [go_sem,d0,d1,d2,d3,d4,d5,e0];exact .same (.refl _) ⟨by simp only [xB,FH,w64,d0,d1,d2,d3,d4,d5]; rfl,rfl⟩
theorem yW (b:Bool) (h:Heap):ak Tryz.prog 217 [.v (.bool b)] h fun r h' =>r=aU (iN b)∧h' =h:=by
 refine ak.body hU hm Tryz.func217 rfl (by kernel_rfl) 8 rfl [.cell 2 24] rfl (VZ rfl) (fun hwf=> ?_)
 simp -implicitDefEqProofs only [go_sem];intro i1 h1;simp -implicitDefEqProofs only [go_sem];intro i2 h2;have n21:=aH h2;have n2:=aD h2;cases b
 all_goals
  simp -implicitDefEqProofs only [go_sem,aj,n21.symm];exact .mk _ (.refl _) ((((Sub.refl h).put h1 _).put n2 _).put h1 _) ⟨rfl,rfl⟩
theorem zw (kind:Int) (l:List bX) (hl:l.length≤1000000) (p:Perm) (h:Heap):ak Tryz.prog 222 [.v (.int .i64 kind), .sl (l.map aU) p] h fun r h' =>r= .v (.bool (l.all fun v=>v.kind==kind))∧h' =h:=by
 refine ak.body hU hm Tryz.func222 rfl (by kernel_rfl) 18 rfl [.tmp 4] rfl (VZ rfl) (fun hwf=> ?_)
 simp -implicitDefEqProofs only [go_sem,V0];refine .intro (fun q ρ G=>Ab.Sub h G∧∃i:Nat,i≤l.length∧q=l.length - i∧(∀j (hj:j<i) (h2:j<l.length),(l[j].kind==kind)=true)∧lk ρ 0=some (.v (.int .i64 kind))∧lk ρ 7=some (.sl (l.map aU) p)∧lk ρ 8=some (.v (.int .i64 l.length))∧lk ρ 9=some (.v (.int .i64 i))) l.length ?_ ?_
 ·refine ⟨.refl _,0,by omega,rfl,fun j hj=>(by omega), ?_, ?_, ?_, ?_⟩<;>simp -implicitDefEqProofs only [go_sem]
 ·rintro q ρ G ⟨hs,i,hi,rfl,hc,r0,r7,r8,r9⟩
  simp -implicitDefEqProofs only [go_sem,r8,r9];refine .intro (fun e=> ?_) (fun e=> ?_)
  ·have hlt:i<l.length:=V7 e
   have w1:=V6 i (by omega)
   have ix:=fun k=>fj.eq (xs:=l.map aU) (sz:=3) i (by simpa using hlt) (by rw [V1]; rfl) k
   rw [V1] at ix;have hci:=fun (d:(l[i].kind==kind)=true)=>(fun j (hj:j<i+1) (h2:j<l.length)=>(by
    by_cases hji:j=i
    ·subst hji; exact d
    ·exact hc j (by omega) h2:(l[j].kind==kind)=true))
   have hat:=fun (d:(l[i].kind==kind)=false)=>(List.all_eq_false.2 ⟨l[i],V5 hlt,by rw [d]; decide⟩:(l.all fun v=>v.kind==kind)=false)
   obtain ⟨v,ev⟩:∃v,l[i]=v:=⟨_,rfl⟩;rw [ev] at ix hci hat;simp only [aU] at ix;cases d1:(v.kind==kind)
   ·have d2:(v.kind !=kind)=true:=by simp only [bne,d1]; rfl
    simp -implicitDefEqProofs only [go_sem,r7,r9,ix];intro i4 h4;simp -implicitDefEqProofs only [go_sem,r0,d2];exact .mk _ (.refl _) (hs.trans (.ai h4)) ⟨by rw [hat d1]; rfl,rfl⟩
   ·have d2:(v.kind !=kind)=false:=by simp only [bne,d1]; rfl
    simp -implicitDefEqProofs only [go_sem,r7,r9,ix];intro i4 h4;simp -implicitDefEqProofs only [go_sem,r0,r9,d2,w1];refine ⟨_, ?_,hs.trans (.ai h4),i+1,by omega,rfl,hci d1, ?_, ?_, ?_, ?_⟩
    ·omega
    all_goals simp -implicitDefEqProofs only [go_sem,r0,r7,r8]
  ·have hge:i=l.length:=by have:=V3 e; omega
   simp -implicitDefEqProofs only [go_sem];exact .mk _ (.refl _) hs ⟨by rw [List.all_eq_true.2 fun x hx=>by obtain ⟨j,hj,rfl⟩:=List.mem_iff_getElem.1 hx; exact hc j (by omega) hj]; rfl,rfl⟩
theorem Db (g:FuncId) (a b:bX) (o:Bool) (n:Int) (hg:∀G,ak Tryz.prog g [.v (.int .i64 a.n), .v (.int .i64 b.n)] G fun r h' =>r=xB o n∧h' =G) (p:Perm) (h:Heap):
  ak Tryz.prog 218 [.fn g [], .sl [aU a,aU b] p] h fun r h' =>r=pq (if ([a,b].all fun v=>v.kind==2) then xC o n else mh 2)∧h' =h:=by
 have ix0:=fun k=>fj.eq (xs:= [aU a,aU b]) (sz:=3) 0 (by simp) rfl k
 have ix1:=fun k=>fj.eq (xs:= [aU a,aU b]) (sz:=3) 1 (by simp) rfl k
 simp only [List.getElem_cons_zero,List.getElem_cons_succ,aU,Int.natCast_zero,Int.natCast_one] at ix0 ix1;have hal:=fun (G:Heap)=>zw 2 [a,b] (by simp) p G
 simp only [List.map_cons,List.map_nil,aU] at hal;refine ak.body hU hm Tryz.func218 rfl (by kernel_rfl) 31 rfl [.cell 4 24, .tmp 5] rfl (VZ rfl) (fun hwf=> ?_)
 simp -implicitDefEqProofs only [go_sem,aU];intro i1 h1;simp -implicitDefEqProofs only [go_sem];refine (hal _).pthen ?_;cases d1:([a,b].all fun v=>v.kind==2)
 ·simp -implicitDefEqProofs only [go_sem]
  exact .mk _ (.refl _) (.ai h1) ⟨rfl,rfl⟩
 ·simp -implicitDefEqProofs only [go_sem]
  refine .quiet (by kernel_rfl) ?_
  simp -implicitDefEqProofs only [go_sem,ix0,ix1];cases o
  ·refine ⟨_,hg _, ?_⟩
   simp -implicitDefEqProofs only [go_sem,xB];exact .mk _ (.refl _) (.ai h1) ⟨rfl,rfl⟩
  ·refine ⟨_,hg _, ?_⟩
   simp -implicitDefEqProofs only [go_sem,xB];exact .mk _ (.refl _) (.ai h1) ⟨rfl,rfl⟩
theorem uS {α:Type} {l:List α} (h:l.length=2):∃a b,l= [a,b]:=by
 match l,h with
 | [a,b],_=>exact ⟨a,b,rfl⟩
def C4 (op:Int) (l:List bX):Bool:= !(decide (op<6)||decide (13<op)||(l.length:Int) !=(if op==11 then 1 else 2)) && l.all cc
set_option maxRecDepth 100000 in
theorem Mx (op:Int) (l:List bX) (hl:l.length≤1000000) (p:Perm) (h:Heap):ak Tryz.prog 216 [.v (.int .i64 op), .sl (l.map aU) p] h fun r h' =>r= .v (.bool (C4 op l))∧h' =h:=by
 have hvr:=fun (v:bX) (G:Heap)=>iT v G
 simp only [aU] at hvr;refine ak.body hU hm Tryz.func216 rfl (by kernel_rfl) 32 rfl [.tmp 4] rfl (VZ rfl) (fun hwf=> ?_)
 cases d11:(op==11)
 all_goals
  have hmm:C4 op l=(!(decide (op<6)||decide (13<op)||(l.length:Int) !=(if op==11 then 1 else 2)) && l.all cc):=rfl
  rw [d11] at hmm;simp only [if_true,Bool.false_eq_true,if_false] at hmm;cases d6:decide (op<6)
  case true=>
   rw [d6] at hmm;simp -implicitDefEqProofs only [go_sem,d11,d6];exact .same (.refl _) ⟨by rw [hmm]; rfl,rfl⟩
  cases d13:decide (13<op)
  case true=>
   rw [d6,d13] at hmm;simp -implicitDefEqProofs only [go_sem,d11,d6,d13];exact .same (.refl _) ⟨by rw [hmm]; rfl,rfl⟩
  rw [d6,d13] at hmm;simp only [Bool.or_false,Bool.false_or] at hmm;obtain ⟨b,eb⟩:∃b,((l.length:Int) !=(if op==11 then 1 else 2))=b:=⟨_,rfl⟩
  rw [d11] at eb;simp only [if_true,Bool.false_eq_true,if_false] at eb;rw [eb] at hmm;cases b
  case true=>
   simp -implicitDefEqProofs only [go_sem,d11,d6,d13,V0,eb];exact .same (.refl _) ⟨by rw [hmm]; rfl,rfl⟩
  simp only [Bool.not_false,Bool.true_and] at hmm;simp -implicitDefEqProofs only [go_sem,d11,d6,d13,V0,eb];refine .intro (fun q ρ G=>Ab.Sub h G∧∃i:Nat,i≤l.length∧q=l.length - i∧(∀j (hj:j<i) (h2:j<l.length),cc l[j]=true)∧lk ρ 22=some (.sl (l.map aU) p)∧lk ρ 23=some (.v (.int .i64 l.length))∧lk ρ 24=some (.v (.int .i64 i))) l.length ?_ ?_
  ·refine ⟨.refl _,0,by omega,rfl,fun j hj=>(by omega), ?_, ?_, ?_⟩<;>simp -implicitDefEqProofs only [go_sem]
  ·rintro q ρ G ⟨hs,i,hi,rfl,hc,r22,r23,r24⟩
   simp -implicitDefEqProofs only [go_sem,r23,r24];refine .intro (fun e=> ?_) (fun e=> ?_)
   ·have hlt:i<l.length:=V7 e
    have w1:=V6 i (by omega)
    have ix:=fun k=>fj.eq (xs:=l.map aU) (sz:=3) i (by simpa using hlt) (by rw [V1]; rfl) k
    rw [V1] at ix;have hci:=fun (d:cc l[i]=true)=>(fun j (hj:j<i+1) (h2:j<l.length)=>(by
     by_cases hji:j=i
     ·subst hji; exact d
     ·exact hc j (by omega) h2:cc l[j]=true))
    have hat:=fun (d:cc l[i]=false)=>(List.all_eq_false.2 ⟨l[i],V5 hlt,by rw [d]; decide⟩:l.all cc=false)
    obtain ⟨v,ev⟩:∃v,l[i]=v:=⟨_,rfl⟩;rw [ev] at ix hci hat;simp only [aU] at ix;simp -implicitDefEqProofs only [go_sem,r22,r24,ix];intro i4 h4;simp -implicitDefEqProofs only [go_sem];refine (hvr v _).pthen ?_;cases d1:cc v
    ·simp -implicitDefEqProofs only [go_sem]
     exact .mk _ (.refl _) (hs.trans (.ai h4)) ⟨by rw [hmm,hat d1]; rfl,rfl⟩
    ·simp -implicitDefEqProofs only [go_sem,r24,w1]
     refine ⟨_, ?_,hs.trans (.ai h4),i+1,by omega,rfl,hci d1, ?_, ?_, ?_⟩
     ·omega
     all_goals simp -implicitDefEqProofs only [go_sem,r22,r23]
   ·have hge:i=l.length:=by have:=V3 e; omega
    simp -implicitDefEqProofs only [go_sem];exact .mk _ (.refl _) hs ⟨by rw [hmm,List.all_eq_true.2 fun x hx=>by obtain ⟨j,hj,rfl⟩:=List.mem_iff_getElem.1 hx; exact hc j (by omega) hj]; rfl,rfl⟩
theorem GR {op:Int} {l:List bX} (h:C4 op l=false):gv op l=mh 1:=by
 unfold gv;rw [if_pos]
 by_cases h1:6≤op∧op≤13
 ·by_cases h2:l.length=if op=11 then 1 else 2
  ·refine .inr (.inr ?_)
   unfold C4 at h;have e1:decide (op<6)=false:=decide_eq_false (by omega)
   have e2:decide (13<op)=false:=decide_eq_false (by omega)
   have e3:((l.length:Int) !=(if op==11 then 1 else 2))=false:=by
    rw [h2]
    by_cases e:op=11<;>simp [e]
   rw [e1,e2,e3] at h;simpa using h
  ·exact .inr (.inl h2)
 ·exact .inl h1
theorem EM {op:Int} {l:List bX} (h:C4 op l=true):(6≤op∧op≤13)∧l.all cc=true∧(op=11∧(∃a,l= [a])∨op≠11∧∃a b,l= [a,b]):=by
 unfold C4 at h;simp only [Bool.and_eq_true,Bool.not_eq_true',Bool.or_eq_false_iff,decide_eq_false_iff_not] at h;obtain ⟨⟨⟨h1,h2⟩,h3⟩,h4⟩:=h;refine ⟨by omega,h4, ?_⟩
 by_cases e:op=11
 ·subst e
  have h3' :(l.length:Int)=1:=by simpa using h3
  exact .inl ⟨rfl,List.length_eq_one_iff.1 (by omega)⟩
 ·have h3' :(l.length:Int)=2:=by simpa [e] using h3
  exact .inr ⟨e,uS (by omega)⟩
set_option maxRecDepth 100000 in
theorem zz (op:Int) (l:List bX) (hl:l.length≤1000000) (p:Perm) (h:Heap):ak Tryz.prog 200 [.v (.int .i64 op), .sl (l.map aU) p] h fun r h' =>r=pq (gv op l)∧h' =h:=by
 have hmy:=fun G=>Mx op l hl p G
 cases dm:C4 op l
 ·rw [dm] at hmy
  refine ak.body hU hm Tryz.func200 rfl (by kernel_rfl) 111 rfl [.cell 4 24, .tmp 5] rfl (VZ rfl) (fun hwf=> ?_)
  simp -implicitDefEqProofs only [go_sem];intro i1 h1;simp -implicitDefEqProofs only [go_sem];refine (hmy _).pthen ?_;simp -implicitDefEqProofs only [go_sem];exact .mk _ (.refl _) (.ai h1) ⟨by rw [GR dm]; rfl,rfl⟩
 rw [dm] at hmy;obtain ⟨hop,hall,hf⟩:=EM dm;rcases hf with ⟨rfl,a,rfl⟩|⟨e11,a,b,rfl⟩
 ·have ix0:=fun k=>fj.eq (xs:= [aU a]) (sz:=3) 0 (by simp) rfl k
  simp only [List.getElem_cons_zero,aU,Int.natCast_zero] at ix0;have hal:=fun (G:Heap)=>zw 1 [a] (by simp) p G
  simp only [List.map_cons,List.map_nil,aU] at hal hmy;have hc:gv 11 [a]=if (([a].all fun v=>v.kind==1)=false) then mh 2 else (iN (a.n==0),0):=by
   unfold gv;rw [if_neg (by simp [hall])]
   simp
  have htr:=fun G=>yW (a.n==0) G
  refine ak.body hU hm Tryz.func200 rfl (by kernel_rfl) 111 rfl [.cell 4 24, .tmp 5] rfl (VZ rfl) (fun hwf=> ?_)
  simp -implicitDefEqProofs only [go_sem,List.map_cons,List.map_nil,aU];intro i1 h1;simp -implicitDefEqProofs only [go_sem];refine (hmy _).pthen ?_;simp -implicitDefEqProofs only [go_sem];refine (hal _).pthen ?_;cases d1:([a].all fun v=>v.kind==1)
  ·simp -implicitDefEqProofs only [go_sem]
   exact .mk _ (.refl _) (.ai h1) ⟨by rw [hc,if_pos d1]; rfl,rfl⟩
  ·simp -implicitDefEqProofs only [go_sem,ix0]
   refine (htr _).pthen ?_;simp -implicitDefEqProofs only [go_sem,aU];exact .mk _ (.refl _) (.ai h1) ⟨by rw [hc,if_neg (by rw [d1]; decide)]; rfl,rfl⟩
 ·have ix0:=fun k=>fj.eq (xs:= [aU a,aU b]) (sz:=3) 0 (by simp) rfl k
  have ix1:=fun k=>fj.eq (xs:= [aU a,aU b]) (sz:=3) 1 (by simp) rfl k
  simp only [List.getElem_cons_zero,List.getElem_cons_succ,aU,Int.natCast_zero,Int.natCast_one] at ix0 ix1;have hal:=fun (G:Heap)=>zw 1 [a,b] (by simp) p G
  have hva:cc a=true∧cc b=true:=by simpa using hall
  have hnu:=fun (g:FuncId) (o:Bool) (n:Int) hg (G:Heap)=>Db g a b o n hg p G
  simp only [List.map_cons,List.map_nil,aU] at hal hmy hnu;have hle:=fun G=>zQ a b G
  simp only [aU] at hle;have htr:=fun (x:Bool) G=>yW x G
  have hc:gv op [a,b]=if op=6 then (if a.kind=b.kind then (iN (eqV a b),0) else mh 2)
    else if op=7 then (match lU a b with
     |some x=>(iN x,0)
     |none=>mh 2)
    else if op=8∨op=9∨op=10 then
     (if [a,b].all fun v=>v.kind==2 then (if op=8 then xC (GC a.n b.n) (a.n+b.n) else if op=9 then xC (IV a.n b.n) (a.n - b.n) else xC (FH a.n b.n) (a.n*b.n)) else mh 2)
    else if ([a,b].all fun v=>v.kind==1)=false then mh 2
    else if op=12 then (iN (a.n==1 && b.n==1),0)
    else (iN (a.n==1||b.n==1),0):=by
   unfold gv;rw [if_neg (by simp [hall,e11,hop.1,hop.2])]
   simp only [e11,if_false];rfl
  refine ak.body hU hm Tryz.func200 rfl (by kernel_rfl) 111 rfl [.cell 4 24, .tmp 5] rfl (VZ rfl) (fun hwf=> ?_)
  simp -implicitDefEqProofs only [go_sem,List.map_cons,List.map_nil,aU];intro i1 h1;simp -implicitDefEqProofs only [go_sem];refine (hmy _).pthen ?_;rcases (show op=6∨op=7∨op=8∨op=9∨op=10∨op=12∨op=13 by omega) with rfl|rfl|rfl|rfl|rfl|rfl|rfl
  ·simp -implicitDefEqProofs only [go_sem]
   refine ⟨.of (by kernel_rfl), ?_⟩
   cases dk:(a.kind !=b.kind)
   case true=>
    simp -implicitDefEqProofs only [go_sem,ix0,ix1,dk];exact .mk _ (.refl _) (.ai h1) ⟨by rw [hc,if_pos rfl,if_neg (by simpa using dk)]; rfl,rfl⟩
   ·simp -implicitDefEqProofs only [go_sem,ix0,ix1,dk]
    refine .calls cN [0,1,2,3,4,5,6,7,8,9] (fun _ _ e=>by cases e) (by kernel_rfl) rfl ?_
    simp -implicitDefEqProofs only [go_sem,ix0,ix1];have htr1:=htr (eqV a b);simp only [eqV] at htr1;refine (htr1 _).pthen ?_;refine ⟨fun _ _ e=>(by cases e), ?_⟩
    simp -implicitDefEqProofs only [go_sem,aU];refine ⟨fun _ _ e=>(by cases e), ?_⟩
    exact .mk _ (.refl _) (.ai h1) ⟨by rw [hc,if_pos rfl,if_pos (by simpa using dk)]; rfl,rfl⟩
  ·have hc7:gv 7 [a,b]=(match lU a b with
     |some x=>(iN x,0)
     |none=>mh 2):=by rw [hc]; rfl
   simp -implicitDefEqProofs only [go_sem];refine .quiet (by kernel_rfl) ?_
   simp -implicitDefEqProofs only [go_sem,ix0,ix1];refine ⟨_,hle _, ?_⟩;cases hl:lU a b with
   |none=>
    have e2:vV a b=2:=by simp [vV,hva]
    rw [hl] at hc7;simp -implicitDefEqProofs only [go_sem,j0,hl,e2];exact .mk _ (.refl _) (.ai h1) ⟨by rw [hc7]; rfl,rfl⟩
   |some x=>
    rw [hl] at hc7;simp -implicitDefEqProofs only [go_sem,j0,hl];refine (htr x _).pthen ?_;simp -implicitDefEqProofs only [go_sem,aU];exact .mk _ (.refl _) (.ai h1) ⟨by rw [hc7]; rfl,rfl⟩
  ·have hc8:gv 8 [a,b]=if [a,b].all (fun v=>v.kind==2) then xC (GC a.n b.n) (a.n+b.n) else mh 2:=by rw [hc]; rfl
   have hg:=hnu 219 _ _ (fun G=>LO a.n b.n G)
   rw [←hc8] at hg;obtain ⟨⟨v,e⟩,ex⟩:∃x,gv 8 [a,b]=x:=⟨_,rfl⟩;rw [ex] at hg;simp -implicitDefEqProofs only [go_sem];refine (hg _).pthen ?_;simp -implicitDefEqProofs only [go_sem,pq,aU];exact .mk _ (.refl _) (.ai h1) ⟨by rw [ex]; rfl,rfl⟩
  ·have hc8:gv 9 [a,b]=if [a,b].all (fun v=>v.kind==2) then xC (IV a.n b.n) (a.n - b.n) else mh 2:=by rw [hc]; rfl
   have hg:=hnu 220 _ _ (fun G=>MW a.n b.n G)
   rw [←hc8] at hg;obtain ⟨⟨v,e⟩,ex⟩:∃x,gv 9 [a,b]=x:=⟨_,rfl⟩;rw [ex] at hg;simp -implicitDefEqProofs only [go_sem];refine (hg _).pthen ?_;simp -implicitDefEqProofs only [go_sem,pq,aU];exact .mk _ (.refl _) (.ai h1) ⟨by rw [ex]; rfl,rfl⟩
  ·have hc8:gv 10 [a,b]=if [a,b].all (fun v=>v.kind==2) then xC (FH a.n b.n) (a.n*b.n) else mh 2:=by rw [hc]; rfl
   have hg:=hnu 221 _ _ (fun G=>Mz a.n b.n G)
   rw [←hc8] at hg;obtain ⟨⟨v,e⟩,ex⟩:∃x,gv 10 [a,b]=x:=⟨_,rfl⟩;rw [ex] at hg;simp -implicitDefEqProofs only [go_sem];refine (hg _).pthen ?_;simp -implicitDefEqProofs only [go_sem,pq,aU];exact .mk _ (.refl _) (.ai h1) ⟨by rw [ex]; rfl,rfl⟩
  ·have hc12:gv 12 [a,b]=if ([a,b].all fun v=>v.kind==1)=false then mh 2 else (iN (a.n==1 && b.n==1),0):=by rw [hc]; rfl
   simp -implicitDefEqProofs only [go_sem];refine (hal _).pthen ?_;cases d1:([a,b].all fun v=>v.kind==1)
   ·simp -implicitDefEqProofs only [go_sem]
    exact .mk _ (.refl _) (.ai h1) ⟨by rw [hc12,if_pos d1]; rfl,rfl⟩
   ·rw [if_neg (by rw [d1]; decide)] at hc12
    cases da:(a.n==1)<;>cases db:(b.n==1)
    all_goals
     rw [da,db] at hc12;simp -implicitDefEqProofs only [go_sem,ix0,ix1,da,db];refine (htr _ _).pthen ?_;simp -implicitDefEqProofs only [go_sem,aU];exact .mk _ (.refl _) (.ai h1) ⟨by rw [hc12]; rfl,rfl⟩
  ·have hc13:gv 13 [a,b]=if ([a,b].all fun v=>v.kind==1)=false then mh 2 else (iN (a.n==1||b.n==1),0):=by rw [hc]; rfl
   simp -implicitDefEqProofs only [go_sem];refine (hal _).pthen ?_;cases d1:([a,b].all fun v=>v.kind==1)
   ·simp -implicitDefEqProofs only [go_sem]
    exact .mk _ (.refl _) (.ai h1) ⟨by rw [hc13,if_pos d1]; rfl,rfl⟩
   ·rw [if_neg (by rw [d1]; decide)] at hc13
    cases da:(a.n==1)<;>cases db:(b.n==1)
    all_goals
     rw [da,db] at hc13;simp -implicitDefEqProofs only [go_sem,ix0,ix1,da,db];refine (htr _ _).pthen ?_;simp -implicitDefEqProofs only [go_sem,aU];exact .mk _ (.refl _) (.ai h1) ⟨by rw [hc13]; rfl,rfl⟩
end Go.Proofs.YtnlbeamjpefpfaaGreatDoor
namespace Go.Bf
open Go Go.Ab Go.Proofs.YtnlbeamjpefpfaaGreatDoor
def bL (x:iQ):AV:= .agg [.sl (x.bag.map aU) .no, .v (.int .i64 x.v.kind), .v (.int .i64 x.v.n), .s x.v.s, .v (.int .i64 x.e)]
end Go.Bf
namespace Go.Proofs.YtnlbeamjpefpfaaGreatDoor
open Go Go.Ab Go.Bf
theorem Mn (x:iQ) (n:Int) (h:Heap):ak Tryz.prog 150 [bL x, .v (.int .i64 n)] h fun r h' =>r= .v (.bool (isI x n))∧h' =h:=by
 refine ak.body hU hm Tryz.func150 rfl (by kernel_rfl) 15 rfl [.tmp 4] rfl (VZ rfl) (fun hwf=> ?_)
 simp only [go_sem,bL];intro i1 h1;cases d1:(x.e==0)
 ·simp only [go_sem,d1]
  exact .mk _ (.refl _) (.ai h1) ⟨by simp only [isI,d1,Bool.false_and]; rfl,rfl⟩
 ·simp only [go_sem,d1]
  exact .mk _ (.refl _) (.ai h1) ⟨by simp only [isI,d1,Bool.true_and,eqV]; rfl,rfl⟩
theorem JU (x:iQ) (n:Int) (h:Heap):ak Tryz.prog 150 [.agg [.sl [] .full, .v (.int .i64 x.v.kind), .v (.int .i64 x.v.n), .s x.v.s, .v (.int .i64 x.e)], .v (.int .i64 n)] h fun r h' =>r= .v (.bool (isI x n))∧h' =h:=by
 refine ak.body hU hm Tryz.func150 rfl (by kernel_rfl) 15 rfl [.tmp 4] rfl (VZ rfl) (fun hwf=> ?_)
 simp only [go_sem];intro i1 h1;cases d1:(x.e==0)
 ·simp only [go_sem,d1]
  exact .mk _ (.refl _) (.ai h1) ⟨by simp only [isI,d1,Bool.false_and]; rfl,rfl⟩
 ·simp only [go_sem,d1]
  exact .mk _ (.refl _) (.ai h1) ⟨by simp only [isI,d1,Bool.true_and,eqV]; rfl,rfl⟩
theorem tf (b:Bool) (h:Heap):ak Tryz.prog 198 [.v (.bool b)] h fun r h' =>r=bL (ig b)∧h' =h:=by
 refine ak.body hU hm Tryz.func198 rfl (by kernel_rfl) 10 rfl [.cell 2 234] rfl (VZ rfl) (fun hwf=> ?_)
 simp only [go_sem];intro i1 h1;simp only [go_sem];intro i2 h2;have n21:=aH h2;have n2:=aD h2;cases b
 all_goals
  simp only [go_sem,aj,n21.symm];refine .mk (bL (ig _)) ?_ ((((Sub.refl h).put h1 _).put n2 _).put h1 _) ⟨rfl,rfl⟩;refine .agg _ _ rfl fun i a b=> ?_
  rcases i with _|_|_|_|_|i
  ·exact .sl _ _
  all_goals first|exact .refl _|(simp at a; omega)
theorem CG (op:Int) (h:Heap):ak Tryz.prog 174 [.v (.int .i64 op)] h fun r h' =>r= .v (.int .i64 (opsOf op:Nat))∧h' =h:=by
 refine ak.body hU hm Tryz.func174 rfl (by kernel_rfl) 11 rfl [.tmp 2] rfl (VZ rfl) (fun hwf=> ?_)
 cases d1:(op==1)
 case true=>simp only [go_sem,d1]; exact .same (.refl _) ⟨by rw [opsOf,if_pos (.inl (by simpa using d1))]; rfl,rfl⟩
 cases d2:(op==2)
 case true=>simp only [go_sem,d1,d2]; exact .same (.refl _) ⟨by rw [opsOf,if_pos (.inr (by simpa using d2))]; rfl,rfl⟩
 have e1:¬(op=1∨op=2):=by simp only [beq_eq_false_iff_ne] at d1 d2; omega
 cases d3:(op==3)
 case true=>simp only [go_sem,d1,d2,d3]; exact .same (.refl _) ⟨by rw [opsOf,if_neg e1,if_pos (.inl (by simpa using d3))]; rfl,rfl⟩
 cases d4:(op==4)
 case true=>simp only [go_sem,d1,d2,d3,d4]; exact .same (.refl _) ⟨by rw [opsOf,if_neg e1,if_pos (.inr (.inl (by simpa using d4)))]; rfl,rfl⟩
 cases d5:(op==11)
 case true=>simp only [go_sem,d1,d2,d3,d4,d5]; exact .same (.refl _) ⟨by rw [opsOf,if_neg e1,if_pos (.inr (.inr (by simpa using d5)))]; rfl,rfl⟩
 have e2:¬(op=3∨op=4∨op=11):=by simp only [beq_eq_false_iff_ne] at d3 d4 d5; omega
 simp only [go_sem,d1,d2,d3,d4,d5];exact .same (.refl _) ⟨by rw [opsOf,if_neg e1,if_neg e2]; rfl,rfl⟩
theorem CZ (vs:List bX) (hl:vs.length≤1000000000) (x:bX) (p:Perm) (h:Heap):
  ak Tryz.prog 228 [.sl (vs.map aU) p,aU x] h fun r h' =>r= .v (.int .i64 (ixD (fun y=>eqV x y) vs))∧h' =h:=by
 refine ak.body hU hm Tryz.func228 rfl (by kernel_rfl) 19 rfl [.tmp 4] rfl (VZ rfl) (fun hwf=> ?_)
 simp only [go_sem,aU];intro i1 h1;simp only [go_sem,V0];refine .intro (fun m ρ G=>G=upd h i1 (some (.obj [.v (.int .i64 x.kind), .v (.int .i64 x.n), .s x.s] 24))∧∃i:Nat,i≤vs.length∧m=vs.length - i∧(∀j (hj:j<i) (h2:j<vs.length),eqV x vs[j]=false)∧lk ρ 0=some (.sl (vs.map aU) p)∧lk ρ 3=some (.ptr i1 0)∧lk ρ 7=some (.v (.int .i64 vs.length))∧lk ρ 8=some (.v (.int .i64 i))) vs.length ?_ ?_
 ·refine ⟨rfl,0,by omega,rfl,fun j hj=>(by omega), ?_, ?_, ?_, ?_⟩<;>simp only [go_sem]
 ·rintro m ρ G ⟨rfl,i,hi,rfl,hc,r0,r3,r7,r8⟩
  simp only [go_sem,r7,r8];refine .intro (fun e=> ?_) (fun e=> ?_)
  ·have hlt:i<vs.length:=V7 e
   have w1:=V6 i (by omega)
   have ix:=fun k=>fj.eq (xs:=vs.map aU) (sz:=3) i (by simpa using hlt) (by rw [V1]; rfl) k
   rw [V1] at ix;have hci:=fun (d:eqV x vs[i]=false)=>(fun j (hj:j<i+1) (h2:j<vs.length)=>(by
    by_cases hji:j=i
    ·subst hji; exact d
    ·exact hc j (by omega) h2:eqV x vs[j]=false))
   have hat:=fun (d:eqV x vs[i]=true)=>mo (q:=fun y=>eqV x y) hlt d fun j hj=>hc j hj (by omega)
   obtain ⟨v,ev⟩:∃v,vs[i]=v:=⟨_,rfl⟩;rw [ev] at ix hci hat;simp only [aU] at ix;simp only [go_sem,r0,r3,r8];refine ⟨.of (by kernel_rfl), ?_⟩
   cases d1:eqV x v
   ·have d2:=d1
    simp only [eqV] at d2;simp only [go_sem,r8,ix,d2,w1];refine ⟨_, ?_,rfl,i+1,by omega,rfl,hci d1, ?_, ?_, ?_, ?_⟩
    ·omega
    all_goals simp only [go_sem,r0,r3,r7]
   ·have d2:=d1
    simp only [eqV] at d2;simp only [go_sem,ix,d2];exact .mk _ (.refl _) (.ai h1) ⟨by rw [hat d1]; rfl,rfl⟩
  ·have hge:i=vs.length:=by have:=V3 e; omega
   simp only [go_sem];exact .mk _ (.refl _) (.ai h1) ⟨by rw [iD fun j hj=>hc j (by omega) hj]; rfl,rfl⟩
theorem Jz {vs:List bX} {x:bX}:decide ((0:Int)≤ixD (fun y=>eqV x y) vs)=vs.any fun v=>eqV v x:=by
 have hsy:(fun v=>eqV v x)=fun v=>eqV x v:=funext fun v=>by simp only [eqV,BEq.comm]
 rw [sv,hsy]
theorem Kx (vs:List bX) (hl:vs.length≤1000000000) (x:bX) (p:Perm) (h:Heap):ak Tryz.prog 199 [.sl (vs.map aU) p,aU x] h fun r h' =>r= .v (.bool (vs.any fun v=>eqV v x))∧h' =h:=by
 have h1:∀G,ak Tryz.prog 215 [.sl (vs.map aU) p,aU x] G fun r h' =>r= .v (.bool (vs.any fun v=>eqV v x))∧h' =G:=fun G=>by
  have hq:=fun K=>CZ vs hl x p K
  simp only [aU] at hq;refine ak.body hU hm Tryz.func215 rfl (by kernel_rfl) 9 rfl [.tmp 4] rfl (VZ rfl) (fun hwf=> ?_)
  simp only [go_sem,aU];intro i1 h1;simp only [go_sem];refine (hq _).pthen ?_;simp only [go_sem,Jz];exact .mk _ (.refl _) (.ai h1) ⟨rfl,rfl⟩
 simp only [aU] at h1;refine ak.body hU hm Tryz.func199 rfl (by kernel_rfl) 8 rfl [.tmp 4] rfl (VZ rfl) (fun hwf=> ?_)
 simp only [go_sem,aU];intro i1 h1';simp only [go_sem];refine (h1 _).pthen ?_;simp only [go_sem];exact .mk _ (.refl _) (.ai h1') ⟨rfl,rfl⟩
theorem jZ {L:List AV} {x:iQ} (hL:L=x.bag.map aU) (q:Perm):Weak (.agg [.sl L q, .v (.int .i64 x.v.kind), .v (.int .i64 x.v.n), .s x.v.s, .v (.int .i64 x.e)]) (bL x):=by
 subst hL;refine .agg _ _ rfl fun i a b=> ?_
 rcases i with _|_|_|_|_|i
 ·exact .sl _ _
 all_goals first|exact .refl _|(simp at a; omega)
theorem rI (op:Int):opsOf op≤2:=by
 unfold opsOf
 repeat' split
 all_goals omega
theorem sQ {gs:List bk} {op:Int} {val:bX} {attr:nU} {l:List iQ} {x:iQ} (h1:op≠1) (h2:op≠2) (hno:¬((op=12∨op=13)∧(l.any fun x=>isI x (op - 12))=true)) (hx:l.find? (fun x=>x.e !=0)=some x):j4 gs ⟨op,val,attr⟩ l=⟨[],ay,x.e⟩:=by
 unfold j4;simp only [if_neg h1,if_neg h2,if_neg hno,hx]
theorem sP {gs:List bk} {op:Int} {val:bX} {attr:nU} {l:List iQ} (h1:op≠1) (h2:op≠2) (hno:¬((op=12∨op=13)∧(l.any fun x=>isI x (op - 12))=true)) (hx:l.find? (fun x=>x.e !=0)=none):j4 gs ⟨op,val,attr⟩ l=(if op=3 then (match (l.headD ⟨[],ay,0⟩).bag with
    | [v]=>⟨[],v,0⟩
    |_=>⟨[],ay,4⟩)
   else if op=4 then ⟨[],⟨2,(l.headD ⟨[],ay,0⟩).bag.length,[]⟩,0⟩
   else if op=5 then ig ((l.headD ⟨[],ay,0⟩).bag.any fun v=>eqV v (l.getD 1 ⟨[],ay,0⟩).v)
   else Go.Bf.xN (gv op (l.map (·.v)))):=by
 unfold j4;simp only [if_neg h1,if_neg h2,if_neg hno,hx]
 all_goals rfl
set_option maxRecDepth 100000 in
theorem Ka {h:Heap} {y:AV} (n:aO) (hop:1≤n.op∧n.op≤13) (l:List iQ) (hb:Rd h 5 y (l.map bL)) (hl:l.length=opsOf n.op) (hbag:∀x∈l,x.bag.length≤1000000) (gs:List bk) (hf:pT gs):
  ak Tryz.prog 175 [cZ n,y,bB gs] h fun r h' =>r=bL (j4 gs n l)∧h' =h:=by
 obtain ⟨op,val,attr⟩:=n;simp only at hop hl;have hl2:l.length≤2:=by rw [hl]; exact rI op
 have uV:(U 24).sz=3:=by simp only [go_sem]
 have hg:=fun G=>D3 gs attr.cat attr.name attr.must (by have:=hf.1; omega) hf.2 G
 simp only [bB] at hg;refine ak.body hU hm Tryz.func175 rfl (by kernel_rfl) 122 rfl [.cell 6 234] rfl (VZ rfl) (fun hwf=> ?_)
 simp only [go_sem,cZ,bB];intro i3 h3;simp only [go_sem];intro i6 h6;have n63:=aH h6;have n6' :=aD h6;obtain ⟨H0,eH⟩:∃H0,upd (upd h i3 (some (.obj [.v (.int .i64 op), .v (.int .i64 val.kind), .v (.int .i64 val.n), .s val.s, .v (.int .i64 attr.cat), .s attr.name, .v (.bool attr.must)] 226))) i6 (some (.obj [.sl [] .full, .v (.int .i64 0), .v (.int .i64 0), .s [], .v (.int .i64 0)] 234))=H0:=⟨_,rfl⟩;have hH0:Ab.Sub h H0:=by rw [←eH]; exact ((Sub.refl h).put h3 _).put n6' _
 have g3:H0 i3=some (.obj [.v (.int .i64 op), .v (.int .i64 val.kind), .v (.int .i64 val.n), .s val.s, .v (.int .i64 attr.cat), .s attr.name, .v (.bool attr.must)] 226):=by rw [←eH,ag _ _ n63.symm,ah]
 have g6:H0 i6=some (.obj [.sl [] .full, .v (.int .i64 0), .v (.int .i64 0), .s [], .v (.int .i64 0)] 234):=by rw [←eH,ah]
 rw [eH];clear eH;cases d1:(op==1)
 case true=>
  have e1:op=1:=by simpa using d1
  simp only [go_sem,d1,g3,g6];exact .mk (bL ⟨[],val,0⟩) (jZ (x:=⟨[],val,0⟩) rfl _) (hH0.put n6' _) ⟨by unfold j4; simp only [e1,if_true],rfl⟩
 have hp1' :op≠1:=by simpa using d1
 cases d2:(op==2)
 case true=>
  have e2:op=2:=by simpa using d2
  simp only [go_sem,d1,d2,g3];refine (hg _).pthen ?_
  by_cases hh:vi gs attr= []∧attr.must=true
  ·have hh2:Go.Bf.getD gs attr.cat attr.name= []∧attr.must=true:=hh
   simp only [go_sem,Ff,if_pos hh2,g6];exact .mk (bL ⟨[],ay,4⟩) (jZ (x:=⟨[],ay,4⟩) rfl _) (hH0.put n6' _) ⟨by unfold j4; simp only [e2,if_neg (show¬(2:Int)=1 by decide),if_true,if_pos hh],rfl⟩
  ·have hh2:¬(Go.Bf.getD gs attr.cat attr.name= []∧attr.must=true):=hh
   simp only [go_sem,Ff,if_neg hh2,g6];exact .mk (bL ⟨vi gs attr,ay,0⟩) (jZ (x:=⟨vi gs attr,ay,0⟩) rfl _) (hH0.put n6' _) ⟨by unfold j4; simp only [e2,if_neg (show¬(2:Int)=1 by decide),if_true,if_neg hh],rfl⟩
 have hp2' :op≠2:=by simpa using d2
 have his:=fun (x:iQ) (m:Int) (G:Heap)=>Mn x m G
 simp only [bL] at his;cases d12:(op==12)
 case true=>
  have e12:op=12:=by simpa using d12
  have htr:=fun G=>tf false G
  simp only [bL] at htr;obtain ⟨a,b,hab⟩:∃a b,l= [a,b]:=uS (by rw [hl,e12]; rfl)
  have wk:IntKind.i64.wrap (op - 12)=0:=by rw [e12]; rfl
  have han:(l.any fun x=>isI x (op - 12))=(isI a 0||isI b 0):=by rw [hab,e12]; simp
  have hb0:l.map bL= [bL a,bL b]:=by rw [hab]; rfl
  have q3:(op==3)=false:=by rw [e12]; rfl
  have q4:(op==4)=false:=by rw [e12]; rfl
  have q5:(op==5)=false:=by rw [e12]; rfl
  have hbH:=hb.sub hH0;simp only [go_sem,d2,d1,d12,g3,wk];refine hbH.idx (e:=234) 0 rfl (by rw [hb0]; simp) (by simp only [go_sem]) (by decide) fun p hp1=> ?_
  have hld:=hp1.all (U:=U) (ty:=234) (by simp only [go_sem]) (by simp only [go_sem,hb0,List.getElem_cons_zero]; rfl) (by simp only [go_sem,hb0,List.getElem_cons_zero]; rfl)
  simp only [go_sem,hld,hb0,List.getElem_cons_zero,bL];refine (his a 0 _).pthen ?_;cases da:isI a 0
  ·simp only [go_sem]
   refine hbH.idx (e:=234) 1 rfl (by rw [hb0]; simp) (by simp only [go_sem]) (by decide) fun p hp1=> ?_
   have hld:=hp1.all (U:=U) (ty:=234) (by simp only [go_sem]) (by simp only [go_sem,hb0,List.getElem_cons_succ,List.getElem_cons_zero]; rfl) (by simp only [go_sem,hb0,List.getElem_cons_succ,List.getElem_cons_zero]; rfl)
   simp only [go_sem,hld,hb0,List.getElem_cons_succ,List.getElem_cons_zero,bL];refine (his b 0 _).pthen ?_;cases db:isI b 0
   ·have hno:¬((op=12∨op=13)∧(l.any fun x=>isI x (op - 12))=true):=by rw [han,da,db]; simp
    simp only [go_sem,hb.len,V0];refine .intro (fun m ρ H=>∃(i:Nat) (z:AV),Acc U 24 H0 H z ((l.take i).map fun x=>aU x.v)∧i≤l.length∧m=l.length - i∧(∀j (h1:j<l.length),j<i→l[j].e=0)∧lk ρ 1=some y∧lk ρ 3=some (.ptr i3 0)∧lk ρ 6=some (.ptr i6 0)∧lk ρ 10=some z∧lk ρ 55=some y∧lk ρ 56=some (.v (.int .i64 l.length))∧lk ρ 57=some (.v (.int .i64 i))) l.length ?_ ?_
    ·refine ⟨0, .sl [] .full, .full (.refl _),by omega,rfl,fun j _ hj=>(by omega), ?_, ?_, ?_, ?_, ?_, ?_, ?_⟩<;>simp only [go_sem]
    ·rintro m ρ H ⟨i,z,hz,hi,rfl,hc,r1,r3,r6,r10,r55,r56,r57⟩
     have hsH:=hH0.trans hz.1;have hbH:=hb.sub hsH;have k3:=hz.1 _ _ g3;have k6:=hz.1 _ _ g6;simp only [go_sem,r56,r57];refine .intro (fun e=> ?_) (fun e=> ?_)
     ·have hlt:i<l.length:=V7 e
      have w1:=V6 i (by omega)
      have hsn:(l.take (i+1)).map (fun x=>aU x.v)=(l.take i).map (fun x=>aU x.v)++ [aU l[i].v]:=by rw [List.take_succ_eq_append_getElem hlt,List.map_append]; rfl
      simp only [go_sem,r55,r57];refine hbH.idx (e:=234) i rfl (by simpa using hlt) (by simp only [go_sem]) (by decide) fun p hp1=> ?_
      have hld:=hp1.all (U:=U) (ty:=234) (by simp only [go_sem]) (by simp only [go_sem]; rw [V1]; rfl) (by simp only [go_sem]; rw [V1]; rfl)
      obtain ⟨x,ex⟩:∃x,l[i]=x:=⟨_,rfl⟩;rw [ex] at hsn;simp only [go_sem,hld,V1,ex,bL];intro i12 h12;have n126:i12≠i6:=fun e=>by rw [e,k6] at h12; cases h12
      cases dx:(x.e !=0)
      ·have dx' :x.e=0:=by simpa using dx
       simp only [go_sem,r10,dx];refine (hz.sub (.ai h12)).app (zs:= [aU x.v]) (by simp only [go_sem,ne_eq,not_false_eq_true]) (by simp only [go_sem,ne_eq,not_false_eq_true]) (fun k hk=>hk) (by rw [uV]; intro z hz; obtain ⟨w,_,rfl⟩:=List.mem_map.1 hz; rfl) (by rw [uV]; intro z hz; rw [List.mem_singleton.1 hz]; rfl) (by simp only [go_sem,V0,List.length_take,List.length_cons,List.length_nil]; omega) fun z' H' hz' kp=> ?_
       simp only [go_sem,r57,w1];refine ⟨_, ?_,i+1,z',by rw [hsn]; exact hz',by omega,rfl,fun j h1 hj=> ?_, ?_, ?_, ?_, ?_, ?_, ?_, ?_⟩
       ·omega
       ·by_cases hji:j=i
        ·subst hji; rw [ex]; exact dx'
        ·exact hc j h1 (by omega)
       all_goals simp only [go_sem,r1,r3,r6,r55,r56]
      ·have hfi:l.find? (fun x=>x.e !=0)=some x:=by rw [←ex]; exact List.find?_eq_some_iff_getElem.2 ⟨by rw [ex]; exact dx,i,hlt,rfl,fun j hj=>by rw [hc j (by omega) hj]; rfl⟩
       simp only [go_sem,r6,dx,aj,n126.symm,k6];exact .mk (bL ⟨[],ay,x.e⟩) (jZ (x:=⟨[],ay,x.e⟩) rfl _) ((hsH.trans (.ai h12)).put n6' _) ⟨by rw [sQ hp1' hp2' hno hfi]<;>rfl,rfl⟩
     ·have hge:i=l.length:=by have:=V3 e; omega
      subst hge;have hfi:l.find? (fun x=>x.e !=0)=none:=List.find?_eq_none.2 fun x hx=>by
       obtain ⟨j,hj,rfl⟩:=List.mem_iff_getElem.1 hx;rw [hc j hj hj]; decide
      have hnd:=sP (gs:=gs) (val:=val) (attr:=attr) hp1' hp2' hno hfi;rw [List.take_length] at hz;obtain ⟨qz,eqz⟩:=hz.row;subst eqz;have hcl:=fun G=>zz op (l.map (·.v)) (by rw [V0,hl]; have:=rI op; omega) qz G
      rw [List.map_map] at hcl;have hcl:∀G,ak Tryz.prog 200 [.v (.int .i64 op), .sl (l.map fun x=>aU x.v) qz] G fun r h' =>r=pq (gv op (l.map (·.v)))∧h' =G:=hcl
      obtain ⟨⟨v,e⟩,ev⟩:∃x,gv op (l.map (·.v))=x:=⟨_,rfl⟩
      rw [ev] at hcl;simp only [go_sem,r3,r10,k3,q3,q4,q5];refine (hcl _).pthen ?_;simp only [go_sem,pq,aU];intro i13 h13;have n136:i13≠i6:=fun e=>by rw [e,k6] at h13; cases h13
      simp only [go_sem,r6,aj,n136.symm,k6];exact .mk (bL ⟨[],v,e⟩) (jZ (x:=⟨[],v,e⟩) rfl _) ((hsH.trans (.ai h13)).put n6' _) ⟨by rw [hnd]; simp only [if_neg (show¬op=3 by omega),if_neg (show¬op=4 by omega),if_neg (show¬op=5 by omega)]; rw [ev]<;>rfl,rfl⟩
   ·simp only [go_sem]
    refine (htr _).pthen ?_;simp only [go_sem,g6];exact .mk (bL (ig false)) (jZ (x:=(ig false)) rfl _) (hH0.put n6' _) ⟨by unfold j4; rw [han,da,db]; simp [e12]<;>rfl,rfl⟩
  ·simp only [go_sem]
   refine (htr _).pthen ?_;simp only [go_sem,g6];exact .mk (bL (ig false)) (jZ (x:=(ig false)) rfl _) (hH0.put n6' _) ⟨by unfold j4; rw [han,da]; simp [e12]<;>rfl,rfl⟩
 have hn12:op≠12:=by simpa using d12
 cases d13:(op==13)
 case true=>
  have e12:op=13:=by simpa using d13
  have htr:=fun G=>tf true G
  simp only [bL] at htr;obtain ⟨a,b,hab⟩:∃a b,l= [a,b]:=uS (by rw [hl,e12]; rfl)
  have wk:IntKind.i64.wrap (op - 12)=1:=by rw [e12]; rfl
  have han:(l.any fun x=>isI x (op - 12))=(isI a 1||isI b 1):=by rw [hab,e12]; simp
  have hb0:l.map bL= [bL a,bL b]:=by rw [hab]; rfl
  have q3:(op==3)=false:=by rw [e12]; rfl
  have q4:(op==4)=false:=by rw [e12]; rfl
  have q5:(op==5)=false:=by rw [e12]; rfl
  have hbH:=hb.sub hH0;simp only [go_sem,d1,d2,d12,d13,g3,wk];refine hbH.idx (e:=234) 0 rfl (by rw [hb0]; simp) (by simp only [go_sem]) (by decide) fun p hp1=> ?_
  have hld:=hp1.all (U:=U) (ty:=234) (by simp only [go_sem]) (by simp only [go_sem,hb0,List.getElem_cons_zero]; rfl) (by simp only [go_sem,hb0,List.getElem_cons_zero]; rfl)
  simp only [go_sem,hld,hb0,List.getElem_cons_zero,bL];refine (his a 1 _).pthen ?_;cases da:isI a 1
  ·simp only [go_sem]
   refine hbH.idx (e:=234) 1 rfl (by rw [hb0]; simp) (by simp only [go_sem]) (by decide) fun p hp1=> ?_
   have hld:=hp1.all (U:=U) (ty:=234) (by simp only [go_sem]) (by simp only [go_sem,hb0,List.getElem_cons_succ,List.getElem_cons_zero]; rfl) (by simp only [go_sem,hb0,List.getElem_cons_succ,List.getElem_cons_zero]; rfl)
   simp only [go_sem,hld,hb0,List.getElem_cons_succ,List.getElem_cons_zero,bL];refine (his b 1 _).pthen ?_;cases db:isI b 1
   ·have hno:¬((op=12∨op=13)∧(l.any fun x=>isI x (op - 12))=true):=by rw [han,da,db]; simp
    simp only [go_sem,hb.len,V0];refine .intro (fun m ρ H=>∃(i:Nat) (z:AV),Acc U 24 H0 H z ((l.take i).map fun x=>aU x.v)∧i≤l.length∧m=l.length - i∧(∀j (h1:j<l.length),j<i→l[j].e=0)∧lk ρ 1=some y∧lk ρ 3=some (.ptr i3 0)∧lk ρ 6=some (.ptr i6 0)∧lk ρ 10=some z∧lk ρ 55=some y∧lk ρ 56=some (.v (.int .i64 l.length))∧lk ρ 57=some (.v (.int .i64 i))) l.length ?_ ?_
    ·refine ⟨0, .sl [] .full, .full (.refl _),by omega,rfl,fun j _ hj=>(by omega), ?_, ?_, ?_, ?_, ?_, ?_, ?_⟩<;>simp only [go_sem]
    ·rintro m ρ H ⟨i,z,hz,hi,rfl,hc,r1,r3,r6,r10,r55,r56,r57⟩
     have hsH:=hH0.trans hz.1;have hbH:=hb.sub hsH;have k3:=hz.1 _ _ g3;have k6:=hz.1 _ _ g6;simp only [go_sem,r56,r57];refine .intro (fun e=> ?_) (fun e=> ?_)
     ·have hlt:i<l.length:=V7 e
      have w1:=V6 i (by omega)
      have hsn:(l.take (i+1)).map (fun x=>aU x.v)=(l.take i).map (fun x=>aU x.v)++ [aU l[i].v]:=by rw [List.take_succ_eq_append_getElem hlt,List.map_append]; rfl
      simp only [go_sem,r55,r57];refine hbH.idx (e:=234) i rfl (by simpa using hlt) (by simp only [go_sem]) (by decide) fun p hp1=> ?_
      have hld:=hp1.all (U:=U) (ty:=234) (by simp only [go_sem]) (by simp only [go_sem]; rw [V1]; rfl) (by simp only [go_sem]; rw [V1]; rfl)
      obtain ⟨x,ex⟩:∃x,l[i]=x:=⟨_,rfl⟩;rw [ex] at hsn;simp only [go_sem,hld,V1,ex,bL];intro i12 h12;have n126:i12≠i6:=fun e=>by rw [e,k6] at h12; cases h12
      cases dx:(x.e !=0)
      ·have dx' :x.e=0:=by simpa using dx
       simp only [go_sem,r10,dx];refine (hz.sub (.ai h12)).app (zs:= [aU x.v]) (by simp only [go_sem,ne_eq,not_false_eq_true]) (by simp only [go_sem,ne_eq,not_false_eq_true]) (fun k hk=>hk) (by rw [uV]; intro z hz; obtain ⟨w,_,rfl⟩:=List.mem_map.1 hz; rfl) (by rw [uV]; intro z hz; rw [List.mem_singleton.1 hz]; rfl) (by simp only [go_sem,V0,List.length_take,List.length_cons,List.length_nil]; omega) fun z' H' hz' kp=> ?_
       simp only [go_sem,r57,w1];refine ⟨_, ?_,i+1,z',by rw [hsn]; exact hz',by omega,rfl,fun j h1 hj=> ?_, ?_, ?_, ?_, ?_, ?_, ?_, ?_⟩
       ·omega
       ·by_cases hji:j=i
        ·subst hji; rw [ex]; exact dx'
        ·exact hc j h1 (by omega)
       all_goals simp only [go_sem,r1,r3,r6,r55,r56]
      ·have hfi:l.find? (fun x=>x.e !=0)=some x:=by rw [←ex]; exact List.find?_eq_some_iff_getElem.2 ⟨by rw [ex]; exact dx,i,hlt,rfl,fun j hj=>by rw [hc j (by omega) hj]; rfl⟩
       simp only [go_sem,r6,dx,aj,n126.symm,k6];exact .mk (bL ⟨[],ay,x.e⟩) (jZ (x:=⟨[],ay,x.e⟩) rfl _) ((hsH.trans (.ai h12)).put n6' _) ⟨by rw [sQ hp1' hp2' hno hfi]<;>rfl,rfl⟩
     ·have hge:i=l.length:=by have:=V3 e; omega
      subst hge;have hfi:l.find? (fun x=>x.e !=0)=none:=List.find?_eq_none.2 fun x hx=>by
       obtain ⟨j,hj,rfl⟩:=List.mem_iff_getElem.1 hx;rw [hc j hj hj]; decide
      have hnd:=sP (gs:=gs) (val:=val) (attr:=attr) hp1' hp2' hno hfi;rw [List.take_length] at hz;obtain ⟨qz,eqz⟩:=hz.row;subst eqz;have hcl:=fun G=>zz op (l.map (·.v)) (by rw [V0,hl]; have:=rI op; omega) qz G
      rw [List.map_map] at hcl;have hcl:∀G,ak Tryz.prog 200 [.v (.int .i64 op), .sl (l.map fun x=>aU x.v) qz] G fun r h' =>r=pq (gv op (l.map (·.v)))∧h' =G:=hcl
      obtain ⟨⟨v,e⟩,ev⟩:∃x,gv op (l.map (·.v))=x:=⟨_,rfl⟩
      rw [ev] at hcl;simp only [go_sem,r3,r10,k3,q3,q4,q5];refine (hcl _).pthen ?_;simp only [go_sem,pq,aU];intro i13 h13;have n136:i13≠i6:=fun e=>by rw [e,k6] at h13; cases h13
      simp only [go_sem,r6,aj,n136.symm,k6];exact .mk (bL ⟨[],v,e⟩) (jZ (x:=⟨[],v,e⟩) rfl _) ((hsH.trans (.ai h13)).put n6' _) ⟨by rw [hnd]; simp only [if_neg (show¬op=3 by omega),if_neg (show¬op=4 by omega),if_neg (show¬op=5 by omega)]; rw [ev]<;>rfl,rfl⟩
   ·simp only [go_sem]
    refine (htr _).pthen ?_;simp only [go_sem,g6];exact .mk (bL (ig true)) (jZ (x:=(ig true)) rfl _) (hH0.put n6' _) ⟨by unfold j4; rw [han,da,db]; simp [e12]<;>rfl,rfl⟩
  ·simp only [go_sem]
   refine (htr _).pthen ?_;simp only [go_sem,g6];exact .mk (bL (ig true)) (jZ (x:=(ig true)) rfl _) (hH0.put n6' _) ⟨by unfold j4; rw [han,da]; simp [e12]<;>rfl,rfl⟩
 have hn13:op≠13:=by simpa using d13
 have hno:¬((op=12∨op=13)∧(l.any fun x=>isI x (op - 12))=true):=fun hh=>hh.1.elim hn12 hn13
 simp only [go_sem,d1,d2,d12,d13,g3,hb.len,V0];refine .intro (fun m ρ H=>∃(i:Nat) (z:AV),Acc U 24 H0 H z ((l.take i).map fun x=>aU x.v)∧i≤l.length∧m=l.length - i∧(∀j (h1:j<l.length),j<i→l[j].e=0)∧lk ρ 1=some y∧lk ρ 3=some (.ptr i3 0)∧lk ρ 6=some (.ptr i6 0)∧lk ρ 10=some z∧lk ρ 55=some y∧lk ρ 56=some (.v (.int .i64 l.length))∧lk ρ 57=some (.v (.int .i64 i))) l.length ?_ ?_
 ·refine ⟨0, .sl [] .full, .full (.refl _),by omega,rfl,fun j _ hj=>(by omega), ?_, ?_, ?_, ?_, ?_, ?_, ?_⟩<;>simp only [go_sem]
 ·rintro m ρ H ⟨i,z,hz,hi,rfl,hc,r1,r3,r6,r10,r55,r56,r57⟩
  have hsH:=hH0.trans hz.1;have hbH:=hb.sub hsH;have k3:=hz.1 _ _ g3;have k6:=hz.1 _ _ g6;simp only [go_sem,r56,r57];refine .intro (fun e=> ?_) (fun e=> ?_)
  ·have hlt:i<l.length:=V7 e
   have w1:=V6 i (by omega)
   have hsn:(l.take (i+1)).map (fun x=>aU x.v)=(l.take i).map (fun x=>aU x.v)++ [aU l[i].v]:=by rw [List.take_succ_eq_append_getElem hlt,List.map_append]; rfl
   simp only [go_sem,r55,r57];refine hbH.idx (e:=234) i rfl (by simpa using hlt) (by simp only [go_sem]) (by decide) fun p hp1=> ?_
   have hld:=hp1.all (U:=U) (ty:=234) (by simp only [go_sem]) (by simp only [go_sem]; rw [V1]; rfl) (by simp only [go_sem]; rw [V1]; rfl)
   obtain ⟨x,ex⟩:∃x,l[i]=x:=⟨_,rfl⟩;rw [ex] at hsn;simp only [go_sem,hld,V1,ex,bL];intro i12 h12;have n126:i12≠i6:=fun e=>by rw [e,k6] at h12; cases h12
   cases dx:(x.e !=0)
   ·have dx' :x.e=0:=by simpa using dx
    simp only [go_sem,r10,dx];refine (hz.sub (.ai h12)).app (zs:= [aU x.v]) (by simp only [go_sem,ne_eq,not_false_eq_true]) (by simp only [go_sem,ne_eq,not_false_eq_true]) (fun k hk=>hk) (by rw [uV]; intro z hz; obtain ⟨w,_,rfl⟩:=List.mem_map.1 hz; rfl) (by rw [uV]; intro z hz; rw [List.mem_singleton.1 hz]; rfl) (by simp only [go_sem,V0,List.length_take,List.length_cons,List.length_nil]; omega) fun z' H' hz' kp=> ?_
    simp only [go_sem,r57,w1];refine ⟨_, ?_,i+1,z',by rw [hsn]; exact hz',by omega,rfl,fun j h1 hj=> ?_, ?_, ?_, ?_, ?_, ?_, ?_, ?_⟩
    ·omega
    ·by_cases hji:j=i
     ·subst hji; rw [ex]; exact dx'
     ·exact hc j h1 (by omega)
    all_goals simp only [go_sem,r1,r3,r6,r55,r56]
   ·have hfi:l.find? (fun x=>x.e !=0)=some x:=by rw [←ex]; exact List.find?_eq_some_iff_getElem.2 ⟨by rw [ex]; exact dx,i,hlt,rfl,fun j hj=>by rw [hc j (by omega) hj]; rfl⟩
    simp only [go_sem,r6,dx,aj,n126.symm,k6];exact .mk (bL ⟨[],ay,x.e⟩) (jZ (x:=⟨[],ay,x.e⟩) rfl _) ((hsH.trans (.ai h12)).put n6' _) ⟨by rw [sQ hp1' hp2' hno hfi]<;>rfl,rfl⟩
  ·have hge:i=l.length:=by have:=V3 e; omega
   subst hge;have hfi:l.find? (fun x=>x.e !=0)=none:=List.find?_eq_none.2 fun x hx=>by
    obtain ⟨j,hj,rfl⟩:=List.mem_iff_getElem.1 hx;rw [hc j hj hj]; decide
   have hnd:=sP (gs:=gs) (val:=val) (attr:=attr) hp1' hp2' hno hfi;rw [List.take_length] at hz;obtain ⟨qz,eqz⟩:=hz.row;subst eqz;have hcl:=fun G=>zz op (l.map (·.v)) (by rw [V0,hl]; have:=rI op; omega) qz G
   rw [List.map_map] at hcl;have hcl:∀G,ak Tryz.prog 200 [.v (.int .i64 op), .sl (l.map fun x=>aU x.v) qz] G fun r h' =>r=pq (gv op (l.map (·.v)))∧h' =G:=hcl
   cases d3:(op==3)
   case true=>
    have e3:op=3:=by simpa using d3
    obtain ⟨a,ha⟩:∃a,l= [a]:=List.length_eq_one_iff.1 (by rw [hl,e3]; rfl)
    have hb0:l.map bL= [bL a]:=by rw [ha]; rfl
    simp only [e3,if_true,ha,List.headD_cons] at hnd;simp only [go_sem,r1,r3,k3,d3];refine hbH.idx (e:=234) 0 rfl (by rw [hb0]; simp) (by simp only [go_sem]) (by decide) fun p hp1=> ?_
    (try simp only [go_sem])
    refine hp1.field (f:=0) (off:=0) (t:=115) rfl (by simp only [go_sem]<;>decide) fun p2 hp2=> ?_
    have hld:=hp2.part (U:=U) (ty:=115) (by simp only [go_sem]<;>decide) (by simp only [go_sem,hb0,List.getElem_cons_zero]; exact VZ rfl)
    simp only [hb0,List.getElem_cons_zero,bL,AV.cells] at hld;cases db:((a.bag.length:Int) !=1)
    ·have hb1:(a.bag.length:Int)=1:=by simpa using db
     obtain ⟨v,hv⟩:=List.length_eq_one_iff.1 (show a.bag.length=1 by omega)
     rw [hv] at hnd hld;have iv:=fun K=>fj.eq (xs:= [aU v]) (sz:=3) 0 (by simp) rfl K
     simp only [List.getElem_cons_zero,aU,Int.natCast_zero] at iv;simp only [go_sem,r1,hld,List.map_cons,List.map_nil,aU];refine hbH.idx (e:=234) 0 rfl (by rw [hb0]; simp) (by simp only [go_sem]) (by decide) fun p hp1=> ?_
     (try simp only [go_sem])
     refine hp1.field (f:=0) (off:=0) (t:=115) rfl (by simp only [go_sem]<;>decide) fun p2 hp2=> ?_
     have hld:=hp2.part (U:=U) (ty:=115) (by simp only [go_sem]<;>decide) (by simp only [go_sem,hb0,List.getElem_cons_zero]; exact VZ rfl)
     simp only [hb0,List.getElem_cons_zero,bL,AV.cells,hv,List.map_cons,List.map_nil,aU] at hld;simp only [go_sem,hld,iv,r6,k6];exact .mk (bL ⟨[],v,0⟩) (jZ (x:=⟨[],v,0⟩) rfl _) (hsH.put n6' _) ⟨by rw [e3,ha,hnd]<;>rfl,rfl⟩
    ·simp only [go_sem,hld,V0,db,r6,k6]
     refine .mk (bL ⟨[],ay,4⟩) (jZ (x:=⟨[],ay,4⟩) rfl _) (hsH.put n6' _) ⟨?_,rfl⟩;rw [e3,ha,hnd]
     congr 1
     split
     ·rename_i v hv; rw [hv] at db; simp at db
     ·rfl
   cases d4:(op==4)
   case true=>
    have e4:op=4:=by simpa using d4
    obtain ⟨a,ha⟩:∃a,l= [a]:=List.length_eq_one_iff.1 (by rw [hl,e4]; rfl)
    have hb0:l.map bL= [bL a]:=by rw [ha]; rfl
    simp only [go_sem,r1,r3,k3,d3,d4];refine hbH.idx (e:=234) 0 rfl (by rw [hb0]; simp) (by simp only [go_sem]) (by decide) fun p hp1=> ?_
    (try simp only [go_sem])
    refine hp1.field (f:=0) (off:=0) (t:=115) rfl (by simp only [go_sem]<;>decide) fun p2 hp2=> ?_
    have hld:=hp2.part (U:=U) (ty:=115) (by simp only [go_sem]<;>decide) (by simp only [go_sem,hb0,List.getElem_cons_zero]; exact VZ rfl)
    simp only [hb0,List.getElem_cons_zero,bL,AV.cells] at hld;simp only [go_sem,hld,V0,r6,k6];exact .mk (bL ⟨[],⟨2,a.bag.length,[]⟩,0⟩) (jZ (x:=⟨[],⟨2,a.bag.length,[]⟩,0⟩) rfl _) (hsH.put n6' _) ⟨by rw [hnd,e4,ha]; rfl,rfl⟩
   cases d5:(op==5)
   case true=>
    have e5:op=5:=by simpa using d5
    obtain ⟨a,b,hab⟩:∃a b,l= [a,b]:=uS (by rw [hl,e5]; rfl)
    have hb0:l.map bL= [bL a,bL b]:=by rw [hab]; rfl
    have hvh:=fun G=>Kx a.bag (by have:=hbag a (by rw [hab]; simp); omega) b.v .no G
    simp only [aU] at hvh;have htr:=fun G=>tf (a.bag.any fun v=>eqV v b.v) G
    simp only [bL] at htr;simp only [go_sem,r3,k3,d3,d4,d5];refine .calls h [0,1,2,3,4,5,6,7,8,9,10] hsH (by kernel_rfl) rfl ?_
    simp only [go_sem,r1];refine hb.idx (e:=234) 0 rfl (by rw [hb0]; simp) (by simp only [go_sem]) (by decide) fun p hp1=> ?_
    simp only [go_sem];refine hp1.field (f:=0) (off:=0) (t:=115) rfl (by simp only [go_sem]<;>decide) fun p2 hp2=> ?_
    have hld:=hp2.part (U:=U) (ty:=115) (by simp only [go_sem]<;>decide) (by simp only [go_sem,hb0,List.getElem_cons_zero]; exact VZ rfl)
    simp only [hb0,List.getElem_cons_zero,bL,AV.cells] at hld;simp only [go_sem,hld,r1];refine hb.idx (e:=234) 1 rfl (by rw [hb0]; simp) (by simp only [go_sem]) (by decide) fun p hp3=> ?_
    simp only [go_sem];refine hp3.field (f:=1) (off:=1) (t:=24) rfl (by simp only [go_sem]<;>decide) fun p4 hp4=> ?_
    have hld4:=hp4.part (U:=U) (ty:=24) (by simp only [go_sem]<;>decide) (by simp only [go_sem,hb0,List.getElem_cons_succ,List.getElem_cons_zero]; exact VZ rfl)
    simp only [hb0,List.getElem_cons_succ,List.getElem_cons_zero,bL,AV.cells] at hld4;simp only [go_sem,hld4];refine (hvh _).pthen ?_;refine ⟨hsH, ?_⟩;simp only [go_sem];refine (htr _).pthen ?_;refine ⟨hsH, ?_⟩;simp only [go_sem,r6,k6];refine ⟨hsH.put n6' _, ?_⟩;exact .mk (bL (ig (a.bag.any fun v=>eqV v b.v))) (jZ (x:=(ig (a.bag.any fun v=>eqV v b.v))) rfl _) (hsH.put n6' _) ⟨by rw [hnd,e5,hab]; rfl,rfl⟩
   obtain ⟨⟨v,e⟩,ev⟩:∃x,gv op (l.map (·.v))=x:=⟨_,rfl⟩
   rw [ev] at hcl;simp only [go_sem,r3,r10,k3,d3,d4,d5];refine (hcl _).pthen ?_;simp only [go_sem,pq,aU];intro i13 h13;have n136:i13≠i6:=fun e=>by rw [e,k6] at h13; cases h13
   simp only [go_sem,r6,aj,n136.symm,k6];exact .mk (bL ⟨[],v,e⟩) (jZ (x:=⟨[],v,e⟩) rfl _) ((hsH.trans (.ai h13)).put n6' _) ⟨by rw [hnd]; simp only [if_neg (show¬op=3 by simpa using d3),if_neg (show¬op=4 by simpa using d4),if_neg (show¬op=5 by simpa using d5)]; rw [ev]<;>rfl,rfl⟩
end Go.Proofs.YtnlbeamjpefpfaaGreatDoor
namespace Go.Bf
open Go Go.Ab Go.Proofs.YtnlbeamjpefpfaaGreatDoor
theorem z6 {t:fP} (h:j9 t=0):Jn t:=by
 obtain ⟨h1,h2⟩:=yU h;refine ⟨by omega,fun x hx=> ?_⟩
 obtain ⟨_,h3,h4⟩:=xW (h2 x hx);exact ⟨by omega,fun l hl=>by have:=(xV (h4 l hl)).2.1; omega⟩
theorem M6.turn {m:aS} (h:M6 m):M6 (B9 m):=by
 unfold M6 sO at h;simp only [List.mem_cons,List.not_mem_nil,or_false] at h;rcases h with rfl|rfl|rfl|rfl|rfl|rfl<;>decide
theorem M6.indet {m:aS} (h:M6 m):M6 (fK m):=by
 unfold M6 sO at h;simp only [List.mem_cons,List.not_mem_nil,or_false] at h;rcases h with rfl|rfl|rfl|rfl|rfl|rfl<;>decide
theorem M6.first {l:List aS} (h:∀m∈l,M6 m):M6 (firstM l):=by
 unfold firstM;cases hf:l.find? fun m=>decide (m≠naM) with
 |none=>decide
 |some m=>exact h m (List.mem_of_find?_eq_some hf)
theorem M6.only:∀(l:List aS) (j:aS),(∀m∈l,M6 m)→M6 j→M6 (mH l j)
 | [],j,_,hj=>hj
 |m::r,j,h,hj=>by
  simp only [mH];split
  ·decide
  ·refine M6.only r _ (fun x hx=>h x (List.mem_cons_of_mem _ hx)) ?_
   split
   ·exact h m (List.mem_cons_self ..)
   ·split
    ·decide
    ·exact hj
theorem DS {alg:Int} {l:List aS} (h:∀m∈l,M6 m):M6 (fR alg l):=by
 unfold fR;split
 ·exact Ej _
 ·split
  ·exact M6.turn (Ej _)
  ·split
   ·exact .first h
   ·split
    ·exact .only _ _ h (by decide)
    ·split
     ·split<;>decide
     ·split
      ·split<;>decide
      ·decide
theorem yd (r:cO) (t c:Nat):M6 (lR r t c).1:=by
 unfold lR;cases r.deny
 all_goals
  simp only [if_true,Bool.false_eq_true,if_false];split
  ·show M6 naM; decide
  ·split
   ·first|(show M6 (fK aM); decide)|(show M6 (fK bV); decide)
   ·first|(show M6 aM; decide)|(show M6 bV; decide)
theorem JW (alg:Int) (obls:List cw) (t:Nat) {parts:List iV} (h:∀x∈parts,M6 x.1):M6 (nN alg obls t parts).1:=by
 have hc:M6 (fR alg (parts.map (·.1))):=DS fun m hm=>by
  obtain ⟨x,hx,rfl⟩:=List.mem_map.1 hm;exact h x hx
 unfold nN;simp only;split
 ·decide
 ·split
  ·exact hc.indet
  ·split
   ·exact hc
   ·exact hc
mutual
theorem uK (gs:List bk):∀p:bG,M6 (dU gs p).1
 | .mk id set alg tgt rules kids obls=>by
  have ih:=AQ gs kids;simp only [dU];split
  ·decide
  ·refine JW alg obls _ fun x hx=> ?_
   rcases List.mem_append.1 hx with hx|hx
   ·obtain ⟨r,_,rfl⟩:=List.mem_map.1 hx
    exact yd _ _ _
   ·exact ih x hx
theorem AQ (gs:List bk):∀l:List bG,∀x∈kC gs l,M6 x.1
 | [],x,hx=>by simp [kC] at hx
 |k::r,x,hx=>by
  have h1:=uK gs k;have h2:=AQ gs r;simp only [kC,List.mem_cons] at hx;rcases hx with rfl|hx
  ·exact h1
  ·exact h2 x hx
end
theorem Ao {gs:List bk} (h:KB gs):pT gs:=⟨by have:=h.len; omega,fun g hg=>by have:=(h.each g hg).2.2.2.1; omega⟩
theorem D0 {α:Type} (B:Nat):∀(L:List (List α)),(∀x∈L,x.length≤B)→L.flatten.length≤L.length*B
 | [],_=>by simp
 |x::L,h=>by
  have h1:=h x (List.mem_cons_self ..);have h2:=D0 B L fun y hy=>h y (List.mem_cons_of_mem _ hy)
  rw [List.flatten_cons,V4,List.length_cons,Nat.add_mul];omega
theorem rO {alg:Int} {m:aS} {parts:List iV} {B:Nat} (hp:∀x∈parts,x.2.length≤B) (hn:parts.length≤32):(eu alg m parts).length≤32*B+B:=by
 unfold eu;split
 ·cases hf:parts.find? fun x=>x.1==m with
  |none=>simp
  |some x=>have:=hp x (List.mem_of_find?_eq_some hf); simp only [Option.map_some,Option.getD_some]; omega
 ·have h1:=D0 B (((parts.filter fun x=>x.1==m).map (·.2))) fun x hx=>by
   obtain ⟨y,hy,rfl⟩:=List.mem_map.1 hx;exact hp y (List.mem_filter.1 hy).1
  have h2:((parts.filter fun x=>x.1==m).map (·.2)).length≤32:=by
   rw [V0];exact Nat.le_trans (List.length_filter_le _ _) hn
  have:=Nat.mul_le_mul_right B h2;omega
theorem jN (l:List cw) (m:aS):(dY l m).length≤l.length:=List.length_filter_le _ _
theorem yc (r:cO) (t c:Nat):(lR r t c).2.length≤r.obls.length:=by
 unfold lR;cases r.deny
 all_goals
  simp only [if_true,Bool.false_eq_true,if_false];split
  ·simp
  ·split
   ·simp
   ·exact jN _ _
def oB:Nat→Nat
 |0=>8
 |n+1=>8+33*oB n
theorem Pr (n:Nat):8≤oB n:=by
 cases n with
 |zero=>decide
 |succ n=>simp only [oB]; omega
theorem zD (gs:List bk):∀(n d:Nat) (p:bG),d+n=5→lD d p→(dU gs p).2.length≤oB n
 |0,d, .mk id set alg tgt rules kids obls,hd,h=>by simp only [lD] at h; omega
 |n+1,d, .mk id set alg tgt rules kids obls,hd,h=>by
  simp only [lD,oJ] at h;obtain ⟨_,_,_,_,_,_,g2,g3,g4,g5,g6,g7⟩:=h;have hob:=(jG g3).1;have h8:=Pr n;simp only [dU];split
  ·simp
  ·unfold nN
   simp only;split
   ·simp
   ·split
    ·simp
    ·split
     ·simp
     ·have h1:=rO (alg:=alg) (m:=fR alg ((rules.map (gC gs)++kC gs kids).map (·.1))) (parts:=rules.map (gC gs)++kC gs kids) (B:=oB n) (fun x hx=>by
       rcases List.mem_append.1 hx with hx|hx
       ·obtain ⟨r,hr,rfl⟩:=List.mem_map.1 hx
        have:=yc r (lC gs r.tgt) (oh gs r.cond);have:=(jG (g6 r hr).2.2.2).1
        show (lR r (lC gs r.tgt) (oh gs r.cond)).2.length≤_
        omega
       ·rw [q7] at hx
        obtain ⟨k,hk,rfl⟩:=List.mem_map.1 hx;exact zD gs n (d+1) k (by omega) (g7 k hk)) (by rw [V4,V0,q7,V0]; omega)
      have h2:=jN obls (fR alg ((rules.map (gC gs)++kC gs kids).map (·.1)))
      simp only [V4,oB];omega
theorem Hl (gs:List bk) {p:bG} (h:lD 1 p):(dU gs p).2.length≤10000000:=Nat.le_trans (zD gs 4 1 p rfl h) (by decide)
end Go.Bf
