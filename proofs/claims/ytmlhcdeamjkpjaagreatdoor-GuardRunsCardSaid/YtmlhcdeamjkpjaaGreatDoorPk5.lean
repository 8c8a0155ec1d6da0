/- The law GuardRuns: pack 5 of its texts. -/
import Derived.Lib.ItoaLen
import Derived.Test.YtmlhcdeamjkpjaaGreatDoorPk1
import Derived.Test.YtmlhcdeamjkpjaaGreatDoorPk2
import Derived.Test.YtmlhcdeamjkpjaaGreatDoorPk3
import Derived.Test.YtmlhcdeamjkpjaaGreatDoorPk4
set_option linter.unusedSimpArgs false
set_option linter.unusedVariables false
namespace Go.Bf
def Gl:Txt:= [112,111,108,105,99,121,32,111,112,101,110,32,112,101,114,109,105,116,117,110,108,101,115,115,32,123,32,125]
def ji:bB:= .mk gw false 6 [] [] [] []
def wg:an:=⟨0,[],[],[],[],ji,0⟩
end Go.Bf
namespace Go.Proofs.YtmlhcdeamjkpjaaGreatDoor
open Go Go.Ab Go.Bf
theorem Iz {g K:Heap} {S:an} {y1 y2 y3 y4:AV} {tk ver palg:Int} {pid:Txt} {pset:Bool} {ptgt:fE} {prules:List cH} {pkids:List bB} {pobls:List cr} (h1:S.tick=tk) (h2:S.policy= .mk pid pset palg ptgt prules pkids pobls) (h3:S.version=ver)
  (a:Frz g K y1 (je S.cases)) (b:Frz g K y2 (qP S.reviews)) (c:Frz g K y3 (sO S.notices)) (d:Frz g K y4 (di S.roles)):
  Frz g K (.agg [.v (.int .i64 tk),y1,y2,y3,y4, .s pid, .v (.bool pset), .v (.int .i64 palg),aR ptgt, .sl (prules.map aA) .no, .sl (pkids.map aJ) .no,ax pobls, .v (.int .i64 ver)]) (dj S):=by
 have:=rz a b c d;rw [h1,h2,h3,show fl (.mk pid pset palg ptgt prules pkids pobls)= [.s pid, .v (.bool pset), .v (.int .i64 palg),aR ptgt, .sl (prules.map aA) .no, .sl (pkids.map aJ) .no,ax pobls] by simp [fl,aW]] at this
 exact this
theorem E6 {H:Heap} {i j:Nat} {a b:Option Blk} (c:Option Blk) (h:i≠j):upd (upd (upd H i a) j b) i c=upd (upd H i c) j b:=by
 funext k
 by_cases e:k=i
 ·rw [e,ah,ag _ _ h,ah]
 ·rw [ag _ _ e]
  by_cases e2:k=j
  ·rw [e2,ah,ah]
  ·rw [ag _ _ e2,ag _ _ e2,ag _ _ e,ag _ _ e]
theorem Gm:aN Gl=(ji,0,0):=by kernel_rfl
theorem Lf (h:Heap) (he:tq h):ak Tryz.prog 16 [] h fun r h' =>r=dj wg∧h' =h:=
 ak.freeze fun g hg _=>by
 replace he:=he.sub hg;refine ak.body hU hm Tryz.func16 rfl (by kernel_rfl) 11 rfl [.cell 0 36] rfl (Uf rfl) (fun hwf=> ?_)
 simp only [go_sem];intro i1 h1;simp only [go_sem];refine (vl Gl _ (he.sub (.ai h1))).pthen ?_;rw [Gm];simp only [go_sem,iQ,ji,aJ,aR,ax,eS,gw,List.map_nil];intro i2 h2;have n21:=aH h2;have n2:=aE h2;simp only [go_sem,aj,n21.symm];refine .mk _ (.refl _) (.refl _) ⟨?_,dj wg,Iz (S:=wg) rfl rfl rfl j4 j4 j4 j4,rfl⟩;rw [E6 _ n21.symm];exact ((Sub.refl g).put h1 _).put n2 _
theorem oU (s:Txt) (h:Heap):ak Tryz.prog 68 [.s s] h fun r h' =>r=aS (idV s)∧h' =h:=by
 refine ak.body hU hm Tryz.func68 rfl (by kernel_rfl) 5 rfl [.cell 2 42] rfl (Uf rfl) (fun hwf=> ?_)
 simp only [go_sem];intro i1 h1;simp only [go_sem];exact .mk _ (.refl _) (.ai h1) ⟨rfl,rfl⟩
theorem cY (cat:Int) (name:Txt) (xs:List AV) (q:Perm) (h:Heap):ak Tryz.prog 69 [.v (.int .i64 cat), .s name, .sl xs q] h fun r h' =>r= .agg [.v (.int .i64 cat), .s name, .sl xs q]∧h' =h:=by
 refine ak.body hU hm Tryz.func69 rfl (by kernel_rfl) 11 rfl [.cell 6 123] rfl (Uf rfl) (fun hwf=> ?_)
 simp only [go_sem];intro i1 h1;simp only [go_sem];exact .mk _ (.refl _) (.ai h1) ⟨rfl,rfl⟩
theorem Gb {α:Type} (y:AV) (xs:List AV) (ds:List α) (q:α→Bool) (g:FuncId) (cap:List AV) (h:Heap) (hb:Rd h 3 y xs) (hn:xs.length=ds.length) (hl:xs.length≤1000000000) (hx:∀x∈xs,bp x=true)
  (hp:∀i (h1:i<xs.length) (h2:i<ds.length),ak Tryz.prog g (xs[i]::cap) h fun r h' =>r= .v (.bool (q ds[i]))∧h' =h):
  ak Tryz.prog 223 [y, .fn g cap] h fun r h' =>r= .v (.int .i64 (ixD q ds))∧h' =h:=by
 refine ak.body hU hm Tryz.func223 rfl (by kernel_rfl) 19 rfl [.tmp 4] rfl (Uf rfl) (fun hwf=> ?_)
 simp only [go_sem,hb.len];refine .intro (fun m ρ h' =>h' =h∧∃i:Nat,i≤xs.length∧m=xs.length - i∧(∀j (hj:j<i) (h2:j<ds.length),q ds[j]=false)∧lk ρ 0=some y∧lk ρ 1=some (.fn g cap)∧lk ρ 7=some (.v (.int .i64 xs.length))∧lk ρ 8=some (.v (.int .i64 i))) xs.length ?_ ?_
 ·refine ⟨rfl,0,by omega,rfl,fun j hj=>(by omega), ?_, ?_, ?_, ?_⟩<;>simp only [go_sem]
 ·rintro m ρ h' ⟨rfl,i,hi,rfl,hc,r0,r1,r7,r8⟩
  simp only [go_sem,r7,r8];refine .intro (fun e=> ?_) (fun e=> ?_)
  ·have hlt:i<xs.length:=Un e
   have hlt2:i<ds.length:=by omega
   have w1:=Um i (by omega)
   simp only [go_sem,r0,r1,r8];refine hb.idx (e:=96) i rfl hlt (by simp only [go_sem]) (by decide) fun p hp1=> ?_
   have hld:=hp1.all (U:=U) (ty:=96) (by simp only [go_sem]) (by simp only [go_sem]; exact hb.1 _ (Ul hlt)) (by simp only [go_sem]; rw [hx _ (Ul hlt)])
   simp only [go_sem,hld];refine (show ak Tryz.prog g (xs[i]::cap) _ _ from hp i hlt hlt2).pthen ?_
   cases d1:q ds[i]
   ·simp only [go_sem,r8,w1]
    refine ⟨_, ?_,rfl,i+1,by omega,rfl,fun j hj h2=> ?_, ?_, ?_, ?_, ?_⟩
    ·omega
    ·by_cases hji:j=i
     ·subst hji; exact d1
     ·exact hc j (by omega) h2
    all_goals simp only [go_sem,r0,r1,r7]
   ·simp only [go_sem]
    exact .same (.refl _) ⟨by rw [lD hlt2 d1 fun j hj=>hc j hj (by omega)]; rfl,rfl⟩
  ·have hge:i=xs.length:=by have:=Uj e; omega
   simp only [go_sem];exact .same (.refl _) ⟨by rw [gX fun j hj=>hc j (by omega) hj]; rfl,rfl⟩
theorem Hy {h:Heap} (x:tW) {k:Nat} {subj:Txt} (hk:h k=some (.obj [.s subj] 9)):ak Tryz.prog 174 [gG x, .ptr k 0] h fun r h' =>r= .v (.bool (x.actor==subj))∧h' =h:=by
 refine ak.body hU hm Tryz.func174 rfl (by kernel_rfl) 8 rfl [.tmp 3] rfl (Uf rfl) (fun hwf=> ?_)
 simp only [go_sem,gG];intro i1 h1;have n1:k≠i1:=fun e=>by subst e; rw [hk] at h1; cases h1
 simp only [go_sem,aj,n1,hk];exact .mk _ (.refl _) (.ai h1) ⟨rfl,rfl⟩
theorem ri {α:Type} (q:α→Bool) (l:List α):decide ((0:Int)≤ixD q l)=l.any q:=by
 unfold ixD
 by_cases h:l.findIdx q<l.length
 ·rw [if_pos h,decide_eq_true (by omega)]
  exact (List.any_eq_true.2 ⟨_,Ul h,List.findIdx_getElem (w:=h)⟩).symm
 ·rw [if_neg h]
  have e:l.findIdx q=l.length:=by
   have:l.findIdx q≤l.length:=List.findIdx_le_length;omega
  have:=List.findIdx_eq_length.1 e;rw [decide_eq_false (by decide)]
  exact (List.any_eq_false.2 fun x hx=>by rw [this x hx]; decide).symm
theorem Ed (y:AV) (ds:List tW) (q:tW→Bool) (g:FuncId) (cap:List AV) (h:Heap) (hb:Rd h 3 y (ds.map gG)) (hl:ds.length≤1000000000)
  (hp:∀i (h2:i<ds.length),ak Tryz.prog g (gG ds[i]::cap) h fun r h' =>r= .v (.bool (q ds[i]))∧h' =h):
  ak Tryz.prog 173 [y, .fn g cap] h fun r h' =>r= .v (.bool (ds.any q))∧h' =h:=by
 refine ak.body hU hm Tryz.func173 rfl (by kernel_rfl) 9 rfl [.tmp 4] rfl (Uf rfl) (fun hwf=> ?_)
 simp only [go_sem];refine (Gb y _ ds q g cap h hb (by simp) (by simpa using hl) (lY (fun _=>rfl) _) fun i a b=>by rw [Uh]; exact hp i b).pthen ?_
 simp only [go_sem,ri];exact .same (.refl _) ⟨rfl,rfl⟩
theorem Jb {h:Heap} {x:AV} {c:aK} (hb:RdC h x c) (subj:Txt) (hl:c.log.length≤1000000000):ak Tryz.prog 120 [x, .s subj] h fun r h' =>r=aS (qV c.log subj)∧h' =h:=by
 obtain ⟨f,l,rfl,hf,hlg⟩:=hb;refine ak.body hU hm Tryz.func120 rfl (by kernel_rfl) 13 rfl [.cell 4 42] rfl (Uf rfl) (fun hwf=> ?_)
 simp only [go_sem];intro i1 h1;simp only [go_sem];intro i2 h2;have n21:=aH h2;have n2:=aE h2;simp only [go_sem];intro i3 h3;have n32:=aH h3;have h3' :=aE h3;have n31:=aH h3';have n3:=aE h3';simp only [go_sem];intro i4 h4;have n43:=aH h4;have h4' :=aE h4;have n42:=aH h4';have h4'' :=aE h4';have n41:=aH h4'';have n4:=aE h4'';have hs:∀a b d e,Ab.Sub h (upd (upd (upd (upd h i1 a) i2 b) i3 d) i4 e):=fun a b d e=>((((Sub.refl h).put h1 a).put n2 b).put n3 d).put n4 e
 simp only [go_sem,aj,n21.symm,n31.symm,n41.symm];refine (Ed l c.log (fun x=>x.actor==subj) _ [.ptr i2 0] _ (hlg.sub (hs _ _ _ _)) hl fun i b=>Hy _ (by simp only [aj,n42.symm,n32.symm,fC,not_false_eq_true])).pthen ?_
 cases d1:c.log.any fun x=>x.actor==subj
 ·simp only [go_sem,aj,n43.symm]
  exact .mk _ (.refl _) (by repeat' first|exact .refl _|(refine Sub.put ?_ (by assumption) _)) ⟨by simp [qV,d1,aS,au],rfl⟩
 ·simp only [go_sem,aj,n43.symm]
  exact .mk _ (.refl _) (by repeat' first|exact .refl _|(refine Sub.put ?_ (by assumption) _)) ⟨by simp [qV,d1,aS,au],rfl⟩
def uD (g:bf) (q:Perm):AV:= .agg [.v (.int .i64 g.cat), .s g.name, .sl (g.bag.map aS) q]
def GRow (ys:List AV) (gs:List bf):Prop:=ys.length=gs.length∧∀j (h1:j<ys.length) (h2:j<gs.length),∃q,ys[j]=uD gs[j] q
theorem GRow.sized {ys:List AV} {gs:List bf} (h:GRow ys gs):Sized 3 ys:=fun z hz=>by
 obtain ⟨i,hi,rfl⟩:=List.mem_iff_getElem.1 hz;obtain ⟨q,e⟩:=h.2 i hi (by rw [←h.1]; exact hi)
 rw [e]; rfl
theorem GRow.one (g:bf) (q:Perm):GRow [uD g q] [g]:=⟨rfl,fun j h1 h2=>by
 obtain rfl:j=0:=by simpa using h1
 exact ⟨q,rfl⟩⟩
theorem GRow.app {ys zs:List AV} {gs ks:List bf} (h:GRow ys gs) (k:GRow zs ks):GRow (ys++zs) (gs++ks):=⟨by simp [h.1,k.1],fun j h1 h2=>by
 have hl:=h.1
 by_cases e:j<ys.length
 ·rw [List.getElem_append_left e,List.getElem_append_left (by omega)]; exact h.2 j e (by omega)
 ·rw [List.getElem_append_right (by omega),List.getElem_append_right (by omega)]
  simp only [Uk] at h1 h2;obtain ⟨q,e'⟩:=k.2 (j - ys.length) (by omega) (by omega)
  exact ⟨q,by rw [e']; simp only [hl]⟩⟩
theorem GRow.weak {ys:List AV} {gs:List bf} (h:GRow ys gs) (q:Perm):Weak (.sl ys q) (bw gs):=by
 refine .deep _ _ q (by simp [h.1]) (fun k h1 h2=> ?_) fun k h1 h2 j h3 h4=> ?_
 ·obtain ⟨q',e'⟩:=h.2 k h1 (by rw [←h.1]; exact h1)
  rw [e',Uh]; rfl
 ·obtain ⟨q',e'⟩:=h.2 k h1 (by rw [←h.1]; exact h1)
  simp only [e',Uh];simp only [e',uD,AV.cells] at h3;simp only [uD,jh,AV.cells];rcases j with _|_|_|j
  ·exact .refl _
  ·exact .refl _
  ·exact .sl _ _
  ·simp at h3; omega
theorem GRow.givs (gs:List bf):GRow (gs.map jh) gs:=⟨by simp,fun j h1 h2=>⟨.no,by rw [Uh]; rfl⟩⟩
theorem bS:(U 123).sz=3:=by simp only [go_sem]
theorem fe (g:bf) (q:Perm):Sized 3 [uD g q]:=fun z hz=>by rw [List.mem_singleton.1 hz]; rfl
def pG (c:aK) (subj:Txt):List bf:= [⟨3,idT,[idV c.id]⟩,⟨3,[111,119,110,101,114],[idV c.owner]⟩,⟨3,[115,116,97,116,101],[idV c.state]⟩,⟨3,[101,118,101,110,116,115],[⟨2,c.log.length,[]⟩]⟩,⟨3,[116,111,111,107],[qV c.log subj]⟩]
def nP (c:aK):List bf:=match c.log.getLast? with
 |some x=> [⟨3,[108,97,115,116],[idV x.actor]⟩]
 |none=> []
def eO (l:List cL):List bf:=(l.filter fun f=>decide (f.name.length≤14)).map fun f=>⟨3,[102,95]++f.name,[f.val]⟩
theorem jY (l:List cL) (i:Nat) (h:i<l.length):eO (l.take (i+1))=eO (l.take i)++(if l[i].name.length≤14 then [⟨3,[102,95]++l[i].name,[l[i].val]⟩] else []):=by
 unfold eO;rw [List.take_succ_eq_append_getElem h,List.filter_append,List.map_append]
 congr 1
 by_cases hh:l[i].name.length≤14<;>simp [hh]
theorem mX (c:aK) (subj:Txt):cq c subj=pG c subj++nP c++eO c.fields:=rfl
set_option maxRecDepth 100000 in
theorem Bm {h:Heap} (c:aK) (subj:Txt) (hl:c.log.length≤1000000) (hlf:c.fields.length≤1000000):ak Tryz.prog 71 [bM c, .s subj] h fun r h' =>r=bw (cq c subj)∧h' =h:=by
 refine ak.body hU hm Tryz.func71 rfl (by kernel_rfl) 77 rfl [.tmp 4] rfl (Uf rfl) (fun hwf=> ?_)
 simp only [go_sem,bM,ko,fy,oQ];intro i1 h1;simp only [go_sem];refine .quiet (by kernel_rfl) ?_
 simp only [go_sem];refine ⟨_,oU _ _, ?_⟩;simp only [go_sem,aS,idV];refine ⟨_,cY _ _ _ _ _, ?_⟩;simp only [go_sem];refine ⟨_,oU _ _, ?_⟩;simp only [go_sem,aS,idV];refine ⟨_,cY _ _ _ _ _, ?_⟩;simp only [go_sem];refine ⟨_,oU _ _, ?_⟩;simp only [go_sem,aS,idV];refine ⟨_,cY _ _ _ _ _, ?_⟩;simp only [go_sem];refine ⟨_,cY _ _ _ _ _, ?_⟩;simp only [go_sem];refine ⟨_,Jb (show RdC _ (.agg [.s c.id, .s c.owner, .s c.state, .sl (c.fields.map bE) .no, .sl (c.log.map gG) .no]) c from rdC _ c) subj (by omega), ?_⟩
 simp only [go_sem,aS];refine ⟨_,cY _ _ _ _ _, ?_⟩;simp only [go_sem,Ug];have hs1:∀b,Ab.Sub h (upd h i1 b):=fun b=>(Sub.refl h).put h1 b
 have hrow5:GRow [.agg [.v (.int .i64 3), .s [105,100], .sl [.agg [.v (.int .i64 5), .v (.int .i64 0), .s c.id]] .full], .agg [.v (.int .i64 3), .s [111,119,110,101,114], .sl [.agg [.v (.int .i64 5), .v (.int .i64 0), .s c.owner]] .full], .agg [.v (.int .i64 3), .s [115,116,97,116,101], .sl [.agg [.v (.int .i64 5), .v (.int .i64 0), .s c.state]] .full], .agg [.v (.int .i64 3), .s [101,118,101,110,116,115], .sl [.agg [.v (.int .i64 2), .v (.int .i64 c.log.length), .s []]] .full], .agg [.v (.int .i64 3), .s [116,111,111,107], .sl [aS (qV c.log subj)] .full]] (pG c subj):=(GRow.one ⟨3,idT,[idV c.id]⟩ .full).app ((GRow.one ⟨3,[111,119,110,101,114],[idV c.owner]⟩ .full).app ((GRow.one ⟨3,[115,116,97,116,101],[idV c.state]⟩ .full).app ((GRow.one ⟨3,[101,118,101,110,116,115],[⟨2,c.log.length,[]⟩]⟩ .full).app (GRow.one ⟨3,[116,111,111,107],[qV c.log subj]⟩ .full))));simp only [aS] at hrow5;cases d1:decide ((0:Int)<(c.log.length:Int))
 ·have hl0:c.log= []:=List.length_eq_zero_iff.1 (by have:=Uj d1; omega)
  simp only [go_sem];simp only [go_sem,Ug];refine .intro (fun m ρ H=>∃(i:Nat) (y:AV) (ys:List AV),Acc U 123 h H y ys∧H i1=some (.obj [.s c.id, .s c.owner, .s c.state, .sl (c.fields.map bE) .no, .sl (c.log.map gG) .no] 57)∧GRow ys (pG c subj++eO (c.fields.take i))∧i≤c.fields.length∧m=c.fields.length - i∧lk ρ 5=some y∧lk ρ 2=some (.ptr i1 0)∧lk ρ 55=some (.sl (c.fields.map bE) .no)∧lk ρ 56=some (.v (.int .i64 c.fields.length))∧lk ρ 57=some (.v (.int .i64 i))) c.fields.length ?_ ?_
  ·refine ⟨0,_,_, .full (hs1 _),ah ..,(by have:=hrow5; simpa [eO] using this),by omega,rfl, ?_, ?_, ?_, ?_, ?_⟩<;>simp only [go_sem]
  ·rintro m ρ H ⟨i,y,ys,hy,g1,hrow,hi,rfl,r5,r2,r55,r56,r57⟩
   simp only [go_sem,r56,r57];refine .intro (fun e=> ?_) (fun e=> ?_)
   ·have hlt:i<c.fields.length:=Un e
    have w1:=Um i (by omega)
    simp only [go_sem,r55,r57];refine .at i (by simpa using hlt) (by rw [Uh]; rfl) ?_
    simp only [go_sem,Uh,bE];intro i8 h8;have n81:i1≠i8:=fun e=>by rw [←e,g1] at h8; cases h8
    simp only [go_sem];cases d2:decide ((c.fields[i].name.length:Int)≤14)
    ·simp only [go_sem,r57,w1]
     have hskip:eO (c.fields.take (i+1))=eO (c.fields.take i):=by
      have:¬c.fields[i].name.length≤14:=by have:=Uj d2; omega
      rw [jY _ _ hlt,if_neg this,List.append_nil]
     refine ⟨_, ?_,i+1,y,ys,hy.sub (.ai h8),(ag _ _ n81).trans g1,by rw [hskip]; exact hrow,by omega,rfl, ?_, ?_, ?_, ?_, ?_⟩
     ·omega
     all_goals simp only [go_sem,r5,r2,r55,r56]
    ·simp only [go_sem,r5]
     have h14:c.fields[i].name.length≤14:=by have:=Ui d2; omega
     refine ⟨by have:(1000:Nat)<lim:=(by decide); omega, ?_⟩
     refine (cY _ _ _ _ _).pthen ?_;simp only [go_sem];refine (hy.sub (.ai h8)).app (zs:= [uD ⟨3,[102,95]++c.fields[i].name,[c.fields[i].val]⟩ .full]) (by rw [bS]; decide) (by simp only [go_sem,ne_eq,not_false_eq_true]) (fun k hk=>(Rd.sl (fe _ _) .full:Rd _ 3 _ _).src bS hk) (by rw [bS]; exact hrow.sized) (by rw [bS]; exact fe _ _) (by
      have hln:(eO (c.fields.take i)).length≤i:=by unfold eO; rw [Ug]; exact Nat.le_trans (List.length_filter_le _ _) (by rw [List.length_take]; omega)
      simp only [go_sem,hrow.1,List.length_cons,List.length_nil,pG]; omega) fun y' H' hy' kp=> ?_
     simp only [go_sem,r57,w1];refine ⟨_, ?_,i+1,y',_,hy',kp _ _ _ ((ag _ _ n81).trans g1),by rw [jY _ _ hlt,if_pos h14,←List.append_assoc]; exact hrow.app (GRow.one _ _),by omega,rfl, ?_, ?_, ?_, ?_, ?_⟩
     ·omega
     all_goals simp only [go_sem,r2,r55,r56]
   ·have hge:i=c.fields.length:=by have:=Uj e; omega
    subst hge;rw [List.take_length] at hrow;obtain ⟨q,rfl⟩:=hy.row;simp only [go_sem,r5];exact .mk (bw (cq c subj)) (show Weak (.sl ys q) _ by rw [mX,nP,hl0]; simpa using hrow.weak q) hy.1 ⟨rfl,rfl⟩
 ·have hl1:0<c.log.length:=by have:=Ui d1; omega
  simp only [go_sem];have w0:IntKind.i64.wrap ((c.log.length:Int) - 1)=((c.log.length - 1:Nat):Int):=by rw [bz _ (by omega)]; omega
  simp only [go_sem,w0];refine .at (c.log.length - 1) (by simp; omega) (by rw [Uh]; rfl) ?_
  simp only [go_sem,Uh,gG];rw [if_neg (fun hh=>hh.1)]
  refine (oU _ _).pthen ?_;simp only [go_sem,aS,idV];refine (cY _ _ _ _ _).pthen ?_;simp only [go_sem];have hgl:c.log.getLast? =some c.log[c.log.length - 1]:=by rw [List.getLast?_eq_getElem?,List.getElem?_eq_getElem (by omega)]
  have hlast:GRow [.agg [.v (.int .i64 3), .s [108,97,115,116], .sl [.agg [.v (.int .i64 5), .v (.int .i64 0), .s c.log[c.log.length - 1].actor]] .full]] (nP c):=by
   unfold nP;rw [hgl];exact GRow.one ⟨3,[108,97,115,116],[idV c.log[c.log.length - 1].actor]⟩ .full
  refine .accs (hs1 _) fun y0 H0 hy0 kp0=> ?_
  simp only [go_sem,kp0 _ _ _ (ah ..),Ug];refine .intro (fun m ρ H=>∃(i:Nat) (y:AV) (ys:List AV),Acc U 123 h H y ys∧H i1=some (.obj [.s c.id, .s c.owner, .s c.state, .sl (c.fields.map bE) .no, .sl (c.log.map gG) .no] 57)∧GRow ys ((pG c subj++nP c)++eO (c.fields.take i))∧i≤c.fields.length∧m=c.fields.length - i∧lk ρ 5=some y∧lk ρ 2=some (.ptr i1 0)∧lk ρ 55=some (.sl (c.fields.map bE) .no)∧lk ρ 56=some (.v (.int .i64 c.fields.length))∧lk ρ 57=some (.v (.int .i64 i))) c.fields.length ?_ ?_
  ·refine ⟨0,_,_,hy0,kp0 _ _ _ (ah ..),(by have:=hrow5.app hlast; simpa [eO] using this),by omega,rfl, ?_, ?_, ?_, ?_, ?_⟩<;>simp only [go_sem]
  ·rintro m ρ H ⟨i,y,ys,hy,g1,hrow,hi,rfl,r5,r2,r55,r56,r57⟩
   simp only [go_sem,r56,r57];refine .intro (fun e=> ?_) (fun e=> ?_)
   ·have hlt:i<c.fields.length:=Un e
    have w1:=Um i (by omega)
    simp only [go_sem,r55,r57];refine .at i (by simpa using hlt) (by rw [Uh]; rfl) ?_
    simp only [go_sem,Uh,bE];intro i8 h8;have n81:i1≠i8:=fun e=>by rw [←e,g1] at h8; cases h8
    simp only [go_sem];cases d2:decide ((c.fields[i].name.length:Int)≤14)
    ·simp only [go_sem,r57,w1]
     have hskip:eO (c.fields.take (i+1))=eO (c.fields.take i):=by
      have:¬c.fields[i].name.length≤14:=by have:=Uj d2; omega
      rw [jY _ _ hlt,if_neg this,List.append_nil]
     refine ⟨_, ?_,i+1,y,ys,hy.sub (.ai h8),(ag _ _ n81).trans g1,by rw [hskip]; exact hrow,by omega,rfl, ?_, ?_, ?_, ?_, ?_⟩
     ·omega
     all_goals simp only [go_sem,r5,r2,r55,r56]
    ·simp only [go_sem,r5]
     have h14:c.fields[i].name.length≤14:=by have:=Ui d2; omega
     refine ⟨by have:(1000:Nat)<lim:=(by decide); omega, ?_⟩
     refine (cY _ _ _ _ _).pthen ?_;simp only [go_sem];refine (hy.sub (.ai h8)).app (zs:= [uD ⟨3,[102,95]++c.fields[i].name,[c.fields[i].val]⟩ .full]) (by rw [bS]; decide) (by simp only [go_sem,ne_eq,not_false_eq_true]) (fun k hk=>(Rd.sl (fe _ _) .full:Rd _ 3 _ _).src bS hk) (by rw [bS]; exact hrow.sized) (by rw [bS]; exact fe _ _) (by
      have hln:(eO (c.fields.take i)).length≤i:=by unfold eO; rw [Ug]; exact Nat.le_trans (List.length_filter_le _ _) (by rw [List.length_take]; omega)
      simp only [go_sem,hrow.1,List.length_cons,List.length_nil,pG,nP,hgl]; omega) fun y' H' hy' kp=> ?_
     simp only [go_sem,r57,w1];refine ⟨_, ?_,i+1,y',_,hy',kp _ _ _ ((ag _ _ n81).trans g1),by rw [jY _ _ hlt,if_pos h14,←List.append_assoc]; exact hrow.app (GRow.one _ _),by omega,rfl, ?_, ?_, ?_, ?_, ?_⟩
     ·omega
     all_goals simp only [go_sem,r2,r55,r56]
   ·have hge:i=c.fields.length:=by have:=Uj e; omega
    subst hge;rw [List.take_length] at hrow;obtain ⟨q,rfl⟩:=hy.row;simp only [go_sem,r5];exact .mk (bw (cq c subj)) (show Weak (.sl ys q) _ by rw [mX]; exact hrow.weak q) hy.1 ⟨rfl,rfl⟩
theorem AQ {l:List gj} {subj:Txt} {i:Nat} (h:i<l.length) (h1:l[i].subj=subj) (h2:(cK (l.take i) subj).length<16):cK (l.take (i+1)) subj=cK (l.take i) subj++ [idV l[i].role]:=by
 unfold cK at h2⊢;rw [List.take_succ_eq_append_getElem h,List.filter_append,List.map_append];rw [List.length_take] at h2;have hl:(((l.take i).filter fun r=>r.subj==subj).map fun r=>idV r.role).length<16:=by omega
 rw [List.take_append,List.take_of_length_le (by omega),List.filter_cons,List.filter_nil,if_pos (by simp [h1])]
 congr 1
 rw [List.take_of_length_le (by simp; simp at hl; omega)]; rfl
theorem vD {l:List gj} {subj:Txt} {i:Nat} (h:i<l.length) (h1:l[i].subj≠subj∨¬(cK (l.take i) subj).length<16):cK (l.take (i+1)) subj=cK (l.take i) subj:=by
 unfold cK at h1⊢;rw [List.take_succ_eq_append_getElem h,List.filter_append,List.map_append,List.take_append]
 by_cases hs:l[i].subj=subj
 ·have h2:=h1.resolve_left (fun h=>h hs)
  rw [List.length_take] at h2;rw [show 16 - (((l.take i).filter fun r=>r.subj==subj).map fun r=>idV r.role).length=0 by omega,List.take_zero,List.append_nil]
 ·rw [List.filter_cons,List.filter_nil,if_neg (by simpa using hs)]
  simp
theorem Ch (l:List gj) (subj:Txt):(cK l subj).length≤16:=by unfold cK; rw [List.length_take]; omega
def cF (s:an) (o:OpD):List bf:= [⟨1,idT,[idV o.subj]⟩,⟨1,[114,111,108,101],cK s.roles o.subj⟩,⟨2,[110,97,109,101],[idV (iJ o.kind)]⟩]
theorem uy {s:an} (hf:Few s) (id:Txt):(bl s.cases id).log.length≤1000000∧(bl s.cases id).fields.length≤1000000:=by
 cases e:bG s.cases id
 ·rw [zj e]; exact ⟨Nat.zero_le _,Nat.zero_le _⟩
 ·rw [zi e]; exact ⟨hf.log _ (Ul _),hf.fields _ (Ul _)⟩
theorem ze (c:aK) (subj:Txt):(cq c subj).length≤6+c.fields.length:=by
 rw [mX,Uk,Uk];have h1:(nP c).length≤1:=by unfold nP; split<;>simp
 have h2:(eO c.fields).length≤c.fields.length:=by unfold eO; rw [Ug]; exact List.length_filter_le _ _
 have h3:(pG c subj).length=5:=rfl;omega
theorem iE {h G:Heap} {i:Nat} (hs:Ab.Sub h G) (hi:G i=none):h i=none:=hs.none hi
theorem yR:(U 42).sz=3:=by simp only [go_sem]
set_option maxRecDepth 100000 in
theorem Kt {h:Heap} {x:AV} {s:an} (hb:RdS h x s) (o:OpD) (hf:Few s) (hk:i64 o.kind):ak Tryz.prog 24 [x,opA o] h fun r h' =>r=bw (eT s o)∧h' =h:=by
 have hca:=fun (G:Heap) (hG:Ab.Sub h G)=>tI (hb.sub hG) o.case hf
 obtain ⟨y1,y2,y3,y4,rfl,⟨xs,hc,hn,hcs⟩,h2,h3,h4⟩:=hb;cases hpp:s.policy with
 |mk pid pset palg ptgt prules pkids pobls=>
 have hcC:fl (.mk pid pset palg ptgt prules pkids pobls)= [.s pid, .v (.bool pset), .v (.int .i64 palg),aR ptgt, .sl (prules.map aA) .no, .sl (pkids.map aJ) .no,ax pobls]:=by simp [fl,aW]
 rw [hpp,hcC] at hca;simp only [List.cons_append,List.nil_append] at hca;have hfr:=hf.roles;refine ak.body hU hm Tryz.func24 rfl (by kernel_rfl) 99 rfl [.tmp 4] rfl (Uf rfl) (fun hwf=> ?_)
 simp only [go_sem,hcC,opA,opC,List.cons_append,List.nil_append];intro i1 h1;simp only [go_sem];intro i2 h2';have n21:=aH h2';have n2:=aE h2';simp only [go_sem,aj,n21.symm,h4.len,Ug];obtain ⟨H,eH⟩:∃H,upd (upd h i1 (some (.obj [.v (.int .i64 s.tick),y1,y2,y3,y4, .s pid, .v (.bool pset), .v (.int .i64 palg),aR ptgt, .sl (prules.map aA) .no, .sl (pkids.map aJ) .no,ax pobls, .v (.int .i64 s.version)] 36))) i2 (some (.obj (opC o) 44))=H:=⟨_,rfl⟩;have hH:Ab.Sub h H:=by rw [←eH]; exact ((Sub.refl h).put h1 _).put n2 _
 have g1:H i1=some (.obj [.v (.int .i64 s.tick),y1,y2,y3,y4, .s pid, .v (.bool pset), .v (.int .i64 palg),aR ptgt, .sl (prules.map aA) .no, .sl (pkids.map aJ) .no,ax pobls, .v (.int .i64 s.version)] 36):=by rw [←eH,ag _ _ n21.symm,ah]
 have g2:H i2=some (.obj (opC o) 44):=by rw [←eH,ah]
 simp only [opC] at eH g2;rw [eH];clear eH;refine .intro (fun m ρ G=>∃(i:Nat) (y:AV),Acc U 42 H G y ((cK (s.roles.take i) o.subj).map aS)∧i≤s.roles.length∧m=s.roles.length - i∧lk ρ 5=some y∧lk ρ 2=some (.ptr i1 0)∧lk ρ 3=some (.ptr i2 0)∧lk ρ 12=some y4∧lk ρ 13=some (.v (.int .i64 s.roles.length))∧lk ρ 14=some (.v (.int .i64 i))) s.roles.length ?_ ?_
 ·refine ⟨0,_, .full (.refl _),by omega,rfl, ?_, ?_, ?_, ?_, ?_, ?_⟩<;>simp only [go_sem,cK,List.take_zero,List.filter_nil,List.map_nil]
 ·rintro m ρ G ⟨i,y,hy,hi,rfl,r5,r2,r3,r12,r13,r14⟩
  have k1:=hy.1 _ _ g1;have k2:=hy.1 _ _ g2;simp only [go_sem,r13,r14];refine .intro (fun e=> ?_) (fun e=> ?_)
  ·have hlt:i<s.roles.length:=Un e
   have w1:=Um i (by omega)
   simp only [go_sem,r12,r14];refine (h4.sub (hH.trans hy.1)).idx (e:=71) i rfl (by simpa using hlt) Dv (by decide) fun p hp1=> ?_
   have hld:=hp1.all (U:=U) (ty:=71) (by simp only [go_sem]) (by rw [Dv,Uh]; rfl) (by simp only [go_sem]; rw [Uh]; rfl)
   simp only [go_sem,hld,Uh,dD];intro i7 h7;have n71:i1≠i7:=fun e=>by rw [←e,k1] at h7; cases h7
   have n72:i2≠i7:=fun e=>by rw [←e,k2] at h7; cases h7
   simp only [go_sem,aj,n72,k2,r3];have hy7:=hy.sub (.ai h7 (k:=some (.obj [.s s.roles[i].subj, .s s.roles[i].role] 71)));have lr:=Ch (s.roles.take i) o.subj;cases d1:(s.roles[i].subj==o.subj)
   ·have p1:s.roles[i].subj≠o.subj:=by simpa using d1
    simp only [go_sem,r14,w1];refine ⟨_, ?_,i+1,y,by rw [vD hlt (.inl p1)]; exact hy7,by omega,rfl, ?_, ?_, ?_, ?_, ?_, ?_⟩
    ·omega
    all_goals simp only [go_sem,r5,r2,r3,r12,r13]
   ·have p1:s.roles[i].subj=o.subj:=by simpa using d1
    simp only [go_sem,r5,hy.len,Ug];cases d2:decide (((cK (s.roles.take i) o.subj).length:Int)<16)
    ·have p2:¬(cK (s.roles.take i) o.subj).length<16:=by have:=Uj d2; omega
     simp only [go_sem,r14,w1];refine ⟨_, ?_,i+1,y,by rw [vD hlt (.inr p2)]; exact hy7,by omega,rfl, ?_, ?_, ?_, ?_, ?_, ?_⟩
     ·omega
     all_goals simp only [go_sem,r5,r2,r3,r12,r13]
    ·have p2:(cK (s.roles.take i) o.subj).length<16:=by have:=Ui d2; omega
     simp only [go_sem,r5];refine (oU _ _).pthen ?_;simp only [go_sem,aS,idV];refine hy7.app (zs:= [aS (idV s.roles[i].role)]) (by rw [yR]; decide) (by simp only [go_sem,ne_eq,not_false_eq_true]) (fun k hk=>(Rd.sl (fun z hz=>by rw [List.mem_singleton.1 hz]; rfl) .full:Rd _ 3 _ _).src yR hk) (by rw [yR]; exact bh (f:=aS) (fun _=>rfl) _) (by rw [yR]; exact bh (f:=aS) (fun _=>rfl) [idV s.roles[i].role]) (by simp only [go_sem,Ug,List.length_cons,List.length_nil]; omega) fun y' H' hy' kp=> ?_
     simp only [go_sem,r14,w1];refine ⟨_, ?_,i+1,y',by rw [AQ hlt p1 p2,List.map_append]; exact hy',by omega,rfl, ?_, ?_, ?_, ?_, ?_, ?_⟩
     ·omega
     all_goals simp only [go_sem,r2,r3,r12,r13]
  ·have hge:i=s.roles.length:=by have:=Uj e; omega
   subst hge;rw [List.take_length] at hy;simp only [go_sem];obtain ⟨q5,rfl⟩:=hy.row;refine .quiet (by kernel_rfl) ?_
   simp only [go_sem,k2,r3];refine ⟨_,oU _ _, ?_⟩;simp only [go_sem,aS,idV];refine ⟨_,cY _ _ _ _ _, ?_⟩;simp only [go_sem,r5];refine ⟨_,cY _ _ _ _ _, ?_⟩;simp only [go_sem,k2,r3];refine ⟨_,wO _ hk _, ?_⟩;simp only [go_sem];refine ⟨_,oU _ _, ?_⟩;simp only [go_sem,aS,idV];refine ⟨_,cY _ _ _ _ _, ?_⟩;simp only [go_sem,k2,r3];have hak:=fun (G:Heap)=>Bm (h:=G) (bl s.cases o.case) o.subj (uy hf o.case).1 (uy hf o.case).2
   simp only [bM,ko,fy,oQ] at hak;have hakl:=ze (bl s.cases o.case) o.subj;have hakf:=(uy hf o.case).2;have hr0:GRow [.agg [.v (.int .i64 1), .s [105,100], .sl [.agg [.v (.int .i64 5), .v (.int .i64 0), .s o.subj]] .full], .agg [.v (.int .i64 1), .s [114,111,108,101], .sl ((cK s.roles o.subj).map aS) q5], .agg [.v (.int .i64 2), .s [110,97,109,101], .sl [.agg [.v (.int .i64 5), .v (.int .i64 0), .s (iJ o.kind)]] .full]] (cF s o):=(GRow.one ⟨1,idT,[idV o.subj]⟩ .full).app ((GRow.one ⟨1,[114,111,108,101],cK s.roles o.subj⟩ q5).app (GRow.one ⟨2,[110,97,109,101],[idV (iJ o.kind)]⟩ .full))
   by_cases pf:o.field= []
   ·have df:(o.field==([]:Txt))=true:=by simp [pf]
    simp only [go_sem,k2,r3,df]
    by_cases pt:o.to= []
    ·have dt:(o.to==([]:Txt))=true:=by simp [pt]
     simp only [go_sem,k1,r2,dt];refine (cY _ _ _ _ _).pthen ?_;simp only [go_sem];refine .accs hy.1 fun y1 G1 hy1 kp1=> ?_
     have k1_1:=kp1 _ _ _ k1;have k2_1:=kp1 _ _ _ k2;have hr1:=hr0.app (GRow.one (⟨4,[110,111,119],[⟨4,s.tick,[]⟩]⟩:bf) .full);simp only [go_sem,k1_1,k2_1,r2,r3];refine (hca _ (hH.trans hy1.1)).pthen ?_;simp only [go_sem,bM,ko,fy,oQ];intro i20 h20;have n21:i1≠i20:=fun e=>by rw [←e,k1_1] at h20; cases h20
     have n22:i2≠i20:=fun e=>by rw [←e,k2_1] at h20; cases h20
     simp only [go_sem];obtain ⟨q2,eq2⟩:=hy1.row;cases dth:bG s.cases o.case
     ·simp only [go_sem]
      exact .mk (bw (eT s o)) (show Weak y1 _ by rw [eq2,show eT s o=(cF s o++ [(⟨4,[110,111,119],[⟨4,s.tick,[]⟩]⟩:bf)]) by simp [eT,cF,dth,pf,pt]]; exact hr1.weak q2) ((hH.trans hy1.1).put (iE (hH.trans hy1.1) h20) _) ⟨rfl,rfl⟩
     ·simp only [go_sem,aj,n22,k2_1,r3]
      by_cases p6:o.kind=6
      ·have d6:(o.kind !=6)=false:=by simp [p6]
       simp only [go_sem,d6];exact .mk (bw (eT s o)) (show Weak y1 _ by rw [eq2,show eT s o=(cF s o++ [(⟨4,[110,111,119],[⟨4,s.tick,[]⟩]⟩:bf)]) by simp [eT,cF,dth,p6,pf,pt]]; exact hr1.weak q2) ((hH.trans hy1.1).put (iE (hH.trans hy1.1) h20) _) ⟨rfl,rfl⟩
      ·have d6:(o.kind !=6)=true:=by simp [p6]
       simp only [go_sem,aj,n22,k2_1,r3,d6];refine (hak _).pthen ?_;simp only [go_sem,bw];refine (hy1.sub (.ai h20)).app (zs:=(cq (bl s.cases o.case) o.subj).map jh) (by rw [bS]; decide) (by simp only [go_sem,ne_eq,not_false_eq_true]) (fun k hk=>(dS jh 3 (fun _=>rfl) _ _).src bS hk) (by rw [bS]; exact hr1.sized) (by rw [bS]; exact bh (f:=jh) (fun _=>rfl) _) (by simp only [go_sem,Ug,List.length_cons,List.length_nil]<;>omega) fun yz Gz hyz kpz=> ?_
       simp only [go_sem];obtain ⟨qz,eqz⟩:=hyz.row;exact .mk (bw (eT s o)) (show Weak yz _ by rw [eqz,show eT s o=(cF s o++ [(⟨4,[110,111,119],[⟨4,s.tick,[]⟩]⟩:bf)])++cq (bl s.cases o.case) o.subj by simp [eT,cF,dth,p6,pf,pt]]; exact (hr1.app (GRow.givs _)).weak qz) (hH.trans hyz.1) ⟨rfl,rfl⟩
    ·have dt:(o.to==([]:Txt))=false:=by simp [pt]
     simp only [go_sem,k2,r3,dt];refine (oU _ _).pthen ?_;simp only [go_sem,aS,idV];refine (cY _ _ _ _ _).pthen ?_;simp only [go_sem];refine .accs hy.1 fun y3 G3 hy3 kp3=> ?_
     have k1_3:=kp3 _ _ _ k1;have k2_3:=kp3 _ _ _ k2;have hr3:=hr0.app (GRow.one (⟨2,[116,111],[idV o.to]⟩:bf) .full);simp only [go_sem,k1_3,r2];refine (cY _ _ _ _ _).pthen ?_;simp only [go_sem];refine hy3.app (zs:= [uD (⟨4,[110,111,119],[⟨4,s.tick,[]⟩]⟩) .full]) (by rw [bS]; decide) (by simp only [go_sem,ne_eq,not_false_eq_true]) (fun k hk=>(Rd.sl (fe _ _) .full:Rd _ 3 _ _).src bS hk) (by rw [bS]; exact hr3.sized) (by rw [bS]; exact fe _ _) (by simp only [go_sem,List.length_cons,List.length_nil]<;>omega) fun y4 G4 hy4 kp4=> ?_
     have k1_4:=kp4 _ _ _ k1_3;have k2_4:=kp4 _ _ _ k2_3;have hr4:=hr3.app (GRow.one (⟨4,[110,111,119],[⟨4,s.tick,[]⟩]⟩:bf) .full);simp only [go_sem,k1_4,k2_4,r2,r3];refine (hca _ (hH.trans hy4.1)).pthen ?_;simp only [go_sem,bM,ko,fy,oQ];intro i50 h50;have n51:i1≠i50:=fun e=>by rw [←e,k1_4] at h50; cases h50
     have n52:i2≠i50:=fun e=>by rw [←e,k2_4] at h50; cases h50
     simp only [go_sem];obtain ⟨q5,eq5⟩:=hy4.row;cases dth:bG s.cases o.case
     ·simp only [go_sem]
      exact .mk (bw (eT s o)) (show Weak y4 _ by rw [eq5,show eT s o=((cF s o++ [(⟨2,[116,111],[idV o.to]⟩:bf)])++ [(⟨4,[110,111,119],[⟨4,s.tick,[]⟩]⟩:bf)]) by simp [eT,cF,dth,pf,pt]]; exact hr4.weak q5) ((hH.trans hy4.1).put (iE (hH.trans hy4.1) h50) _) ⟨rfl,rfl⟩
     ·simp only [go_sem,aj,n52,k2_4,r3]
      by_cases p6:o.kind=6
      ·have d6:(o.kind !=6)=false:=by simp [p6]
       simp only [go_sem,d6];exact .mk (bw (eT s o)) (show Weak y4 _ by rw [eq5,show eT s o=((cF s o++ [(⟨2,[116,111],[idV o.to]⟩:bf)])++ [(⟨4,[110,111,119],[⟨4,s.tick,[]⟩]⟩:bf)]) by simp [eT,cF,dth,p6,pf,pt]]; exact hr4.weak q5) ((hH.trans hy4.1).put (iE (hH.trans hy4.1) h50) _) ⟨rfl,rfl⟩
      ·have d6:(o.kind !=6)=true:=by simp [p6]
       simp only [go_sem,aj,n52,k2_4,r3,d6];refine (hak _).pthen ?_;simp only [go_sem,bw];refine (hy4.sub (.ai h50)).app (zs:=(cq (bl s.cases o.case) o.subj).map jh) (by rw [bS]; decide) (by simp only [go_sem,ne_eq,not_false_eq_true]) (fun k hk=>(dS jh 3 (fun _=>rfl) _ _).src bS hk) (by rw [bS]; exact hr4.sized) (by rw [bS]; exact bh (f:=jh) (fun _=>rfl) _) (by simp only [go_sem,Ug,List.length_cons,List.length_nil]<;>omega) fun yz Gz hyz kpz=> ?_
       simp only [go_sem];obtain ⟨qz,eqz⟩:=hyz.row;exact .mk (bw (eT s o)) (show Weak yz _ by rw [eqz,show eT s o=((cF s o++ [(⟨2,[116,111],[idV o.to]⟩:bf)])++ [(⟨4,[110,111,119],[⟨4,s.tick,[]⟩]⟩:bf)])++cq (bl s.cases o.case) o.subj by simp [eT,cF,dth,p6,pf,pt]]; exact (hr4.app (GRow.givs _)).weak qz) (hH.trans hyz.1) ⟨rfl,rfl⟩
   ·have df:(o.field==([]:Txt))=false:=by simp [pf]
    simp only [go_sem,k2,r3,df];refine (oU _ _).pthen ?_;simp only [go_sem,aS,idV];refine (cY _ _ _ _ _).pthen ?_;simp only [go_sem];refine .accs hy.1 fun y6 G6 hy6 kp6=> ?_
    have k1_6:=kp6 _ _ _ k1;have k2_6:=kp6 _ _ _ k2;have hr6:=hr0.app (GRow.one (⟨2,[102,105,101,108,100],[idV o.field]⟩:bf) .full);simp only [go_sem,k2_6,r3]
    by_cases pt:o.to= []
    ·have dt:(o.to==([]:Txt))=true:=by simp [pt]
     simp only [go_sem,k1_6,r2,dt];refine (cY _ _ _ _ _).pthen ?_;simp only [go_sem];refine hy6.app (zs:= [uD (⟨4,[110,111,119],[⟨4,s.tick,[]⟩]⟩) .full]) (by rw [bS]; decide) (by simp only [go_sem,ne_eq,not_false_eq_true]) (fun k hk=>(Rd.sl (fe _ _) .full:Rd _ 3 _ _).src bS hk) (by rw [bS]; exact hr6.sized) (by rw [bS]; exact fe _ _) (by simp only [go_sem,List.length_cons,List.length_nil]<;>omega) fun y7 G7 hy7 kp7=> ?_
     have k1_7:=kp7 _ _ _ k1_6;have k2_7:=kp7 _ _ _ k2_6;have hr7:=hr6.app (GRow.one (⟨4,[110,111,119],[⟨4,s.tick,[]⟩]⟩:bf) .full);simp only [go_sem,k1_7,k2_7,r2,r3];refine (hca _ (hH.trans hy7.1)).pthen ?_;simp only [go_sem,bM,ko,fy,oQ];intro i80 h80;have n81:i1≠i80:=fun e=>by rw [←e,k1_7] at h80; cases h80
     have n82:i2≠i80:=fun e=>by rw [←e,k2_7] at h80; cases h80
     simp only [go_sem];obtain ⟨q8,eq8⟩:=hy7.row;cases dth:bG s.cases o.case
     ·simp only [go_sem]
      exact .mk (bw (eT s o)) (show Weak y7 _ by rw [eq8,show eT s o=((cF s o++ [(⟨2,[102,105,101,108,100],[idV o.field]⟩:bf)])++ [(⟨4,[110,111,119],[⟨4,s.tick,[]⟩]⟩:bf)]) by simp [eT,cF,dth,pf,pt]]; exact hr7.weak q8) ((hH.trans hy7.1).put (iE (hH.trans hy7.1) h80) _) ⟨rfl,rfl⟩
     ·simp only [go_sem,aj,n82,k2_7,r3]
      by_cases p6:o.kind=6
      ·have d6:(o.kind !=6)=false:=by simp [p6]
       simp only [go_sem,d6];exact .mk (bw (eT s o)) (show Weak y7 _ by rw [eq8,show eT s o=((cF s o++ [(⟨2,[102,105,101,108,100],[idV o.field]⟩:bf)])++ [(⟨4,[110,111,119],[⟨4,s.tick,[]⟩]⟩:bf)]) by simp [eT,cF,dth,p6,pf,pt]]; exact hr7.weak q8) ((hH.trans hy7.1).put (iE (hH.trans hy7.1) h80) _) ⟨rfl,rfl⟩
      ·have d6:(o.kind !=6)=true:=by simp [p6]
       simp only [go_sem,aj,n82,k2_7,r3,d6];refine (hak _).pthen ?_;simp only [go_sem,bw];refine (hy7.sub (.ai h80)).app (zs:=(cq (bl s.cases o.case) o.subj).map jh) (by rw [bS]; decide) (by simp only [go_sem,ne_eq,not_false_eq_true]) (fun k hk=>(dS jh 3 (fun _=>rfl) _ _).src bS hk) (by rw [bS]; exact hr7.sized) (by rw [bS]; exact bh (f:=jh) (fun _=>rfl) _) (by simp only [go_sem,Ug,List.length_cons,List.length_nil]<;>omega) fun yz Gz hyz kpz=> ?_
       simp only [go_sem];obtain ⟨qz,eqz⟩:=hyz.row;exact .mk (bw (eT s o)) (show Weak yz _ by rw [eqz,show eT s o=((cF s o++ [(⟨2,[102,105,101,108,100],[idV o.field]⟩:bf)])++ [(⟨4,[110,111,119],[⟨4,s.tick,[]⟩]⟩:bf)])++cq (bl s.cases o.case) o.subj by simp [eT,cF,dth,p6,pf,pt]]; exact (hr7.app (GRow.givs _)).weak qz) (hH.trans hyz.1) ⟨rfl,rfl⟩
    ·have dt:(o.to==([]:Txt))=false:=by simp [pt]
     simp only [go_sem,k2_6,r3,dt];refine (oU _ _).pthen ?_;simp only [go_sem,aS,idV];refine (cY _ _ _ _ _).pthen ?_;simp only [go_sem];refine hy6.app (zs:= [uD (⟨2,[116,111],[idV o.to]⟩) .full]) (by rw [bS]; decide) (by simp only [go_sem,ne_eq,not_false_eq_true]) (fun k hk=>(Rd.sl (fe _ _) .full:Rd _ 3 _ _).src bS hk) (by rw [bS]; exact hr6.sized) (by rw [bS]; exact fe _ _) (by simp only [go_sem,List.length_cons,List.length_nil]<;>omega) fun y9 G9 hy9 kp9=> ?_
     have k1_9:=kp9 _ _ _ k1_6;have k2_9:=kp9 _ _ _ k2_6;have hr9:=hr6.app (GRow.one (⟨2,[116,111],[idV o.to]⟩:bf) .full);simp only [go_sem,k1_9,r2];refine (cY _ _ _ _ _).pthen ?_;simp only [go_sem];refine hy9.app (zs:= [uD (⟨4,[110,111,119],[⟨4,s.tick,[]⟩]⟩) .full]) (by rw [bS]; decide) (by simp only [go_sem,ne_eq,not_false_eq_true]) (fun k hk=>(Rd.sl (fe _ _) .full:Rd _ 3 _ _).src bS hk) (by rw [bS]; exact hr9.sized) (by rw [bS]; exact fe _ _) (by simp only [go_sem,List.length_cons,List.length_nil]<;>omega) fun y10 G10 hy10 kp10=> ?_
     have k1_10:=kp10 _ _ _ k1_9;have k2_10:=kp10 _ _ _ k2_9;have hr10:=hr9.app (GRow.one (⟨4,[110,111,119],[⟨4,s.tick,[]⟩]⟩:bf) .full);simp only [go_sem,k1_10,k2_10,r2,r3];refine (hca _ (hH.trans hy10.1)).pthen ?_;simp only [go_sem,bM,ko,fy,oQ];intro i110 h110;have n111:i1≠i110:=fun e=>by rw [←e,k1_10] at h110; cases h110
     have n112:i2≠i110:=fun e=>by rw [←e,k2_10] at h110; cases h110
     simp only [go_sem];obtain ⟨q11,eq11⟩:=hy10.row;cases dth:bG s.cases o.case
     ·simp only [go_sem]
      exact .mk (bw (eT s o)) (show Weak y10 _ by rw [eq11,show eT s o=(((cF s o++ [(⟨2,[102,105,101,108,100],[idV o.field]⟩:bf)])++ [(⟨2,[116,111],[idV o.to]⟩:bf)])++ [(⟨4,[110,111,119],[⟨4,s.tick,[]⟩]⟩:bf)]) by simp [eT,cF,dth,pf,pt]]; exact hr10.weak q11) ((hH.trans hy10.1).put (iE (hH.trans hy10.1) h110) _) ⟨rfl,rfl⟩
     ·simp only [go_sem,aj,n112,k2_10,r3]
      by_cases p6:o.kind=6
      ·have d6:(o.kind !=6)=false:=by simp [p6]
       simp only [go_sem,d6];exact .mk (bw (eT s o)) (show Weak y10 _ by rw [eq11,show eT s o=(((cF s o++ [(⟨2,[102,105,101,108,100],[idV o.field]⟩:bf)])++ [(⟨2,[116,111],[idV o.to]⟩:bf)])++ [(⟨4,[110,111,119],[⟨4,s.tick,[]⟩]⟩:bf)]) by simp [eT,cF,dth,p6,pf,pt]]; exact hr10.weak q11) ((hH.trans hy10.1).put (iE (hH.trans hy10.1) h110) _) ⟨rfl,rfl⟩
      ·have d6:(o.kind !=6)=true:=by simp [p6]
       simp only [go_sem,aj,n112,k2_10,r3,d6];refine (hak _).pthen ?_;simp only [go_sem,bw];refine (hy10.sub (.ai h110)).app (zs:=(cq (bl s.cases o.case) o.subj).map jh) (by rw [bS]; decide) (by simp only [go_sem,ne_eq,not_false_eq_true]) (fun k hk=>(dS jh 3 (fun _=>rfl) _ _).src bS hk) (by rw [bS]; exact hr10.sized) (by rw [bS]; exact bh (f:=jh) (fun _=>rfl) _) (by simp only [go_sem,Ug,List.length_cons,List.length_nil]<;>omega) fun yz Gz hyz kpz=> ?_
       simp only [go_sem];obtain ⟨qz,eqz⟩:=hyz.row;exact .mk (bw (eT s o)) (show Weak yz _ by rw [eqz,show eT s o=(((cF s o++ [(⟨2,[102,105,101,108,100],[idV o.field]⟩:bf)])++ [(⟨2,[116,111],[idV o.to]⟩:bf)])++ [(⟨4,[110,111,119],[⟨4,s.tick,[]⟩]⟩:bf)])++cq (bl s.cases o.case) o.subj by simp [eT,cF,dth,p6,pf,pt]]; exact (hr10.app (GRow.givs _)).weak qz) (hH.trans hyz.1) ⟨rfl,rfl⟩
end Go.Proofs.YtmlhcdeamjkpjaaGreatDoor
namespace Go.Bf
open Go Go.Ab
def eqL {α:Type} (f:α→α→Bool):List α→List α→Bool
 | [],[]=>true
 |x::a,y::b=>f x y && eqL f a b
 |_,_=>false
theorem any_succ {α:Type} {q:α→Bool} {l:List α} {i:Nat} (h:i<l.length):(l.take (i+1)).any q=((l.take i).any q||q l[i]):=by
 rw [List.take_succ_eq_append_getElem h,List.any_append]; simp
end Go.Bf
namespace Go.Bf
def tu:Txt:= [97,110,110]
end Go.Bf
namespace Go.Proofs.YtmlhcdeamjkpjaaGreatDoor
open Go Go.Ab Go.Bf
def yL:List Value:=Lib.pow10Tab.map fun z=>Value.int .u64 z
def Ly (ev:Value):Heap:=tH [(3,yL),(2,[ev])]
theorem EW {ev:Value} (hev:ev= .nilIface∨∃te pe,ev= .iface te pe):tq (Ly ev):=⟨ev,hev,1,rfl⟩
end Go.Proofs.YtmlhcdeamjkpjaaGreatDoor
namespace Go.Bf
open Go Go.Ab
def gb (cat:Int) (name:Txt) (g:bf):Bool:=g.cat==cat && g.name==name
def getD (l:List bf) (cat:Int) (name:Txt):List bR:=match l.find? (gb cat name) with
 |some g=>g.bag
 |none=> []
end Go.Bf
namespace Go.Proofs.YtmlhcdeamjkpjaaGreatDoor
open Go Go.Ab Go.Bf
theorem Ga {α:Type} (y:AV) (xs:List AV) (ds:List α) (q:α→Bool) (g:FuncId) (cap:List AV) (h:Heap) (hb:Rd h 3 y xs) (hn:xs.length=ds.length) (hl:xs.length≤1000000000) (hx:∀x∈xs,bp x=true)
  (hp:∀i (h1:i<xs.length) (h2:i<ds.length),ak Tryz.prog g (xs[i]::cap) h fun r h' =>r= .v (.bool (q ds[i]))∧h' =h):
  ak Tryz.prog 299 [y, .fn g cap] h fun r h' =>r= .v (.int .i64 (ixD q ds))∧h' =h:=by
 refine ak.body hU hm Tryz.func299 rfl (by kernel_rfl) 19 rfl [.tmp 4] rfl (Uf rfl) (fun hwf=> ?_)
 simp only [go_sem,hb.len];refine .intro (fun m ρ h' =>h' =h∧∃i:Nat,i≤xs.length∧m=xs.length - i∧(∀j (hj:j<i) (h2:j<ds.length),q ds[j]=false)∧lk ρ 0=some y∧lk ρ 1=some (.fn g cap)∧lk ρ 7=some (.v (.int .i64 xs.length))∧lk ρ 8=some (.v (.int .i64 i))) xs.length ?_ ?_
 ·refine ⟨rfl,0,by omega,rfl,fun j hj=>(by omega), ?_, ?_, ?_, ?_⟩<;>simp only [go_sem]
 ·rintro m ρ h' ⟨rfl,i,hi,rfl,hc,r0,r1,r7,r8⟩
  simp only [go_sem,r7,r8];refine .intro (fun e=> ?_) (fun e=> ?_)
  ·have hlt:i<xs.length:=Un e
   have hlt2:i<ds.length:=by omega
   have w1:=Um i (by omega)
   simp only [go_sem,r0,r1,r8];refine hb.idx (e:=123) i rfl hlt (by simp only [go_sem]) (by decide) fun p hp1=> ?_
   have hld:=hp1.all (U:=U) (ty:=123) (by simp only [go_sem]) (by simp only [go_sem]; exact hb.1 _ (Ul hlt)) (by simp only [go_sem]; rw [hx _ (Ul hlt)])
   simp only [go_sem,hld];refine (show ak Tryz.prog g (xs[i]::cap) _ _ from hp i hlt hlt2).pthen ?_
   cases d1:q ds[i]
   ·simp only [go_sem,r8,w1]
    refine ⟨_, ?_,rfl,i+1,by omega,rfl,fun j hj h2=> ?_, ?_, ?_, ?_, ?_⟩
    ·omega
    ·by_cases hji:j=i
     ·subst hji; exact d1
     ·exact hc j (by omega) h2
    all_goals simp only [go_sem,r0,r1,r7]
   ·simp only [go_sem]
    exact .same (.refl _) ⟨by rw [lD hlt2 d1 fun j hj=>hc j hj (by omega)]; rfl,rfl⟩
  ·have hge:i=xs.length:=by have:=Uj e; omega
   simp only [go_sem];exact .same (.refl _) ⟨by rw [gX fun j hj=>hc j (by omega) hj]; rfl,rfl⟩
theorem EG {h:Heap} (g:bf) {k1 k2:Nat} {cat:Int} {name:Txt} (h1:h k1=some (.obj [.v (.int .i64 cat)] 3)) (h2:h k2=some (.obj [.s name] 9)):ak Tryz.prog 300 [jh g, .ptr k1 0, .ptr k2 0] h fun r h' =>r= .v (.bool (gb cat name g))∧h' =h:=by
 refine ak.body hU hm Tryz.func300 rfl (by kernel_rfl) 15 rfl [.tmp 4] rfl (Uf rfl) (fun hwf=> ?_)
 simp only [go_sem,jh];intro i1 hi1;have n1:k1≠i1:=fun e=>by subst e; rw [h1] at hi1; cases hi1
 have n2:k2≠i1:=fun e=>by subst e; rw [h2] at hi1; cases hi1
 simp only [go_sem,aj,n1,h1];cases d1:(g.cat==cat)
 ·simp only [go_sem]
  exact .mk _ (.refl _) (.ai hi1) ⟨by simp only [gb,d1]; rfl,rfl⟩
 ·simp only [go_sem,aj,n2,h2]
  exact .mk _ (.refl _) (.ai hi1) ⟨by simp only [gb,d1]; rfl,rfl⟩
theorem GO (gs:List bf) (cat:Int) (name:Txt) (hl:gs.length≤1000000000) (h:Heap):ak Tryz.prog 277 [bw gs, .v (.int .i64 cat), .s name] h fun r h' =>r= .v (.int .i64 (ixD (gb cat name) gs))∧h' =h:=by
 refine ak.body hU hm Tryz.func277 rfl (by kernel_rfl) 10 rfl [.tmp 6] rfl (Uf rfl) (fun hwf=> ?_)
 simp only [go_sem,bw];intro i1 h1;simp only [go_sem];intro i2 h2;have n21:=aH h2;have n2:=aE h2;have hs:∀a b,Ab.Sub h (upd (upd h i1 a) i2 b):=fun a b=>((Sub.refl h).put h1 a).put n2 b
 simp only [go_sem];refine (Ga _ _ gs (gb cat name) _ [.ptr i1 0, .ptr i2 0] _ (dS jh 3 (fun _=>rfl) _ gs) (by simp) (by simpa using hl) (lY (fun _=>rfl) _) fun i a b=>by
  rw [Uh]; exact EG _ (by rw [ag _ _ n21.symm,ah]) (ah ..)).pthen ?_
 simp only [go_sem];exact .mk _ (.refl _) (hs _ _) ⟨rfl,rfl⟩
theorem get_at {gs:List bf} {cat:Int} {name:Txt} (h:gs.findIdx (gb cat name)<gs.length):getD gs cat name=gs[gs.findIdx (gb cat name)].bag:=by
 unfold getD;rw [show gs.find? (gb cat name)=some gs[gs.findIdx (gb cat name)] from List.find?_eq_some_iff_getElem.2 ⟨List.findIdx_getElem (w:=h),_,h,rfl,fun j hj=>by simpa using List.not_of_lt_findIdx hj⟩]
theorem KS {gs:List bf} {cat:Int} {name:Txt} (h:¬gs.findIdx (gb cat name)<gs.length):getD gs cat name= []:=by
 unfold getD;have e:gs.findIdx (gb cat name)=gs.length:=by
  have:gs.findIdx (gb cat name)≤gs.length:=List.findIdx_le_length;omega
 rw [List.find?_eq_none.2 fun x hx=>by simpa using List.findIdx_eq_length.1 e x hx]
end Go.Proofs.YtmlhcdeamjkpjaaGreatDoor
namespace Go.Bf
open Go Go.Ab
def cT:Txt:= [99]
def stC (st:Txt) (log:List tW):aK:=⟨cT,tu,st,[],log⟩
def mG:List Txt:= [gw,tj,wW,ga]
abbrev lt (a b:Txt):Prop:=Op.bytesLess a b=true
theorem lt_irrefl:∀a:Txt,¬lt a a
 | []=>by simp [lt,Op.bytesLess]
 |a::x=>by
  have:=lt_irrefl x;simp only [lt,Op.bytesLess,Bool.or_eq_true,Bool.and_eq_true,decide_eq_true_eq,beq_self_eq_true,true_and,not_or];exact ⟨UInt8.lt_irrefl a,this⟩
theorem lt_trans:∀ {a b c:Txt},lt a b→lt b c→lt a c
 |_,[],_,h,_=>by cases ‹Txt›<;>simp [lt,Op.bytesLess] at h
 | [],b::y,c,_,h=>by cases c<;>simp [lt,Op.bytesLess] at h⊢
 |a::x,b::y,[],_,h=>by simp [lt,Op.bytesLess] at h
 |a::x,b::y,c::z,h1,h2=>by
  simp only [lt,Op.bytesLess,Bool.or_eq_true,Bool.and_eq_true,decide_eq_true_eq,beq_iff_eq] at h1 h2⊢;rcases h1 with h1|⟨rfl,h1⟩
  ·rcases h2 with h2|⟨rfl,h2⟩
   ·exact .inl (UInt8.lt_trans h1 h2)
   ·exact .inl h1
  ·rcases h2 with h2|⟨rfl,h2⟩
   ·exact .inl h2
   ·exact .inr ⟨rfl,lt_trans h1 h2⟩
theorem xu:∀a b:Txt,lt a b∨a=b∨lt b a
 | [],[]=> .inr (.inl rfl)
 | [],b::y=> .inl rfl
 |a::x,[]=> .inr (.inr rfl)
 |a::x,b::y=>by
  simp only [lt,Op.bytesLess,Bool.or_eq_true,Bool.and_eq_true,decide_eq_true_eq,beq_iff_eq];rcases UInt8.lt_or_lt_of_ne (a:=a) (b:=b) with h
  by_cases e:a=b
  ·subst e
   rcases xu x y with h|rfl|h
   ·exact .inl (.inr ⟨rfl,h⟩)
   ·exact .inr (.inl rfl)
   ·exact .inr (.inr (.inr ⟨rfl,h⟩))
  ·rcases h e with h|h
   ·exact .inl (.inl h)
   ·exact .inr (.inr (.inl h))
def Asc (cs:List aK):Prop:=cs.Pairwise fun a b=>lt a.id b.id
theorem CU {c:aK} {cs:List aK} {id:Txt} (h:¬lt c.id id):findD (c::cs) id=0:=by
 have:Op.bytesLess c.id id=false:=by simpa using h
 simp [findD,List.findIdx_cons,geB,this]
theorem CV {c:aK} {cs:List aK} {id:Txt} (h:lt c.id id):findD (c::cs) id=findD cs id+1:=by
 have:Op.bytesLess c.id id=true:=h;simp [findD,List.findIdx_cons,geB,this]
theorem rU:∀ {cs:List aK},Asc cs→∀id,bG cs id=cs.any fun c=>c.id==id
 | [],_,id=>rfl
 |c::cs,h,id=>by
  obtain ⟨h1,h2⟩:=List.pairwise_cons.1 h
  by_cases hl:lt c.id id
  ·have hne:(c.id==id)=false:=by
    rw [beq_eq_false_iff_ne];intro e; rw [e] at hl; exact lt_irrefl _ hl
   have e:bG (c::cs) id=bG cs id:=by
    unfold bG; rw [CV hl]; rfl
   rw [e,rU h2 id,List.any_cons,hne,Bool.false_or]
  ·have e:bG (c::cs) id=(c.id==id):=by
    unfold bG; rw [CU hl]; rfl
   rw [e,List.any_cons];cases hc:(c.id==id)
   ·have hlt:lt id c.id:=by
     rcases xu c.id id with h|h|h
     ·exact (hl h).elim
     ·rw [h,beq_self_eq_true] at hc; cases hc
     ·exact h
    rw [Bool.false_or];refine (List.any_eq_false.2 fun d hd=> ?_).symm
    intro he;have:=lt_trans hlt (h1 d hd);rw [beq_iff_eq.1 he] at this;exact lt_irrefl _ this
   ·simp
theorem CJ:∀ {cs:List aK},Asc cs→∀c:aK,(cs.any fun d=>d.id==c.id)=false→Asc (cs.take (findD cs c.id)++ [c]++cs.drop (findD cs c.id))
 | [],_,c,_=>by simp [Asc,findD]
 |d::cs,h,c,hn=>by
  obtain ⟨h1,h2⟩:=List.pairwise_cons.1 h;simp only [List.any_cons,Bool.or_eq_false_iff] at hn
  by_cases hl:lt d.id c.id
  ·rw [CV hl]
   simp only [List.take_succ_cons,List.drop_succ_cons,List.cons_append];refine List.pairwise_cons.2 ⟨fun e he=> ?_,CJ h2 c hn.2⟩
   simp only [List.mem_append,List.mem_singleton] at he;rcases he with (he|rfl)|he
   ·exact h1 e (List.mem_of_mem_take he)
   ·exact hl
   ·exact h1 e (List.mem_of_mem_drop he)
  ·rw [CU hl]
   have hlt:lt c.id d.id:=by
    rcases xu d.id c.id with h|h|h
    ·exact (hl h).elim
    ·rw [h,beq_self_eq_true] at hn; cases hn.1
    ·exact h
   refine List.pairwise_cons.2 ⟨fun e he=> ?_,h⟩
   rcases List.mem_cons.1 he with rfl|he
   ·exact hlt
   ·exact lt_trans hlt (h1 e he)
def Bd (fs:List cL):Prop:=fs.Pairwise fun a b=>lt a.name b.name
theorem xX (name:Txt) (v:bR):dW [] name v= [⟨name,v⟩]:=rfl
theorem vT {f:cL} {fs:List cL} {name:Txt} {v:bR} (h:lt f.name name):dW (f::fs) name v=f::dW fs name v:=by
 have hb:Op.bytesLess f.name name=true:=h;unfold dW;simp only [List.findIdx_cons,geB,hb,Bool.not_true,cond_false,List.getElem?_cons_succ];generalize hi:fs.findIdx (fun f=> !Op.bytesLess f.name name)=i
 cases e:fs[i]? with
 |none=>simp
 |some g=>
  by_cases hg:g.name=name
  ·simp [hg]
  ·simp [hg]
theorem vR {f:cL} {fs:List cL} {name:Txt} {v:bR} (h:f.name=name):dW (f::fs) name v=⟨f.name,v⟩::fs:=by
 subst h;have hb:Op.bytesLess f.name f.name=false:=by
  cases hb:Op.bytesLess f.name f.name
  ·rfl
  ·exact (lt_irrefl _ hb).elim
 unfold dW;simp [List.findIdx_cons,geB,hb]
theorem vS {f:cL} {fs:List cL} {name:Txt} {v:bR} (h:lt name f.name):dW (f::fs) name v=⟨name,v⟩::f::fs:=by
 have hb:Op.bytesLess f.name name=false:=by
  cases hb:Op.bytesLess f.name name
  ·rfl
  ·exact (lt_irrefl _ (lt_trans h hb)).elim
 have hne:f.name≠name:=fun e=>by rw [e] at h; exact lt_irrefl _ h
 unfold dW;simp [List.findIdx_cons,geB,hb,hne]
theorem rY:∀ {fs:List cL} {name:Txt} {v:bR} {g:cL},g∈dW fs name v→g=⟨name,v⟩∨g∈fs
 | [],name,v,g,h=>by rw [xX] at h; exact .inl (List.mem_singleton.1 h)
 |f::fs,name,v,g,h=>by
  rcases xu f.name name with hl|hl|hl
  ·rw [vT hl] at h
   rcases List.mem_cons.1 h with rfl|h
   ·exact .inr (List.mem_cons_self ..)
   ·rcases rY h with h|h
    ·exact .inl h
    ·exact .inr (List.mem_cons_of_mem _ h)
  ·rw [vR hl] at h
   rcases List.mem_cons.1 h with rfl|h
   ·exact .inl (by rw [hl])
   ·exact .inr (List.mem_cons_of_mem _ h)
  ·rw [vS hl] at h
   rcases List.mem_cons.1 h with rfl|h
   ·exact .inl rfl
   ·exact .inr h
theorem xV:∀ {fs:List cL} {name:Txt} {v:bR},Bd fs→Bd (dW fs name v)
 | [],name,v,_=>by rw [xX]; simp [Bd]
 |f::fs,name,v,h=>by
  obtain ⟨h1,h2⟩:=List.pairwise_cons.1 h;rcases xu f.name name with hl|hl|hl
  ·rw [vT hl]
   refine List.pairwise_cons.2 ⟨fun g hg=> ?_,xV h2⟩
   rcases rY hg with rfl|hg
   ·exact hl
   ·exact h1 g hg
  ·rw [vR hl]
   exact List.pairwise_cons.2 ⟨h1,h2⟩
  ·rw [vS hl]
   refine List.pairwise_cons.2 ⟨fun g hg=> ?_,h⟩
   rcases List.mem_cons.1 hg with rfl|hg
   ·exact hl
   ·exact lt_trans hl (h1 g hg)
theorem xW:∀ {fs:List cL} {name:Txt} {v:bR},Bd fs→(dW fs name v).length=if fs.any (fun f=>f.name==name) then fs.length else fs.length+1
 | [],name,v,_=>rfl
 |f::fs,name,v,h=>by
  obtain ⟨h1,h2⟩:=List.pairwise_cons.1 h;rcases xu f.name name with hl|hl|hl
  ·have hne:(f.name==name)=false:=by rw [beq_eq_false_iff_ne]; intro e; rw [e] at hl; exact lt_irrefl _ hl
   rw [vT hl,List.length_cons,xW h2,List.any_cons,hne,Bool.false_or];split<;>simp
  ·rw [vR hl]
   simp [hl]
  ·have hne:(f.name==name)=false:=by rw [beq_eq_false_iff_ne]; intro e; rw [e] at hl; exact lt_irrefl _ hl
   have hno:(fs.any fun f=>f.name==name)=false:=List.any_eq_false.2 fun g hg he=>by
    have:=lt_trans hl (h1 g hg);rw [beq_iff_eq.1 he] at this;exact lt_irrefl _ this
   rw [vS hl,List.any_cons,hne,hno];simp
theorem BH (f:cL) (fs:List cL) (n:Txt):dQ (f::fs) n=if f.name=n then f.val else dQ fs n:=by
 unfold dQ
 by_cases h:f.name=n<;>simp [h]
def mkC (who id:Txt):aK:=⟨id,who,gw,[],[⟨0,who,[110,101,119]⟩]⟩
def PN (cs:List aK) (id:Txt):Bool:=cs.any fun c=>c.id==id
end Go.Bf
namespace Go.Ab
open Go
section
variable {α : Type}
def dget (l:List (List UInt8×α)) (k:List UInt8):Option α:=(l.find? fun p=>p.1==k).map (·.2)
def dset (l:List (List UInt8×α)) (k:List UInt8) (v:α):List (List UInt8×α):=if (dget l k).isSome then l.map (fun p=>if p.1==k then (p.1,v) else p) else l++ [(k,v)]
end
end Go.Ab
namespace Go.Bf
open Go Go.Ab Go.Proofs.YtmlhcdeamjkpjaaGreatDoor
structure Own (cs:List aK) (own:List (Txt×Txt)):Prop where
 asc:Asc cs
 len:cs.length=own.length
 small:cs.length≤64
 mem:∀c∈cs,c=mkC c.owner c.id∧dget own c.id=some c.owner
 has:∀id,PN cs id=(dget own id).isSome
 who:∀id w,dget own id=some w→w≠ []
 keys:∀p∈own,p.1.length≤3
theorem ng:∀ {cs:List aK},Asc cs→∀ {id:Txt},bG cs id=true→bl cs id∈cs∧(bl cs id).id=id:=by
 intro cs ha id h;have hlt:=gL h;unfold bl;rw [if_pos h];have hg:cs.getD (findD cs id) kI=cs[findD cs id]:=by simp [hlt]
 rw [hg];refine ⟨Ul _, ?_⟩;unfold bG at h;rw [List.getElem?_eq_getElem hlt] at h;simpa using h
end Go.Bf
namespace Go.Proofs.YtmlhcdeamjkpjaaGreatDoor
open Go Go.Ab Go.Bf
def Pn (o:OpD):Prop:=i64 o.kind∧i64 o.val.kind∧i64 o.val.n∧i64 o.review
theorem inH {P:Program} {f:FuncId} {args:List AV} {h:Heap} {Q:AV→Heap→Prop} (hh:∀H2,H2=h→ak P f args H2 Q):ak P f args h Q:=hh h rfl
end Go.Proofs.YtmlhcdeamjkpjaaGreatDoor
namespace Go.Bf
open Go Go.Ab Go.Proofs.YtmlhcdeamjkpjaaGreatDoor
def PR (v:Int):bR:=⟨2,v,[]⟩
structure Last (fs:List cL) (last:List (Txt×Int)):Prop where
 asc:Bd fs
 len:fs.length=last.length
 small:fs.length≤16
 kind:∀f∈fs,f.val.kind=2
 get:∀n,dQ fs n=((dget last n).map PR).getD az
 keys:∀p∈last,p.1.length=2
end Go.Bf
namespace Go.Bf
open Go Go.Ab
def Fine (n:Nat) (st:PS):Prop:=(st.bad=0∨st.bad=5∨st.bad=6)∧0≤st.place∧st.place≤n
def x7 (n:Nat) (ts:List oN):Prop:=∀i,0≤(ts.getD i ⟨7,0,0,[]⟩).pos∧(ts.getD i ⟨7,0,0,[]⟩).pos≤n
theorem uA {n:Nat} {st:PS} {e p:Int} (h:Fine n st) (he:e=5∨e=6) (h0:0≤p) (h1:p≤n):Fine n (bt st e p):=by
 unfold bt; split
 ·exact ⟨.inr he,h0,h1⟩
 ·exact h
theorem zI {n:Nat} {a b:PS} (h:Rch a b) (ht:x7 n a.ts) (hf:Fine n a):Fine n b:=by
 induction h with
 |refl=>exact hf
 |wrong e p h1 he hp ih=>
  obtain ⟨i,_,rfl⟩:=hp;rw [(oJ h1).1];exact uA ih he (ht i).1 (ht i).2
 |next _ _ _ ih=>exact ih
theorem Dj {a b:PS} (h:lB a b):b.ts=a.ts:=by
 induction h with
 |refl=>rfl
 |small _ h1 ih=>exact (oJ h1).1.trans ih
 |rule _ _ _ _ ih=>exact ih
theorem D1 {n:Nat} {a b:PS} (h:lB a b) (ht:x7 n a.ts) (hf:Fine n a):Fine n b:=by
 induction h with
 |refl=>exact hf
 |small h1 h2 ih=>exact zI h2 (by rw [Dj h1]; exact ht) ih
 |rule _ _ _ _ ih=>exact ih
theorem uK {s:Txt} {ts:List oN} (h:pH s= .ok ts):x7 s.length ts:=by
 obtain ⟨pre,rfl,_,h3,_⟩:=xp h;intro i;rw [List.getD_eq_getElem?_getD]
 by_cases hi:i<pre.length
 ·rw [List.getElem?_append_left hi,List.getElem?_eq_getElem hi]
  have:=h3 _ (Ul hi);exact ⟨this.1,by simp only [Option.getD_some]; omega⟩
 ·rw [List.getElem?_append_right (by omega)]
  by_cases h0:i - pre.length=0
  ·rw [h0]; simp
  ·rw [List.getElem?_eq_none (by simp; omega)]; simp
theorem F0 {s:Txt} {ts:List oN} (h:pH s= .ok ts):Fine s.length (mU s (fO 4 ⟨ts,0,0,0,0⟩)):=by
 have h0:Fine s.length ⟨ts,0,0,0,0⟩:=⟨.inl rfl,Int.le_refl _,by show (0:Int)≤_; omega⟩
 have hr:=yM 4 ⟨ts,0,0,0,0⟩;have h1:=D1 hr (uK h) h0;have ht:x7 s.length (fO 4 ⟨ts,0,0,0,0⟩).2.ts:=by rw [Dj hr]; exact uK h
 have h2:Fine s.length (if (aI (fO 4 ⟨ts,0,0,0,0⟩).2).kind=7 then (fO 4 ⟨ts,0,0,0,0⟩).2 else aZ (fO 4 ⟨ts,0,0,0,0⟩).2):=by
  split
  ·exact h1
  ·exact zI (jq _) ht h1
 unfold mU;generalize (if (aI (fO 4 ⟨ts,0,0,0,0⟩).2).kind=7 then (fO 4 ⟨ts,0,0,0,0⟩).2 else aZ (fO 4 ⟨ts,0,0,0,0⟩).2)=st1 at h2⊢
 split
 ·exact uA h2 (.inl rfl) (by omega) (Int.le_refl _)
 ·exact h2
theorem Ay (s:Txt):(aN s).2.1=0∧(aN s).2.2=0∧fK (aN s).1=0∨
  ((aN s).2.1=5∨(aN s).2.1=6)∧0≤(aN s).2.2∧(aN s).2.2≤s.length∧(aN s).1=lV:=by
 unfold aN;cases h:pH s with
 |bad e a=>
  have:=uW h;exact .inr ⟨this.1,this.2.1,this.2.2,rfl⟩
 |ok ts=>
  have hf:=F0 h;simp only [vj];split
  ·rename_i hb
   refine .inl ⟨rfl,rfl, ?_⟩;simp only;unfold mU at hb;generalize (if (aI (fO 4 ⟨ts,0,0,0,0⟩).2).kind=7 then (fO 4 ⟨ts,0,0,0,0⟩).2 else aZ (fO 4 ⟨ts,0,0,0,0⟩).2)=st1 at hb
   split at hb
   ·rename_i hc
    unfold bt at hb;rw [if_pos hc.1] at hb;exact absurd hb (by show¬(5:Int)=0; decide)
   ·rename_i hc
    exact Classical.byContradiction fun hn=>hc ⟨hb,hn⟩
  ·rename_i hb
   exact .inr ⟨hf.1.resolve_left hb,hf.2.1,hf.2.2,rfl⟩
end Go.Bf
namespace Go.Bf
open Go Go.Ab Go.Proofs.YtmlhcdeamjkpjaaGreatDoor
theorem od {p:bB} (h:fK p=0):kE 1 p:=by
 cases hw:jn ⟨[],0⟩ 1 p with
 |bad e=>
  have:=qM 4 1 _ _ e rfl hw;rw [fK,hw] at h;exact (this h).elim
 |ok m=>exact Dh _ _ _ _ hw
theorem Ks {fs:List cL} (h:∀f∈fs,eqV f.val az=false) (n:Txt):(fs.any fun f=>f.name==n)= !(eqV (dQ fs n) az):=by
 induction fs with
 |nil=>rfl
 |cons f fs ih=>
  rw [BH,List.any_cons]
  by_cases e:f.name=n
  ·rw [if_pos e,h f (List.mem_cons_self ..)]
   simp [e]
  ·rw [if_neg e]
   have e' :(f.name==n)=false:=by simpa using e
   rw [e',Bool.false_or];exact ih fun g hg=>h g (List.mem_cons_of_mem _ hg)
structure q7 (c:aK):Prop where
 id:bn c.id=true
 owner:bn c.owner=true
 state:c.state∈mG
 asc:Bd c.fields
 nfields:c.fields.length≤16
 field:∀f∈c.fields,bn f.name=true∧bX f.val=true∧eqV f.val az=false
 log1:1≤c.log.length
 log2:c.log.length≤256
 actor:∀x∈c.log,bn x.actor=true∧i64 x.tick
structure cN (k:Nat) (s:an):Prop where
 tick:0≤s.tick∧s.tick≤1099511627776
 asc:Asc s.cases
 ncases:s.cases.length≤64
 case:∀c∈s.cases,q7 c
 nrev:s.reviews.length≤1000
 nnot:s.notices.length≤1000
 roles:s.roles.length≤64
 role:∀r∈s.roles,bn r.subj=true∧bn r.role=true
 pol:fK s.policy=0
 ver:0≤s.version∧s.version≤k
theorem cN.few {k:Nat} {s:an} (h:cN k s):Few s:=by
 have h1:=h.ncases;have h2:=h.nrev;have h3:=h.nnot;have h4:=h.roles;refine ⟨by omega,fun c hc=> ?_,fun c hc=> ?_,by omega,by omega,by omega⟩
 ·have:=(h.case c hc).nfields; omega
 ·have:=(h.case c hc).log2; omega
theorem cN.kE {k:Nat} {s:an} (h:cN k s):kE 1 s.policy:=od h.pol
theorem cN.Cw {k:Nat} {s:an} (h:cN k s):i64 s.tick:=by
 have:=h.tick;constructor<;>omega
theorem EY:cN 0 wg:=by
 refine ⟨by decide, .nil,by decide,fun c h=>(by cases h),by decide,by decide,by decide,fun r h=>(by cases h),by kernel_rfl,by decide⟩
theorem jf {s:Txt} (h:iL s=true) (hn:s≠ []):bn s=true:=by
 simp only [iL,Bool.or_eq_true,beq_iff_eq] at h;exact h.resolve_left hn
structure J9 (o:OpD):Prop where
 subj:bn o.subj=true
 kind:1≤o.kind∧o.kind≤8
 case:iL o.case=true
 field:iL o.field=true
 to:iL o.to=true
 val:eqV o.val az=true∨bX o.val=true
 text:o.text.length≤4096
 ok:okD o=true
theorem qp {o:OpD} (h:fq o=true):J9 o:=by
 simp only [fq,Bool.and_eq_true,decide_eq_true_eq,Bool.or_eq_true,cX] at h;obtain ⟨⟨⟨⟨⟨⟨⟨h1,h2⟩,h3⟩,h4⟩,h5⟩,h6⟩,h7⟩,⟨⟨h8,h9⟩,h10⟩,h11⟩:=h;exact ⟨h1,⟨h8,h9⟩,h4,h5,h6,h7,h3,h10⟩
theorem uB {a b:Txt} (h:jE a b=true):b∈mG:=by
 unfold jE at h;simp only [mG,List.mem_cons,List.not_mem_nil,or_false];split at h
 ·exact .inr (.inl (by simpa using h))
 ·split at h
  ·exact .inr (.inr (.inl (by simpa using h)))
  ·split at h
   ·simp only [Bool.or_eq_true,beq_iff_eq] at h
    rcases h with h|h
    ·exact .inr (.inl h)
    ·exact .inr (.inr (.inr h))
   ·cases h
theorem mem_modify {α:Type} {l:List α} {i:Nat} {f:α→α} {x:α} (h:x∈l.modify i f):x∈l∨∃hi:i<l.length,x=f l[i]:=by
 obtain ⟨j,hj,rfl⟩:=List.mem_iff_getElem.1 h;have hj' :j<l.length:=by simpa using hj
 rw [List.getElem_modify];split
 ·rename_i e; subst e; exact .inr ⟨hj',rfl⟩
 ·exact .inl (Ul hj')
theorem jj {α β:Type} {l:List α} {i:Nat} {f:α→α} {g:α→β} (h:∀x,g (f x)=g x):(l.modify i f).map g=l.map g:=by
 refine List.ext_getElem (by simp) fun j h1 h2=> ?_
 simp only [Uh,List.getElem_modify];split
 ·exact h _
 ·rfl
theorem yj {cs cs' :List aK} (h:cs'.map (·.id)=cs.map (·.id)) (ha:Asc cs):Asc cs' :=by
 unfold Asc at*;have h1:(cs.map (·.id)).Pairwise lt:=by rw [List.pairwise_map]; exact ha
 rw [←h,List.pairwise_map] at h1;exact h1
theorem IU {cs:List aK} {i:Nat} {c d:aK} (h:d∈cs.take i++ [c]++cs.drop i):d=c∨d∈cs:=by
 simp only [List.mem_append,List.mem_singleton] at h;rcases h with (h|h)|h
 ·exact .inr (List.mem_of_mem_take h)
 ·exact .inl h
 ·exact .inr (List.mem_of_mem_drop h)
theorem Ht {k:Nat} {s:an} {o:OpD} (hs:cN k s) (hr:bD s o=0):cN (k+1) (doD aN s o):=by
 have hf:fq o=true:=by
  unfold bD at hr;cases h:fq o with
  |true=>rfl
  |false=>rw [h] at hr; simp at hr
 have F:=qp hf;have vk:0≤s.version∧s.version≤((k+1:Nat):Int):=⟨hs.ver.1,by have:=hs.ver.2; omega⟩
 unfold bD at hr;rw [hf] at hr;simp only [Bool.true_eq_false,if_false] at hr;have hok:=F.ok;unfold okD at hok;have t64:=hs.Cw;unfold doD
 by_cases k1:o.kind=1
 ·simp only [k1,if_true] at hr hok⊢
  have hno:bG s.cases o.case=false:=by
   cases h:bG s.cases o.case with
   |false=>rfl
   |true=>rw [h] at hr; simp at hr
  rw [hno] at hr;simp only [Bool.false_eq_true,if_false] at hr;have hlt:¬64≤s.cases.length:=fun h=>by simp [h] at hr
  have hc:bn o.case=true:=jf F.case (by simpa using hok)
  rw [rU hs.asc] at hno;refine {hs with asc:= ?_,ncases:= ?_,case:= ?_,ver:=vk}
  ·exact CJ hs.asc (hY s ⟨o.case,o.subj,gw,[],[]⟩ o.subj [110,101,119]) hno
  ·have:findD s.cases o.case≤s.cases.length:=List.findIdx_le_length
   simp; omega
  ·intro c h
   rcases IU h with rfl|h
   ·exact ⟨hc,F.subj,by simp [hY,mG], .nil,by simp [hY],fun f h=>(by cases h),by simp [hY],by simp [hY],fun x h=>by
     simp only [hY,List.nil_append,List.mem_singleton] at h;subst h;exact ⟨F.subj,t64⟩⟩
   ·exact hs.case c h
 ·simp only [k1,if_false] at hr hok⊢
  by_cases k3:o.kind=3
  ·have hk:2≤o.kind∧o.kind≤4:=by omega
   simp only [hk,and_self,if_true] at hr;simp only [k3,if_true];have e2:¬(o.kind=2∨o.kind=6):=by omega
   simp only [k3,if_true,show¬((3:Int)=2∨(3:Int)=6) by decide,if_false,Bool.and_eq_true,Bool.not_eq_true'] at hok
   have hth:bG s.cases o.case=true:=by
    unfold bP at hr;cases h:bG s.cases o.case with
    |true=>rfl
    |false=>rw [h] at hr; simp at hr
   unfold bP at hr;rw [hth] at hr;simp only [Bool.true_eq_false,if_false,k3,true_and] at hr;obtain ⟨hm,hid⟩:=ng hs.asc hth;have hlt:=gL hth;have hce:bl s.cases o.case=s.cases[findD s.cases o.case]:=by
    unfold bl; rw [if_pos hth]; simp [hlt]
   rw [hce] at hr hm;generalize hcc:s.cases[findD s.cases o.case]=c at hr hm;have hc:=hs.case c hm;have h16:¬(c.fields.length≥16∧eqV (dQ c.fields o.field) az=true):=fun h=>by simp [h.1,h.2] at hr
   rw [if_neg h16] at hr;have hlg:¬c.log.length≥256:=fun h=>by simp [h] at hr
   have hnf:bn o.field=true:=jf F.field (by simpa using hok.1.2)
   have hvz:eqV o.val az=false:=hok.2;have hv:bX o.val=true:=F.val.resolve_left (by rw [hvz]; simp)
   refine {hs with asc:= ?_,ncases:= ?_,case:= ?_,ver:=vk}
   ·exact yj (jj fun x=>rfl) hs.asc
   ·simpa using hs.ncases
   ·intro d hd
    rcases mem_modify hd with hd|⟨hi,rfl⟩
    ·exact hs.case d hd
    ·rw [hcc]
     have hany:=Ks (fun f hf=>(hc.field f hf).2.2) o.field
     have hlen:=xW (v:=o.val) (name:=o.field) hc.asc;refine ⟨hc.id,hc.owner,hc.state,xV hc.asc, ?_, ?_,by simp [hY], ?_, ?_⟩
     ·simp only [hY]
      rw [hlen,hany];have:=hc.nfields;cases he:eqV (dQ c.fields o.field) az
      ·simp; omega
      ·rw [he] at h16; simp at h16⊢; omega
     ·intro f hf
      rcases rY hf with rfl|hf
      ·exact ⟨hnf,hv,hvz⟩
      ·exact hc.field f hf
     ·simp only [hY,Uk,List.length_singleton]; omega
     ·intro x hx
      simp only [hY,List.mem_append,List.mem_singleton] at hx;rcases hx with hx|rfl
      ·exact hc.actor x hx
      ·exact ⟨F.subj,t64⟩
  ·simp only [k3,if_false] at hok⊢
   by_cases k4:o.kind=4
   ·have hk:2≤o.kind∧o.kind≤4:=by omega
    simp only [hk,and_self,if_true] at hr;simp only [k4,if_true];have hth:bG s.cases o.case=true:=by
     unfold bP at hr;cases h:bG s.cases o.case with
     |true=>rfl
     |false=>rw [h] at hr; simp at hr
    unfold bP at hr;rw [hth] at hr;simp only [Bool.true_eq_false,if_false,k4] at hr;obtain ⟨hm,hid⟩:=ng hs.asc hth;have hlt:=gL hth;have hce:bl s.cases o.case=s.cases[findD s.cases o.case]:=by
     unfold bl; rw [if_pos hth]; simp [hlt]
    rw [hce] at hr hm;generalize hcc:s.cases[findD s.cases o.case]=c at hr hm;have hc:=hs.case c hm;simp only [show¬((4:Int)=3) by decide,false_and,if_false,show ((4:Int)≠2) by decide,ne_eq,not_false_eq_true,true_and,false_or] at hr
    have hlg:¬c.log.length≥256:=fun h=>by simp [h] at hr
    rw [if_neg hlg] at hr;have hfo:jE c.state o.to=true:=by
     cases h:jE c.state o.to with
     |true=>rfl
     |false=>rw [h] at hr; simp at hr
    refine {hs with asc:= ?_,ncases:= ?_,case:= ?_,ver:=vk}
    ·exact yj (jj fun x=>rfl) hs.asc
    ·simpa using hs.ncases
    ·intro d hd
     rcases mem_modify hd with hd|⟨hi,rfl⟩
     ·exact hs.case d hd
     ·rw [hcc]
      refine ⟨hc.id,hc.owner,uB hfo,hc.asc,hc.nfields,hc.field,by simp [hY], ?_, ?_⟩
      ·simp only [hY,Uk,List.length_singleton]; omega
      ·intro x hx
       simp only [hY,List.mem_append,List.mem_singleton] at hx;rcases hx with hx|rfl
       ·exact hc.actor x hx
       ·exact ⟨F.subj,t64⟩
   ·simp only [k4,if_false] at hok⊢
    by_cases k5:o.kind=5
    ·simp only [k5,if_true]
     refine {hs with nrev:= ?_,ver:=vk}
     simpa using hs.nrev
    ·simp only [k5,if_false] at hok⊢
     by_cases k6:o.kind=6
     ·have hk:¬(2≤o.kind∧o.kind≤4):=by omega
      simp only [k6,if_true] at hr;simp only [k6,if_true];simp only [k6,or_true,if_true,Bool.and_eq_true] at hok;have hc:bn o.case=true:=jf F.case (by simpa using hok.1)
      have hfd:bn o.field=true:=jf F.field (by simpa using hok.2)
      cases hh:uG s.roles ⟨o.case,o.field⟩ with
      |true=>simp only [if_true]; exact {hs with ver:=vk}
      |false=>
       rw [hh] at hr;have hlt:¬s.roles.length≥64:=fun h=>by simp [h] at hr
       simp only [Bool.false_eq_true,if_false];refine {hs with roles:= ?_,role:= ?_,ver:=vk}
       ·simp only [Uk,List.length_singleton]; omega
       ·intro r h
        rcases List.mem_append.1 h with h|h
        ·exact hs.role r h
        ·rw [List.mem_singleton.1 h]; exact ⟨hc,hfd⟩
     ·simp only [k6,if_false]
      by_cases k7:o.kind=7
      ·simp only [k7,if_true]
       by_cases hp:(aN o.text).2.1=0
       ·simp only [hp,if_true]
        have hr0:fK (aN o.text).1=0:=by
         rcases Ay o.text with h|h
         ·exact h.2.2
         ·have:=h.1; exact absurd hp (by simp_all)
        refine {hs with pol:=hr0,ver:= ?_}
        have:=hs.ver;constructor
        ·show 0≤s.version+1; omega
        ·show s.version+1≤_; omega
       ·simp only [hp,if_false]
        exact {hs with ver:=vk}
      ·simp only [k7,if_false]
       by_cases k8:o.kind=8
       ·simp only [k8,if_true]
        have hk:¬(2≤o.kind∧o.kind≤4):=by omega
        simp only [k8,if_true] at hr;have hlt:¬s.tick>1099511627776 - o.review:=fun h=>by simp [h] at hr
        simp only [k8,show¬((8:Int)=2∨(8:Int)=6) by decide,if_false,if_true,Bool.and_eq_true,decide_eq_true_eq] at hok
        refine {hs with tick:= ?_,ver:=vk}
        have:=hs.tick;constructor
        ·show 0≤s.tick+o.review; omega
        ·show s.tick+o.review≤_; omega
       ·simp only [k8,if_false]
        exact {hs with ver:=vk}
theorem mH {k:Nat} {s:an} (o:OpD) (hs:cN k s):cN (k+1) (dw aN s o):=by
 unfold dw
 by_cases h:bD s o=0
 ·rw [if_pos h]; exact Ht hs h
 ·rw [if_neg h]
  exact {hs with ver:=⟨hs.ver.1,by have:=hs.ver.2; omega⟩}
theorem fu.eq {xs:List AV} {sz:Nat} (j:Nat) (hj:j<xs.length) (hz:xs[j].cells.length=sz) (k:AV→Prop):fu xs (j:Int) sz k=k (.pe xs[j] 0):=propext ⟨fun h=>by
 obtain ⟨_,b,hb,_,hk⟩:=h;have:xs[j]? =some xs[j]:=by simp [hj]
 rw [show ((j:Int).toNat)=j by simp,this] at hb
 cases hb;exact hk,fun h=>fu.at j hj hz h⟩
def wJ (l:List bR):Prop:=l.length≤16∧∀v∈l,bX v=true∧∀w∈l.head?,v.kind=w.kind
structure Jl (gs:List bf):Prop where
 len:gs.length≤64
 each:∀g∈gs,1≤g.cat∧g.cat≤4∧bn g.name=true∧wJ g.bag
 dist:gs.Pairwise fun a b=>gb b.cat b.name a=false
def qw (g:bf):Int×Txt:=(g.cat,g.name)
theorem FQ (gs:List bf):(gs.Pairwise fun a b=>gb b.cat b.name a=false)↔(gs.map qw).Nodup:=by
 rw [List.Nodup,List.pairwise_map];have:(fun a b:bf=>gb b.cat b.name a=false)=fun a b=>qw a≠qw b:=by
  funext a b
  simp [gb,qw]
 rw [this]
theorem hD {v:bR} (h:bX v=true):wJ [v]:=⟨by simp,fun w hw=>by rw [List.mem_singleton.1 hw]; exact ⟨h,fun u hu=>by simp at hu; rw [hu]⟩⟩
theorem l9 {s:Txt} (h:bn s=true):bX (idV s)=true:=by simp [bX,idV,h]
theorem DE {l:List gj} (h:∀r∈l,bn r.role=true) (s:Txt):wJ (cK l s):=by
 have hv:∀v∈cK l s,bX v=true∧v.kind=5:=fun v hv=>by
  have:=List.mem_of_mem_take hv;obtain ⟨r,hr,rfl⟩:=List.mem_map.1 this;exact ⟨l9 (h r (List.mem_filter.1 hr).1),rfl⟩
 refine ⟨by simp only [cK,List.length_take]; omega,fun v hm=>⟨(hv v hm).1,fun w hw=> ?_⟩⟩
 rw [(hv v hm).2,(hv w (List.mem_of_mem_head? hw)).2]
theorem FJ {c:UInt8} {i j:Nat} (h:pY c j=true) (hi:i≠0):pY c i=true:=by
 simp only [pY,Bool.or_eq_true,Bool.and_eq_true,decide_eq_true_eq] at h⊢;rcases h with h|⟨_,h⟩
 ·exact .inl h
 ·exact .inr ⟨hi,h⟩
theorem BI {n:Txt} (h:bn n=true) (hl:n.length≤14):bn ([102,95]++n)=true:=by
 simp only [bn,Bool.and_eq_true,decide_eq_true_eq] at h⊢;obtain ⟨⟨h1,h2⟩,h3⟩:=h;refine ⟨⟨?_,by simp⟩,by simp; omega⟩
 unfold sr at h1⊢;rw [List.all_eq_true] at h1⊢
 rintro ⟨c,i⟩ hp
 rw [List.mk_mem_zipIdx_iff_getElem?] at hp
 match i,hp with
 |0,hp=>cases hp; rfl
 |1,hp=>cases hp; rfl
 |i+2,hp=>
  have hp:n[i]? =some c:=by simpa using hp
  exact FJ (h1 (c,i) (List.mk_mem_zipIdx_iff_getElem?.2 hp)) (by omega)
theorem Cs {s:Txt} (h:s∈mG):bn s=true:=by
 simp only [mG,List.mem_cons,List.not_mem_nil,or_false] at h;rcases h with rfl|rfl|rfl|rfl<;>kernel_rfl
theorem y8 (k:Int) (h:1≤k∧k≤8):bn (iJ k)=true:=by
 have:(List.range 9).all (fun n=>bn (iJ n))=true:=by kernel_rfl
 have h2:=List.all_eq_true.1 this k.toNat (List.mem_range.2 (by omega))
 rwa [show ((k.toNat:Nat):Int)=k by omega] at h2
theorem Hz (l:List tW) (s:Txt):bX (qV l s)=true:=by
 unfold qV;cases l.any fun x=>x.actor==s<;>rfl
theorem DJ {c:aK} (hc:q7 c) (s:Txt):∀g∈cq c s,g.cat=3∧bn g.name=true∧wJ g.bag:=by
 intro g hg;simp only [cq,List.mem_append,List.mem_cons,List.not_mem_nil,or_false] at hg;rcases hg with ((rfl|rfl|rfl|rfl|rfl)|hg)|hg
 ·exact ⟨rfl,by kernel_rfl,hD (l9 hc.id)⟩
 ·exact ⟨rfl,by kernel_rfl,hD (l9 hc.owner)⟩
 ·exact ⟨rfl,by kernel_rfl,hD (l9 (Cs hc.state))⟩
 ·exact ⟨rfl,by kernel_rfl,hD (by simp [bX])⟩
 ·exact ⟨rfl,by kernel_rfl,hD (Hz _ _)⟩
 ·cases hl:c.log.getLast? with
  |none=>rw [hl] at hg; cases hg
  |some x=>
   rw [hl] at hg;rw [List.mem_singleton.1 hg];exact ⟨rfl,by kernel_rfl,hD (l9 (hc.actor x (List.mem_of_getLast? hl)).1)⟩
 ·obtain ⟨f,hf,rfl⟩:=List.mem_map.1 hg
  obtain ⟨hf1,hf2⟩:=List.mem_filter.1 hf;have hf2:f.name.length≤14:=by simpa using hf2
  obtain ⟨h1,h2,_⟩:=hc.field f hf1;exact ⟨rfl,BI h1 hf2,hD h2⟩
theorem DI {c:aK} (hc:q7 c) (s:Txt):((cq c s).map qw).Nodup:=by
 have hfn:(((c.fields.filter fun f=>decide (f.name.length≤14)).map fun f=>(⟨3,[102,95]++f.name,[f.val]⟩:bf)).map qw).Nodup:=by
  rw [List.map_map,List.Nodup,List.pairwise_map];refine ((List.Pairwise.filter _ hc.asc).imp fun {a b} hab he=> ?_)
  simp only [Function.comp,qw,Prod.mk.injEq,true_and,List.append_cancel_left_eq] at he;rw [he] at hab;exact lt_irrefl _ hab
 have hff:∀x∈((c.fields.filter fun f=>decide (f.name.length≤14)).map fun f=>(⟨3,[102,95]++f.name,[f.val]⟩:bf)).map qw,∃t,x=(3,102::t):=by
  intro x hx;obtain ⟨g,hg,rfl⟩:=List.mem_map.1 hx;obtain ⟨f,hf,rfl⟩:=List.mem_map.1 hg;exact ⟨_,rfl⟩
 unfold cq;rw [List.map_append,List.nodup_append];refine ⟨?_,hfn, ?_⟩
 ·cases c.log.getLast? with
  |none=>simp [qw,idT]
  |some x=>simp [qw,idT]
 ·intro a ha b hb
  obtain ⟨t,rfl⟩:=hff b hb;intro e;subst e;cases hl:c.log.getLast? with
  |none=>
   rw [hl] at ha;simp [qw,idT] at ha
  |some x=>
   rw [hl] at ha;simp [qw,idT] at ha
theorem DD {k:Nat} {s:an} {o:OpD} (hs:cN k s) (hf:fq o=true):Jl (eT s o):=by
 have F:=qp hf;have hcs:∀g∈(if bG s.cases o.case=true∧o.kind≠6 then cq (bl s.cases o.case) o.subj else []),g.cat=3∧bn g.name=true∧wJ g.bag:=by
  intro g hg;split at hg
  ·rename_i ht
   exact DJ (hs.case _ (ng hs.asc ht.1).1) _ g hg
  ·cases hg
 have hcd:((if bG s.cases o.case=true∧o.kind≠6 then cq (bl s.cases o.case) o.subj else []).map qw).Nodup:=by
  split
  ·rename_i ht
   exact DI (hs.case _ (ng hs.asc ht.1).1) _
  ·exact .nil
 have hcl:(if bG s.cases o.case=true∧o.kind≠6 then cq (bl s.cases o.case) o.subj else []).length≤22:=by
  split
  ·rename_i ht
   have hc:=hs.case _ (ng hs.asc ht.1).1;have h16:=hc.nfields;have:((bl s.cases o.case).fields.filter fun f=>decide (f.name.length≤14)).length≤(bl s.cases o.case).fields.length:=List.length_filter_le _ _
   simp only [cq,Uk,Ug,List.length_cons,List.length_nil];cases (bl s.cases o.case).log.getLast? <;>simp<;>omega
  ·simp
 unfold eT;generalize (if bG s.cases o.case=true∧o.kind≠6 then cq (bl s.cases o.case) o.subj else [])=C at hcs hcd hcl⊢
 have e1:(if o.field= [] then [] else [(⟨2,[102,105,101,108,100],[idV o.field]⟩:bf)])=if o.field= [] then [] else [(⟨2,[102,105,101,108,100],[idV o.field]⟩:bf)]:=rfl
 have hro:wJ (cK s.roles o.subj):=DE (fun r hr=>(hs.role r hr).2) _
 have htk:bX ⟨4,s.tick,[]⟩=true:=by
  have:=hs.tick;simp [bX,this]
 have hac:=l9 (y8 o.kind F.kind);have hsu:=l9 F.subj;refine ⟨?_, ?_, ?_⟩
 ·by_cases p1:o.field= []<;>by_cases p2:o.to= []<;>simp [p1,p2]<;>omega
 ·intro g hg
  simp only [List.mem_append,List.mem_cons,List.not_mem_nil,or_false] at hg;rcases hg with ((((rfl|rfl|rfl)|hg)|hg)|rfl)|hg
  ·exact ⟨by simp,by simp,by kernel_rfl,hD hsu⟩
  ·exact ⟨by simp,by simp,by kernel_rfl,hro⟩
  ·exact ⟨by simp,by simp,by kernel_rfl,hD hac⟩
  ·split at hg
   ·cases hg
   ·rename_i hne
    rw [List.mem_singleton.1 hg];exact ⟨by simp,by simp,by kernel_rfl,hD (l9 (jf F.field hne))⟩
  ·split at hg
   ·cases hg
   ·rename_i hne
    rw [List.mem_singleton.1 hg];exact ⟨by simp,by simp,by kernel_rfl,hD (l9 (jf F.to hne))⟩
  ·exact ⟨by simp,by simp,by kernel_rfl,hD htk⟩
  ·obtain ⟨h1,h2,h3⟩:=hcs g hg
   exact ⟨by omega,by omega,h2,h3⟩
 ·rw [FQ,List.map_append,List.nodup_append]
  refine ⟨?_,hcd, ?_⟩
  ·by_cases p1:o.field= []<;>by_cases p2:o.to= []<;>simp [p1,p2,qw,idT]
  ·intro a ha b hb e
   subst e;obtain ⟨g,hg,rfl⟩:=List.mem_map.1 hb;have h3:=(hcs g hg).1;have hne:∀x∈([⟨1,idT,[idV o.subj]⟩,⟨1,[114,111,108,101],cK s.roles o.subj⟩,⟨2,[110,97,109,101],[idV (iJ o.kind)]⟩]++(if o.field= [] then [] else [⟨2,[102,105,101,108,100],[idV o.field]⟩])++(if o.to= [] then [] else [⟨2,[116,111],[idV o.to]⟩])++ [⟨4,[110,111,119],[⟨4,s.tick,[]⟩]⟩]:List bf),x.cat≠3:=by
    intro x hx;simp only [List.mem_append,List.mem_cons,List.not_mem_nil,or_false] at hx;rcases hx with (((rfl|rfl|rfl)|hx)|hx)|rfl
    ·simp
    ·simp
    ·simp
    ·split at hx
     ·cases hx
     ·rw [List.mem_singleton.1 hx]; simp
    ·split at hx
     ·cases hx
     ·rw [List.mem_singleton.1 hx]; simp
    ·simp
   obtain ⟨x,hx,he⟩:=List.mem_map.1 ha;have:x.cat=g.cat:=congrArg Prod.fst he;exact hne x hx (by rw [this,h3])
def sL:an→List AV
 |⟨tick,cs,rv,nt,ro, .mk pid set alg tgt rules kids obls,ver⟩=> [.v (.int .i64 tick),je cs,qP rv,sO nt,di ro, .s pid, .v (.bool set), .v (.int .i64 alg),aR tgt, .sl (rules.map aA) .no, .sl (eS kids) .no,ax obls, .v (.int .i64 ver)]
theorem rS (s:an):dj s= .agg (sL s):=by
 obtain ⟨tick,cs,rv,nt,ro,⟨pid,set,alg,tgt,rules,kids,obls⟩,ver⟩:=s;simp [dj,fl,sL]
structure Stays (cs cs' :List aK) (id:Txt):Prop where
 len:cs'.length≤cs.length+1
 ids:∀c∈cs,∃d∈cs',d.id=c.id
 rest:∀c∈cs,c.id≠id→c∈cs'
abbrev aQ:=Nat×Nat
def naM:aQ:=(0,0)
def aT:aQ:=(2,0)
def bV:aQ:=(0,2)
def xm:aQ:=(1,0)
def xl:aQ:=(0,1)
def mb:aQ:=(1,1)
def rG:List aQ:= [naM,aT,bV,xm,xl,mb]
abbrev iI:=aQ×List cr
def fA (m:aQ):aQ:=if m=aT then xm else if m=bV then xl else m
def lK (a b:aQ):aQ:=(max a.1 b.1,max a.2 b.2)
def A5 (m:aQ):aQ:=(m.2,m.1)
def nX (j:aQ):aQ:=
 if j.2=2 then bV else if j.2=1∧1≤j.1 then mb else if j.2=1 then xl else if j.1=2 then aT else if j.1=1 then xm else naM
def tL (l:List aQ):aQ:=l.foldl lK naM
def firstM (l:List aQ):aQ:=(l.find? fun m=>decide (m≠naM)).getD naM
def vK (m:aQ):Bool:=decide (m=naM∨m=aT∨m=bV)
def lQ:List aQ→aQ→aQ
 | [],j=>j
 |m::r,j=>if vK m=false then mb else lQ r (if j=naM then m else if m≠naM then mb else j)
def fF (alg:Int) (l:List aQ):aQ:=
 if alg=1 then nX (tL l)
 else if alg=2 then A5 (nX (A5 (tL l)))
 else if alg=3 then firstM l
 else if alg=4 then lQ l naM
 else if alg=5 then (if aT∈l then aT else bV)
 else if alg=6 then (if bV∈l then bV else aT)
 else naM
def uh (gs:List bf) (a:mV):List bR:=getD gs a.cat a.name
def kV (a b:bR):Option Bool:=
 if bX a=false∨bX b=false∨a.kind≠b.kind∨a.kind=1 then none
 else if a.kind=3∨a.kind=5 then some (Op.bytesLess a.s b.s) else some (decide (a.n<b.n))
def cI (m:bH) (v:bR):Option Bool:=
 if m.op=1 then (if v.kind=m.val.kind then some (eqV v m.val) else none)
 else if m.op=2 then kV v m.val else kV m.val v
def ig (gs:List bf) (m:bH):Nat:=
 if uh gs m.attr= []∧m.attr.must=true then 1
 else if (uh gs m.attr).any fun v=>cI m v==some true then 2
 else if (uh gs m.attr).any fun v=>cI m v==none then 1 else 0
def zb (gs:List bf) (l:List bH):Nat:=l.foldl (fun a m=>min a (ig gs m)) 2
def vW (gs:List bf) (l:List (List bH)):Nat:=l.foldl (fun a x=>max a (zb gs x)) 0
def kD (gs:List bf) (t:fE):Nat:=t.foldl (fun a x=>min a (vW gs x)) 2
structure iD where
 bag:List bR
 v:bR
 e:Int
def iA (b:Bool):bR:=⟨1,if b then 1 else 0,[]⟩
def gS (b:Bool):iD:=⟨[],iA b,0⟩
def isI (x:iD) (n:Int):Bool:=x.e==0 && eqV x.v ⟨1,n,[]⟩
abbrev w64 (n:Int):Int:=IntKind.i64.wrap n
def Fx (a b:Int):Bool:=decide (0<b) && decide (w64 (9223372036854775807 - b)<a)||decide (b<0) && decide (a<w64 (-9223372036854775808 - b))
def Hu (a b:Int):Bool:=decide (0<b) && decide (a<w64 (-9223372036854775808+b))||decide (b<0) && decide (w64 (9223372036854775807+b)<a)
def Ew (a b:Int):Bool:=a== -1 && b== -9223372036854775808||b== -1 && a== -9223372036854775808||a !=0 && w64 ((w64 (a*b)).tdiv a) !=b
def lC (e:Int):bR×Int:=(az,e)
def wo (o:Bool) (n:Int):bR×Int:=if o then lC 3 else (⟨2,w64 n,[]⟩,0)
def fZ (op:Int) (l:List bR):bR×Int:=
 if¬(6≤op∧op≤13)∨l.length≠(if op=11 then 1 else 2)∨(l.all bX)=false then lC 1
 else
  let a:=l.getD 0 az; let b:=l.getD 1 az
  if op=6 then (if a.kind=b.kind then (iA (eqV a b),0) else lC 2)
  else if op=7 then (match kV a b with
   |some x=>(iA x,0)
   |none=>lC 2)
  else if op=8∨op=9∨op=10 then
   (if l.all fun v=>v.kind==2 then (if op=8 then wo (Fx a.n b.n) (a.n+b.n) else if op=9 then wo (Hu a.n b.n) (a.n - b.n) else wo (Ew a.n b.n) (a.n*b.n)) else lC 2)
  else if (l.all fun v=>v.kind==1)=false then lC 2
  else if op=11 then (iA (a.n==0),0)
  else if op=12 then (iA (a.n==1 && b.n==1),0)
  else (iA (a.n==1||b.n==1),0)
def opsOf (op:Int):Nat:=if op=1∨op=2 then 0 else if op=3∨op=4∨op=11 then 1 else 2
def wH (r:bR×Int):iD:=⟨[],r.1,r.2⟩
def jI (gs:List bf) (n:aL) (l:List iD):iD:=
 if n.op=1 then ⟨[],n.val,0⟩
 else if n.op=2 then (if uh gs n.attr= []∧n.attr.must=true then ⟨[],az,4⟩ else ⟨uh gs n.attr,az,0⟩)
 else if (n.op=12∨n.op=13)∧(l.any fun x=>isI x (n.op - 12))=true then gS (n.op==13)
 else match l.find? fun x=>x.e !=0 with
  |some x=>⟨[],az,x.e⟩
  |none=>
   if n.op=3 then (match (l.headD ⟨[],az,0⟩).bag with
    | [v]=>⟨[],v,0⟩
    |_=>⟨[],az,4⟩)
   else if n.op=4 then ⟨[],⟨2,(l.headD ⟨[],az,0⟩).bag.length,[]⟩,0⟩
   else if n.op=5 then gS ((l.headD ⟨[],az,0⟩).bag.any fun v=>eqV v (l.getD 1 ⟨[],az,0⟩).v)
   else wH (fZ n.op (l.map (·.v)))
def vJ (gs:List bf) (st:List iD) (n:aL):List iD:=st.take (st.length - opsOf n.op)++ [jI gs n (st.drop (st.length - opsOf n.op))]
def sJ (gs:List bf) (l:List aL):iD:=if l= [] then wH (lC 1) else (l.foldl (vJ gs) []).headD (wH (lC 1))
def nj (gs:List bf) (l:List aL):Nat:=if l.isEmpty then 2 else if isI (sJ gs l) 1 then 2 else if isI (sJ gs l) 0 then 0 else 1
def dP (l:List cr) (m:aQ):List cr:=l.filter fun o=>o.on==1 && m==aT||o.on==2 && m==bV
def kU (r:cH) (t c:Nat):iI:=
 let m:=if r.deny then bV else aT
 if t=0∨t=2∧c=0 then (naM,[]) else if t=1∨c=1 then (fA m,[]) else (m,dP r.obls m)
def gp (gs:List bf) (r:cH):iI:=kU r (kD gs r.tgt) (nj gs r.cond)
def dR (alg:Int) (m:aQ) (parts:List iI):List cr:=
 if alg=3 then ((parts.find? fun x=>x.1==m).map (·.2)).getD [] else ((parts.filter fun x=>x.1==m).map (·.2)).flatten
def mP (alg:Int) (obls:List cr) (t:Nat) (parts:List iI):iI:=
 let m:=fF alg (parts.map (·.1))
 if t=0 then (naM,[]) else if t=1 then (fA m,[]) else if m≠aT∧m≠bV then (m,[])
 else (m,dR alg m parts++dP obls m)
mutual
def dX (gs:List bf):bB→iI
 | .mk id set alg tgt rules kids obls=>if kD gs tgt=0 then (naM,[]) else mP alg obls (kD gs tgt) (rules.map (gp gs)++jU gs kids)
def jU (gs:List bf):List bB→List iI
 | []=> []
 |k::r=>dX gs k::jU gs r
end
theorem qk (gs:List bf):∀l:List bB,jU gs l=l.map (dX gs)
 | []=>by simp [jU]
 |k::r=>by simp [jU,qk gs r]
def pM:bB→fE
 | .mk _ _ _ t _ _ _=>t
def lM:fE→Option bH
 | []=>none
 | [l]::r=>match l.find? fun m=>m.op==1 && !m.attr.must with
  |some m=>some m
  |none=>lM r
 |_::r=>lM r
def pJ (gs:List bf) (p:bB):Bool:=match lM (pM p) with
 |none=>true
 |some m=>decide (ig gs m≠0)
mutual
def iS (gs:List bf):bB→bB
 | .mk id set alg tgt rules kids obls=> .mk id set alg tgt rules (iR gs kids) obls
def iR (gs:List bf):List bB→List bB
 | []=> []
 |k::r=>if pJ gs k then iS gs k::iR gs r else iR gs r
end
end Go.Bf
namespace Go.Ab
open Go
section
variable {U : TypeId → TI} {ρ : Env} {h0 h h' : Heap} {sz id : Nat} {tb : TypeId} {y : AV} {xs : List AV} {e : TypeId} {K : AV → Prop} {x : IntKind} {m : Int}
theorem ru (xs:List AV) (j:Nat):aq xs=aq (xs.take j)++aq (xs.drop j):=by rw [←j3,List.take_append_drop]
theorem OwE.cut (hw:OwE tb h0 h sz y xs) {hi:Operand} (j:Nat) (hm:ev ρ hi=some (.v (.int x m))) (hj:m=j) (hl:j≤xs.length) (hz:(U tb).sz=sz) (h1:sz≠0)
  (hk:∀z,OwE tb h0 h sz z (xs.take j)→(z=y∨∃id l l' c,y= .ob id 0 l c sz∧z= .ob id 0 l' c sz)→K z):iT U ρ y none (some hi) none K (.slice tb):=by
 subst hj; subst hz
 rcases hw with ⟨rfl,rfl⟩|⟨id,h2,cap,rest,rfl,h3,h4,h5,h6⟩
 ·rw [sX,jl,hm]
  refine ⟨h1, ?_⟩;simp only [fk,oE,Option.isSome_some,pZ,Int.toNat_natCast];have:j=0:=by simpa using hl
  subst this;refine ⟨by omega,by simp, ?_⟩
  exact hk _ (.inl ⟨rfl,rfl⟩) (.inl rfl)
 ·rw [xM]
  refine ⟨h1,rfl, ?_⟩;simp only [lR,jl,hm,fk,oE];refine ⟨by omega,by omega,by omega, ?_⟩
  simp only [Int.toNat_natCast,Nat.zero_mul,Nat.add_zero,Nat.sub_zero,show (((0:Nat):Int)).toNat=0 from rfl]
  have e1:(xs.take j).length=j:=by simp; omega
  have hs:Sized (U tb).sz (xs.drop j):=fun z hz=>h6 z (List.mem_of_mem_drop hz)
  refine hk _ (.inr ⟨id,h2,cap,aq (xs.drop j)++rest,by rw [e1],by rw [h3,ru xs j,List.append_assoc], ?_,by omega,fun z hz=>h6 z (List.mem_of_mem_take hz)⟩) (.inr ⟨id,_,_,cap,rfl,rfl⟩)
  rw [Uk,aU hs,h4,List.length_drop,e1,←Nat.add_mul]
  congr 1
  omega
theorem OwE.from (hw:OwE tb h0 h sz y xs) {lo:Operand} (j:Nat) (hm:ev ρ lo=some (.v (.int x m))) (hj:m=j) (hl:j≤xs.length) (hz:(U tb).sz=sz) (h1:sz≠0)
  (hk:∀z,Rd h sz z (xs.drop j)→K z):iT U ρ y (some lo) none none K (.slice tb):=by
 subst hj; subst hz
 rcases hw with ⟨rfl,rfl⟩|⟨id,h2,cap,rest,rfl,h3,h4,h5,h6⟩
 ·have:j=0:=by simpa using hl
  subst this;rw [sY,jl,hm];refine ⟨h1,by simp [Sized], ?_⟩
  simp only [fk,oE,lR];exact ⟨by omega,by simp,by simp,hk _ (.sl (by intro z hz; simp [mS] at hz) _)⟩
 ·rw [xM]
  refine ⟨h1,rfl, ?_⟩;simp only [lR,jl,hm,fk,oE];refine ⟨by omega,by omega,by omega, ?_⟩
  simp only [Int.toNat_natCast,Nat.zero_add];have e1:(xs.drop j).length=xs.length - j:=by simp
  have hs:Sized (U tb).sz (xs.drop j):=fun z hz=>h6 z (List.mem_of_mem_drop hz)
  have ht:Sized (U tb).sz (xs.take j):=fun z hz=>h6 z (List.mem_of_mem_take hz)
  have e2:=aU hs;have e3:=aU ht;have e4:(xs.take j).length=j:=by simp; omega
  rw [e4] at e3;refine hk _ ⟨hs, .inr ⟨id,j*(U tb).sz,cap - j,_,tb,by rw [e1],h3, ?_, ?_⟩⟩
  ·rw [ru xs j,Uk,Uk,e3,e2]; omega
  ·rw [ru xs j,List.append_assoc,←e3,List.drop_left,←e2,List.take_left]
end
end Go.Ab
namespace Go.Bf
open Go Go.Ab Go.Proofs.YtmlhcdeamjkpjaaGreatDoor
def hbit:Nat→Nat
 |0=>0
 |1=>4602678819172646912
 |_=>4607182418800017408
def aO (m:aQ):AV:= .v (.complex .f64 (hbit m.1) (hbit m.2))
def M9 (m:aQ):Prop:=m.1≤2∧m.2≤2
def M6 (m:aQ):Prop:=m∈rG
instance (m:aQ):Decidable (M9 m):=inferInstanceAs (Decidable (_∧_))
instance (m:aQ):Decidable (M6 m):=inferInstanceAs (Decidable (m∈rG))
theorem M6.m9 {m:aQ} (h:M6 m):M9 m:=by
 unfold M6 rG at h;simp only [List.mem_cons,List.not_mem_nil,or_false] at h;rcases h with rfl|rfl|rfl|rfl|rfl|rfl<;>decide
theorem le2 {n:Nat} (h:n≤2):n=0∨n=1∨n=2:=by omega
theorem ve {m n:aQ} (hmm:M9 m) (hn:M9 n) (K:AV→Prop):fI .eql (.complex .f64 (hbit m.1) (hbit m.2)) (.complex .f64 (hbit n.1) (hbit n.2)) K=K (.v (.bool (m==n))):=
 lP (fun P ty w=>by
  obtain ⟨m1,m2⟩:=m;obtain ⟨n1,n2⟩:=n;obtain ⟨a1,a2⟩:=hmm;obtain ⟨b1,b2⟩:=hn;simp only at a1 a2 b1 b2;rcases le2 a1 with rfl|rfl|rfl<;>rcases le2 a2 with rfl|rfl|rfl<;>rcases le2 b1 with rfl|rfl|rfl<;>rcases le2 b2 with rfl|rfl|rfl<;>rfl) K
theorem Al {m n:aQ} (hmm:M9 m) (hn:M9 n) (K:AV→Prop):fI .neq (.complex .f64 (hbit m.1) (hbit m.2)) (.complex .f64 (hbit n.1) (hbit n.2)) K=K (.v (.bool (!(m==n)))):=
 lP (fun P ty w=>by
  obtain ⟨m1,m2⟩:=m;obtain ⟨n1,n2⟩:=n;obtain ⟨a1,a2⟩:=hmm;obtain ⟨b1,b2⟩:=hn;simp only at a1 a2 b1 b2;rcases le2 a1 with rfl|rfl|rfl<;>rcases le2 a2 with rfl|rfl|rfl<;>rcases le2 b1 with rfl|rfl|rfl<;>rcases le2 b2 with rfl|rfl|rfl<;>rfl) K
structure Nb (m:aQ):Prop where
 na:∀K,fI .eql (.complex .f64 (hbit m.1) (hbit m.2)) (.complex .f64 0 0) K=K (.v (.bool (m==naM)))
 pe:∀K,fI .eql (.complex .f64 (hbit m.1) (hbit m.2)) (.complex .f64 4607182418800017408 0) K=K (.v (.bool (m==aT)))
 de:∀K,fI .eql (.complex .f64 (hbit m.1) (hbit m.2)) (.complex .f64 0 4607182418800017408) K=K (.v (.bool (m==bV)))
 ip:∀K,fI .eql (.complex .f64 (hbit m.1) (hbit m.2)) (.complex .f64 4602678819172646912 0) K=K (.v (.bool (m==xm)))
 id:∀K,fI .eql (.complex .f64 (hbit m.1) (hbit m.2)) (.complex .f64 0 4602678819172646912) K=K (.v (.bool (m==xl)))
 ib:∀K,fI .eql (.complex .f64 (hbit m.1) (hbit m.2)) (.complex .f64 4602678819172646912 4602678819172646912) K=K (.v (.bool (m==mb)))
 nna:∀K,fI .neq (.complex .f64 (hbit m.1) (hbit m.2)) (.complex .f64 0 0) K=K (.v (.bool (!(m==naM))))
 npe:∀K,fI .neq (.complex .f64 (hbit m.1) (hbit m.2)) (.complex .f64 4607182418800017408 0) K=K (.v (.bool (!(m==aT))))
 nde:∀K,fI .neq (.complex .f64 (hbit m.1) (hbit m.2)) (.complex .f64 0 4607182418800017408) K=K (.v (.bool (!(m==bV))))
theorem nb {m:aQ} (h:M9 m):Nb m:=
 ⟨ve (n:=naM) h (by decide),ve (n:=aT) h (by decide),ve (n:=bV) h (by decide),ve (n:=xm) h (by decide),ve (n:=xl) h (by decide),ve (n:=mb) h (by decide),
  Al (n:=naM) h (by decide),Al (n:=aT) h (by decide),Al (n:=bV) h (by decide)⟩
theorem JK {a b:Nat} (ha:a≤2) (hb:b≤2) (k:AV→Prop):we [.v (.float .f64 (hbit a)), .v (.float .f64 (hbit b))] k=k (.v (.float .f64 (hbit (max a b)))):=
 B1 (fun P ts ty w=>by
  rcases le2 ha with rfl|rfl|rfl<;>rcases le2 hb with rfl|rfl|rfl<;>rfl) k
structure Fb (a:Nat):Prop where
 one:∀K,fI .eql (.float .f64 (hbit a)) (.float .f64 4607182418800017408) K=K (.v (.bool (a==2)))
 half:∀K,fI .eql (.float .f64 (hbit a)) (.float .f64 4602678819172646912) K=K (.v (.bool (a==1)))
 ge:∀K,fI .geq (.float .f64 (hbit a)) (.float .f64 4602678819172646912) K=K (.v (.bool (decide (1≤a))))
theorem fb {a:Nat} (h:a≤2):Fb a:=by
 rcases le2 h with rfl|rfl|rfl<;>
  exact ⟨lP fun P ty w=>rfl,lP fun P ty w=>rfl,lP fun P ty w=>rfl⟩
end Go.Bf
namespace Go.Proofs.YtmlhcdeamjkpjaaGreatDoor
open Go Go.Ab Go.Bf
theorem yH (m:aQ) (hmm:M6 m) (h:Heap):ak Tryz.prog 235 [aO m] h fun r h' =>r= .v (.bool true)∧h' =h:=by
 have hn:ak Tryz.prog 262 [aO m] h fun r h' =>(∃c l,r= .s (c::l))∧h' =h:=by
  obtain ⟨n1,n2,n3,n4,n5,n6⟩:=nb hmm.m9;refine ak.body hU hm Tryz.func262 rfl (by kernel_rfl) 16 rfl [.tmp 2] rfl (Uf rfl) (fun hwf=> ?_)
  cases d1:(m==naM)
  case true=>simp only [go_sem,aO,n1,d1]; exact .same (.refl _) ⟨⟨_,_,rfl⟩,rfl⟩
  cases d2:(m==aT)
  case true=>simp only [go_sem,aO,n1,n2,d1,d2]; exact .same (.refl _) ⟨⟨_,_,rfl⟩,rfl⟩
  cases d3:(m==bV)
  case true=>simp only [go_sem,aO,n1,n2,n3,d1,d2,d3]; exact .same (.refl _) ⟨⟨_,_,rfl⟩,rfl⟩
  cases d4:(m==xm)
  case true=>simp only [go_sem,aO,n1,n2,n3,n4,d1,d2,d3,d4]; exact .same (.refl _) ⟨⟨_,_,rfl⟩,rfl⟩
  cases d5:(m==xl)
  case true=>simp only [go_sem,aO,n1,n2,n3,n4,n5,d1,d2,d3,d4,d5]; exact .same (.refl _) ⟨⟨_,_,rfl⟩,rfl⟩
  have d6:(m==mb)=true:=by
   unfold M6 rG at hmm;simp only [List.mem_cons,List.not_mem_nil,or_false] at hmm;rcases hmm with rfl|rfl|rfl|rfl|rfl|rfl<;>first|rfl|(cases d1; done)|(cases d2; done)|(cases d3; done)|(cases d4; done)|(cases d5; done)
  simp only [go_sem,aO,n1,n2,n3,n4,n5,n6,d1,d2,d3,d4,d5,d6];exact .same (.refl _) ⟨⟨_,_,rfl⟩,rfl⟩
 refine ak.body hU hm Tryz.func235 rfl (by kernel_rfl) 6 rfl [.tmp 2] rfl (Uf rfl) (fun hwf=> ?_)
 simp only [go_sem];refine hn.mono ?_
 rintro r h' ⟨⟨c,l,rfl⟩,rfl⟩
 simp only [go_sem];exact .same (.refl _) ⟨rfl,rfl⟩
theorem uL (m:aQ) (hmm:M9 m) (h:Heap):ak Tryz.prog 192 [aO m] h fun r h' =>r=aO (fA m)∧h' =h:=by
 obtain ⟨n1,n2,n3,n4,n5,n6⟩:=nb hmm;refine ak.body hU hm Tryz.func192 rfl (by kernel_rfl) 9 rfl [.tmp 2] rfl (Uf rfl) (fun hwf=> ?_)
 cases d2:(m==aT)
 case true=>simp only [go_sem,aO,n2,d2]; exact .same (.refl _) ⟨by rw [fA,if_pos (by simpa using d2)]; rfl,rfl⟩
 cases d3:(m==bV)
 case true=>simp only [go_sem,aO,n2,n3,d2,d3]; exact .same (.refl _) ⟨by rw [fA,if_neg (by simpa using d2),if_pos (by simpa using d3)]; rfl,rfl⟩
 simp only [go_sem,aO,n2,n3,d2,d3];exact .same (.refl _) ⟨by rw [fA,if_neg (by simpa using d2),if_neg (by simpa using d3)]; rfl,rfl⟩
theorem qK (m:aQ) (h:Heap):ak Tryz.prog 263 [aO m] h fun r h' =>r= .tup [.v (.float .f64 (hbit m.1)), .v (.float .f64 (hbit m.2))]∧h' =h:=by
 refine ak.body hU hm Tryz.func263 rfl (by kernel_rfl) 10 rfl [.tmp 2, .tmp 3] rfl (Uf rfl) (fun hwf=> ?_)
 simp only [go_sem,aO];exact .same (.refl _) ⟨rfl,rfl⟩
theorem JQ (a b:Nat) (h:Heap):ak Tryz.prog 264 [.v (.float .f64 (hbit a)), .v (.float .f64 (hbit b))] h fun r h' =>r=aO (a,b)∧h' =h:=by
 refine ak.body hU hm Tryz.func264 rfl (by kernel_rfl) 8 rfl [.tmp 4] rfl (Uf rfl) (fun hwf=> ?_)
 simp only [go_sem];exact .same (.refl _) ⟨rfl,rfl⟩
theorem Jc (m:aQ) (h:Heap):ak Tryz.prog 238 [aO m] h fun r h' =>r=aO (A5 m)∧h' =h:=by
 refine ak.body hU hm Tryz.func238 rfl (by kernel_rfl) 13 rfl [.tmp 2] rfl (Uf rfl) (fun hwf=> ?_)
 simp only [go_sem];refine (qK m _).pthen ?_;simp only [go_sem];refine (JQ m.2 m.1 _).pthen ?_;simp only [go_sem];exact .same (.refl _) ⟨rfl,rfl⟩
theorem IG (a b:aQ) (ha:M9 a) (hb:M9 b) (h:Heap):ak Tryz.prog 236 [aO a,aO b] h fun r h' =>r=aO (lK a b)∧h' =h:=by
 have m1:=JK ha.1 hb.1;have m2:=JK ha.2 hb.2;refine ak.body hU hm Tryz.func236 rfl (by kernel_rfl) 26 rfl [.tmp 4] rfl (Uf rfl) (fun hwf=> ?_)
 simp only [go_sem];refine (qK a _).pthen ?_;simp only [go_sem];refine (qK b _).pthen ?_;simp only [go_sem,m1,m2];refine (JQ _ _ _).pthen ?_;simp only [go_sem];exact .same (.refl _) ⟨rfl,rfl⟩
theorem M9.join {a b:aQ} (ha:M9 a) (hb:M9 b):M9 (lK a b):=⟨Nat.max_le.2 ⟨ha.1,hb.1⟩,Nat.max_le.2 ⟨ha.2,hb.2⟩⟩
theorem Df (j:aQ):M6 (nX j):=by
 unfold nX
 repeat' split
 all_goals decide
theorem Dg (j:aQ) (hj:M9 j) (h:Heap):ak Tryz.prog 237 [aO j] h fun r h' =>r=aO (nX j)∧h' =h:=by
 obtain ⟨p1,p2,p3⟩:=fb hj.1;obtain ⟨q1,q2,q3⟩:=fb hj.2;refine ak.body hU hm Tryz.func237 rfl (by kernel_rfl) 29 rfl [.tmp 2] rfl (Uf rfl) (fun hwf=> ?_)
 simp only [go_sem];refine (qK j _).pthen ?_;cases d1:(j.2==2)
 case true=>simp only [go_sem,q1,d1]; exact .same (.refl _) ⟨by rw [nX,if_pos (by simpa using d1)]; rfl,rfl⟩
 have e1:¬j.2=2:=by simpa using d1
 cases d2:(j.2==1)
 case true=>
  have e2:j.2=1:=by simpa using d2
  cases d3:decide (1≤j.1)
  ·simp only [go_sem,p3,q1,q2,d1,d2,d3]; exact .same (.refl _) ⟨by rw [nX,if_neg e1,if_neg (by have:=Uj d3; omega),if_pos e2]; rfl,rfl⟩
  ·simp only [go_sem,p3,q1,q2,d1,d2,d3]; exact .same (.refl _) ⟨by rw [nX,if_neg e1,if_pos ⟨e2,Ui d3⟩]; rfl,rfl⟩
 have e2:¬j.2=1:=by simpa using d2
 cases d4:(j.1==2)
 case true=>simp only [go_sem,p1,q1,q2,d1,d2,d4]; exact .same (.refl _) ⟨by rw [nX,if_neg e1,if_neg (fun h=>e2 h.1),if_neg e2,if_pos (by simpa using d4)]; rfl,rfl⟩
 cases d5:(j.1==1)
 case true=>simp only [go_sem,p1,p2,q1,q2,d1,d2,d4,d5]; exact .same (.refl _) ⟨by rw [nX,if_neg e1,if_neg (fun h=>e2 h.1),if_neg e2,if_neg (by simpa using d4),if_pos (by simpa using d5)]; rfl,rfl⟩
 simp only [go_sem,p1,p2,q1,q2,d1,d2,d4,d5];exact .same (.refl _) ⟨by rw [nX,if_neg e1,if_neg (fun h=>e2 h.1),if_neg e2,if_neg (by simpa using d4),if_neg (by simpa using d5)]; rfl,rfl⟩
end Go.Proofs.YtmlhcdeamjkpjaaGreatDoor
namespace Go.Bf
open Go Go.Ab Go.Proofs.YtmlhcdeamjkpjaaGreatDoor
def uU (a b:bR):Int:=if bX a=false∨bX b=false then 1 else 2
def jG (a b:bR):AV:=match kV a b with
 |some x=> .tup [.v (.bool x), .v (.int .i64 0)]
 |none=> .tup [.v (.bool false), .v (.int .i64 (uU a b))]
theorem xo {a b:bR} (h:bX a=false∨bX b=false):jG a b= .tup [.v (.bool false), .v (.int .i64 1)]:=by
 unfold jG kV;rw [if_pos (by rcases h with h|h; exact .inl h; exact .inr (.inl h))]
 simp only [uU,if_pos h]
theorem uT {a b:bR} (h1:bX a=true) (h2:bX b=true) (h:a.kind≠b.kind∨a.kind=1):jG a b= .tup [.v (.bool false), .v (.int .i64 2)]:=by
 unfold jG kV;rw [if_pos (.inr (.inr h))];simp [uU,h1,h2]
theorem IQ {a b:bR} (h1:bX a=true) (h2:bX b=true) (h:a.kind=b.kind) (h0:a.kind≠1) (ht:a.kind=3∨a.kind=5):jG a b= .tup [.v (.bool (Op.bytesLess a.s b.s)), .v (.int .i64 0)]:=by
 unfold jG kV;rw [if_neg (by simp [h1,h2,h]; rw [←h]; exact h0),if_pos ht]
theorem IP {a b:bR} (h1:bX a=true) (h2:bX b=true) (h:a.kind=b.kind) (h0:a.kind≠1) (ht:¬(a.kind=3∨a.kind=5)):jG a b= .tup [.v (.bool (decide (a.n<b.n))), .v (.int .i64 0)]:=by
 unfold jG kV;rw [if_neg (by simp [h1,h2,h]; rw [←h]; exact h0),if_neg ht]
end Go.Bf
namespace Go.Proofs.YtmlhcdeamjkpjaaGreatDoor
open Go Go.Ab Go.Bf
theorem Hw (k:Int) (h:Heap):ak Tryz.prog 301 [.v (.int .i64 k)] h fun r h' =>r= .v (.bool (k==3||k==5))∧h' =h:=by
 refine ak.body hU hm Tryz.func301 rfl (by kernel_rfl) 9 rfl [.tmp 2] rfl (Uf rfl) (fun hwf=> ?_)
 cases d1:(k==3)<;>cases d2:(k==5)
 all_goals
  simp only [go_sem,d1,d2];exact .same (.refl _) ⟨rfl,rfl⟩
theorem yG (a b:bR) (h:Heap):ak Tryz.prog 279 [aS a,aS b] h fun r h' =>r=jG a b∧h' =h:=by
 have ha:=fun (G:Heap)=>iG a G
 have hb:=fun (G:Heap)=>iG b G
 simp only [aS] at ha hb;refine ak.body hU hm Tryz.func279 rfl (by kernel_rfl) 40 rfl [.tmp 4, .tmp 5] rfl (Uf rfl) (fun hwf=> ?_)
 simp only [go_sem,aS];intro i1 h1;simp only [go_sem];intro i2 h2;have n21:=aH h2;have n2:=aE h2;have hs:∀x y,Ab.Sub h (upd (upd h i1 x) i2 y):=fun x y=>((Sub.refl h).put h1 x).put n2 y
 simp only [go_sem,aj,n21.symm];refine (ha _).pthen ?_;cases da:bX a
 ·simp only [go_sem]
  exact .mk _ (.refl _) (hs _ _) ⟨by rw [xo (.inl da)]; rfl,rfl⟩
 simp only [go_sem];refine (hb _).pthen ?_;cases db:bX b
 ·simp only [go_sem]
  exact .mk _ (.refl _) (hs _ _) ⟨by rw [xo (.inr db)]; rfl,rfl⟩
 cases dk:(a.kind !=b.kind)
 case true=>
  simp only [go_sem,aj,n21.symm,dk];exact .mk _ (.refl _) (hs _ _) ⟨by rw [uT da db (.inl (by simpa using dk))]; rfl,rfl⟩
 have ek:a.kind=b.kind:=by simpa using dk
 cases d1:(a.kind==1)
 case true=>
  simp only [go_sem,aj,n21.symm,dk,d1];exact .mk _ (.refl _) (hs _ _) ⟨by rw [uT da db (.inr (by simpa using d1))]; rfl,rfl⟩
 have e1:a.kind≠1:=by simpa using d1
 simp only [go_sem,aj,n21.symm,dk,d1];refine (Hw _ _).pthen ?_;cases dt:(a.kind==3||a.kind==5)
 ·simp only [go_sem,aj,n21.symm]
  exact .mk _ (.refl _) (hs _ _) ⟨by rw [IP da db ek e1 (by simpa using dt)]; rfl,rfl⟩
 ·simp only [go_sem,aj,n21.symm]
  exact .mk _ (.refl _) (hs _ _) ⟨by rw [IQ da db ek e1 (by simpa using dt)]; rfl,rfl⟩
def D8 (bag:List bR) (must:Bool):AV:=if bag= []∧must=true then .tup [.sl [] .no, .v (.int .i64 4)] else .tup [.sl (bag.map aS) .no, .v (.int .i64 0)]
theorem CZ (gs:List bf) (cat:Int) (name:Txt) (must:Bool) (hl:gs.length≤1000000000) (hb:∀g∈gs,g.bag.length≤1000000) (h:Heap):ak Tryz.prog 256 [bw gs, .agg [.v (.int .i64 cat), .s name, .v (.bool must)]] h fun r h' =>r=D8 (getD gs cat name) must∧h' =h:=by
 have hpl:=fun G=>GO gs cat name hl G
 simp only [bw] at hpl;have frz:∀(x:AV) (e:Int),Weak x (.sl [] .no)→Weak (.tup [x, .v (.int .i64 e)]) (.tup [.sl [] .no, .v (.int .i64 e)]):=fun x e hx=> .tup _ _ rfl fun i a b=>by
  rcases i with _|_|i
  ·exact hx
  ·exact .refl _
  ·simp at a; omega
 refine ak.body hU hm Tryz.func256 rfl (by kernel_rfl) 30 rfl [.tmp 4, .tmp 5] rfl (Uf rfl) (fun hwf=> ?_)
 simp only [go_sem,bw];intro i1 h1;simp only [go_sem];refine (hpl _).pthen ?_
 by_cases hx:gs.findIdx (gb cat name)<gs.length
 ·have e1:ixD (gb cat name) gs=(gs.findIdx (gb cat name):Nat):=by rw [ixD]; exact if_pos hx
  have d1:decide ((0:Int)≤((gs.findIdx (gb cat name):Nat):Int))=true:=decide_eq_true (by omega)
  rw [e1];simp only [go_sem,d1];refine .at (gs.findIdx (gb cat name)) (by simpa using hx) (by rw [Uh]; rfl) ?_
  simp only [go_sem,Uh,jh];rw [if_neg (fun hh=>hh.1)]
  have hlb:=hb _ (Ul hx);rw [get_at hx];obtain ⟨B,eB⟩:∃B,gs[gs.findIdx (gb cat name)].bag=B:=⟨_,rfl⟩;rw [eB] at hlb⊢;refine (zo _ (B.map aS) _ (dS aS 3 (fun _=>rfl) _ _) (by simpa using hlb) (bg (fun _=>rfl) _)).pthen ?_
  cases d2:((B.length:Int)==0)
  ·have e2:B≠ []:=by rintro rfl; simp at d2
   simp only [go_sem,d2,Ug];exact .mk _ (.refl _) (.ai h1) ⟨by rw [D8,if_neg (fun hh=>e2 hh.1)]; rfl,rfl⟩
  ·have e3:(B.length:Int)=0:=by simpa using d2
   have e2:B= []:=List.length_eq_zero_iff.1 (by omega)
   subst e2;cases must
   ·simp only [go_sem,List.map_nil,List.length_nil]
    exact .mk _ (.refl _) (.ai h1) ⟨rfl,rfl⟩
   ·simp only [go_sem,List.map_nil,List.length_nil]
    exact .mk (.tup [.sl [] .no, .v (.int .i64 4)]) (frz _ _ (.sl _ _)) (.ai h1) ⟨rfl,rfl⟩
 ·have e1:ixD (gb cat name) gs= -1:=by rw [ixD]; exact if_neg hx
  have d1:decide ((0:Int)≤ -1)=false:=rfl;rw [e1,KS hx];cases must
  ·simp only [go_sem,d1]
   exact .mk (.tup [.sl [] .no, .v (.int .i64 0)]) (frz _ _ (.sl _ _)) (.ai h1) ⟨rfl,rfl⟩
  ·simp only [go_sem,d1]
   exact .mk (.tup [.sl [] .no, .v (.int .i64 4)]) (frz _ _ (.sl _ _)) (.ai h1) ⟨rfl,rfl⟩
def kj (m:bH) (v:bR):AV:=
 if m.op=1 then (if v.kind=m.val.kind then .tup [.v (.bool (eqV v m.val)), .v (.int .i64 0)] else .tup [.v (.bool false), .v (.int .i64 2)])
 else if m.op=2 then jG v m.val else jG m.val v
theorem Bi (m:bH) (v:bR) (h:Heap):ak Tryz.prog 257 [cV m,aS v] h fun r h' =>r=kj m v∧h' =h:=by
 have hl1:=fun G=>yG v m.val G
 have hl2:=fun G=>yG m.val v G
 simp only [aS] at hl1 hl2;refine ak.body hU hm Tryz.func257 rfl (by kernel_rfl) 42 rfl [.tmp 4, .tmp 5] rfl (Uf rfl) (fun hwf=> ?_)
 simp only [go_sem,cV,aS];intro i1 h1;simp only [go_sem];intro i2 h2;have n21:=aH h2;have n2:=aE h2;have hs:∀x y,Ab.Sub h (upd (upd h i1 x) i2 y):=fun x y=>((Sub.refl h).put h1 x).put n2 y
 cases d1:(m.op==1)
 case true=>
  have e1:m.op=1:=by simpa using d1
  cases dk:(v.kind !=m.val.kind)
  ·have dk' :v.kind=m.val.kind:=by simpa using dk
   simp only [go_sem,aj,n21.symm,d1,dk];exact .mk _ (.refl _) (hs _ _) ⟨by rw [kj,if_pos e1,if_pos dk']; rfl,rfl⟩
  ·simp only [go_sem,aj,n21.symm,d1,dk]
   exact .mk _ (.refl _) (hs _ _) ⟨by rw [kj,if_pos e1,if_neg (by simpa using dk)]; rfl,rfl⟩
 have e1:m.op≠1:=by simpa using d1
 have aft:∀a b:bR,∃x e,jG a b= .tup [.v (.bool x), .v (.int .i64 e)]:=fun a b=>by
  unfold jG;split
  ·exact ⟨_,_,rfl⟩
  ·exact ⟨_,_,rfl⟩
 cases d2:(m.op==2)
 case true=>
  have e2:m.op=2:=by simpa using d2
  obtain ⟨x,e,ee⟩:=aft v m.val;rw [ee] at hl1;simp only [go_sem,aj,n21.symm,d1,d2];refine (hl1 _).pthen ?_;simp only [go_sem];exact .mk _ (.refl _) (hs _ _) ⟨by rw [kj,if_neg e1,if_pos e2,ee]; rfl,rfl⟩
 ·have e2:m.op≠2:=by simpa using d2
  obtain ⟨x,e,ee⟩:=aft m.val v;rw [ee] at hl2;simp only [go_sem,aj,n21.symm,d1,d2];refine (hl2 _).pthen ?_;simp only [go_sem];exact .mk _ (.refl _) (hs _ _) ⟨by rw [kj,if_neg e1,if_neg e2,ee]; rfl,rfl⟩
theorem x8 (m:bH) (v:bR):∃e:Int,(e !=0)=(cI m v==none)∧kj m v= .tup [.v (.bool (cI m v==some true)), .v (.int .i64 e)]:=by
 have hl:∀a b:bR,∃e:Int,(e !=0)=(kV a b==none)∧jG a b= .tup [.v (.bool (kV a b==some true)), .v (.int .i64 e)]:=fun a b=>by
  unfold jG;cases hx:kV a b with
  |some x=>exact ⟨0,rfl,by cases x<;>rfl⟩
  |none=>refine ⟨uU a b, ?_,rfl⟩; unfold uU; split<;>rfl
 unfold kj cI
 by_cases e1:m.op=1
 ·rw [if_pos e1,if_pos e1]
  by_cases ek:v.kind=m.val.kind
  ·rw [if_pos ek,if_pos ek]
   exact ⟨0,rfl,by cases eqV v m.val<;>rfl⟩
  ·rw [if_neg ek,if_neg ek]
   exact ⟨2,rfl,rfl⟩
 ·rw [if_neg e1,if_neg e1]
  by_cases e2:m.op=2
  ·rw [if_pos e2,if_pos e2]; exact hl _ _
  ·rw [if_neg e2,if_neg e2]; exact hl _ _
theorem D9 (bag:List bR) (must:Bool):∃e:Int,(e !=0)=decide (bag= []∧must=true)∧D8 bag must= .tup [.sl (bag.map aS) .no, .v (.int .i64 e)]:=by
 unfold D8;split
 ·rename_i h; exact ⟨4,by rw [decide_eq_true h]; rfl,by rw [h.1]; rfl⟩
 ·rename_i h; exact ⟨0,by rw [decide_eq_false h]; rfl,rfl⟩
def oL (gs:List bf):Prop:=gs.length≤1000000∧∀g∈gs,g.bag.length≤1000000
theorem oL.bag {gs:List bf} (h:oL gs) (a:mV):(uh gs a).length≤1000000:=by
 unfold uh getD;split
 ·rename_i g hg; exact h.2 g (List.mem_of_find?_eq_some hg)
 ·simp
theorem xw (m:bH) (gs:List bf) (hf:oL gs) (h:Heap):ak Tryz.prog 228 [cV m,bw gs] h fun r h' =>r= .v (.int .i64 (ig gs m:Nat))∧h' =h:=by
 have hg:=fun G=>CZ gs m.attr.cat m.attr.name m.attr.must (by have:=hf.1; omega) hf.2 G
 have hbl:=hf.bag m.attr;obtain ⟨B,eB⟩:∃B,uh gs m.attr=B:=⟨_,rfl⟩;have eg:Go.Bf.getD gs m.attr.cat m.attr.name=B:=eB;rw [eB] at hbl;rw [eg] at hg;have hmm:ig gs m=if B= []∧m.attr.must=true then 1 else if B.any (fun v=>cI m v==some true) then 2 else if B.any (fun v=>cI m v==none) then 1 else 0:=by
  unfold ig; rw [eB]
 obtain ⟨eg,hge,hga⟩:=D9 B m.attr.must;rw [hga] at hg;have hag:=fun (v:bR) (G:Heap)=>Bi m v G
 simp only [cV,bw,aS] at hag hg;refine ak.body hU hm Tryz.func228 rfl (by kernel_rfl) 38 rfl [.tmp 4] rfl (Uf rfl) (fun hwf=> ?_)
 simp only [go_sem,cV,bw];intro i1 h1;simp only [go_sem];refine (hg _).pthen ?_;cases d0:decide (B= []∧m.attr.must=true)
 case true=>
  rw [d0] at hge;simp only [go_sem,hge];exact .mk _ (.refl _) (.ai h1) ⟨by rw [hmm,if_pos (Ui d0)]; rfl,rfl⟩
 rw [d0] at hge;rw [if_neg (Uj d0)] at hmm;simp only [go_sem,hge,Ug];obtain ⟨H,eH⟩:∃H,upd h i1 (some (.obj [.v (.int .i64 m.attr.cat), .s m.attr.name, .v (.bool m.attr.must), .v (.int .i64 m.op), .v (.int .i64 m.val.kind), .v (.int .i64 m.val.n), .s m.val.s] 246))=H:=⟨_,rfl⟩;have hH:Ab.Sub h H:=by rw [←eH]; exact .ai h1
 have k1:H i1=some (.obj [.v (.int .i64 m.attr.cat), .s m.attr.name, .v (.bool m.attr.must), .v (.int .i64 m.op), .v (.int .i64 m.val.kind), .v (.int .i64 m.val.n), .s m.val.s] 246):=by rw [←eH,ah]
 rw [eH];clear eH;refine .intro (fun q ρ G=>Ab.Sub H G∧∃i:Nat,i≤B.length∧q=B.length - i∧(∀j (hj:j<i) (h2:j<B.length),(cI m B[j]==some true)=false)∧lk ρ 2=some (.ptr i1 0)∧lk ρ 7=some (.v (.int .i64 (if (B.take i).any (fun v=>cI m v==none) then 1 else 0)))∧lk ρ 21=some (.sl (B.map aS) .no)∧lk ρ 22=some (.v (.int .i64 B.length))∧lk ρ 23=some (.v (.int .i64 i))) B.length ?_ ?_
 ·refine ⟨.refl _,0,by omega,rfl,fun j hj=>(by omega), ?_, ?_, ?_, ?_, ?_⟩<;>simp only [go_sem]
  simp
 ·rintro q ρ G ⟨hs,i,hi,rfl,hc,r2,r7,r21,r22,r23⟩
  have k1' :=hs _ _ k1;simp only [go_sem,r22,r23];refine .intro (fun e=> ?_) (fun e=> ?_)
  ·have hlt:i<B.length:=Un e
   have w1:=Um i (by omega)
   have hsn:(B.take (i+1)).any (fun v=>cI m v==none)=((B.take i).any (fun v=>cI m v==none)||(cI m B[i]==none)):=any_succ hlt
   have ix:=fun k=>fu.eq (xs:=B.map aS) (sz:=3) i (by simpa using hlt) (by rw [Uh]; rfl) k
   rw [Uh] at ix;have hci:=fun (d:(cI m B[i]==some true)=false)=>(fun j (hj:j<i+1) (h2:j<B.length)=>(by
    by_cases hji:j=i
    ·subst hji; exact d
    ·exact hc j (by omega) h2:(cI m B[j]==some true)=false))
   have hat:=fun (d:(cI m B[i]==some true)=true)=>(List.any_eq_true.2 ⟨B[i],Ul hlt,d⟩:B.any (fun v=>cI m v==some true)=true)
   obtain ⟨v,ev⟩:∃v,B[i]=v:=⟨_,rfl⟩;rw [ev] at ix hsn hci hat;simp only [aS] at ix;obtain ⟨e,he1,he2⟩:=x8 m v;have hag1:=hag v;rw [he2] at hag1;simp only [go_sem,r21,r23,ix];intro i4 h4;have n41:i4≠i1:=fun e=>by rw [e,k1'] at h4; cases h4
   simp only [go_sem,r2,aj,n41.symm,k1'];refine (hag1 _).pthen ?_;cases d1:(cI m v==some true)
   ·cases d2:(cI m v==none)
    ·rw [d2] at he1 hsn
     rw [Bool.or_false] at hsn;simp only [go_sem,r23,he1,w1];refine ⟨_, ?_,hs.trans (.ai h4),i+1,by omega,rfl,hci d1, ?_, ?_, ?_, ?_, ?_⟩
     ·omega
     all_goals simp only [go_sem,r2,r7,r21,r22,hsn]
    ·rw [d2] at he1 hsn
     rw [Bool.or_true] at hsn;simp only [go_sem,r23,he1,w1];refine ⟨_, ?_,hs.trans (.ai h4),i+1,by omega,rfl,hci d1, ?_, ?_, ?_, ?_, ?_⟩
     ·omega
     all_goals simp only [go_sem,r2,r21,r22,hsn]
   ·simp only [go_sem]
    refine .mk _ (.refl _) (hH.trans (hs.trans (.ai h4))) ⟨by rw [hmm,if_pos (hat d1)]; rfl,rfl⟩
  ·have hge:i=B.length:=by have:=Uj e; omega
   subst hge;rw [List.take_length] at r7;simp only [go_sem,r7];refine .mk _ (.refl _) (hH.trans hs) ⟨?_,rfl⟩;have hno:B.any (fun v=>cI m v==some true)=false:=List.any_eq_false.2 fun x hx=>by
    obtain ⟨j,hj,rfl⟩:=List.mem_iff_getElem.1 hx;rw [hc j hj hj]; decide
   rw [hmm,hno];cases B.any (fun v=>cI m v==none)<;>rfl
theorem Da (a b:Nat):(if ((b:Int)<(a:Int)) then (b:Int) else (a:Int))=((min a b:Nat):Int):=by
 split<;>omega
theorem IT (a b:Nat):(if ((a:Int)<(b:Int)) then (b:Int) else (a:Int))=((max a b:Nat):Int):=by
 split<;>omega
theorem Ih (l:List bH) (hl:l.length≤1000000) (gs:List bf) (hf:oL gs) (h:Heap):ak Tryz.prog 188 [gE l,bw gs] h fun r h' =>r= .v (.int .i64 (zb gs l:Nat))∧h' =h:=by
 have hmt:=fun (m:bH) (G:Heap)=>xw m gs hf G
 simp only [cV,bw] at hmt;refine ak.body hU hm Tryz.func188 rfl (by kernel_rfl) 21 rfl [.tmp 4] rfl (Uf rfl) (fun hwf=> ?_)
 simp only [go_sem,gE,bw,Ug];refine .intro (fun q ρ G=>Ab.Sub h G∧∃i:Nat,i≤l.length∧q=l.length - i∧lk ρ 1=some (.sl (gs.map jh) .no)∧lk ρ 5=some (.v (.int .i64 (zb gs (l.take i):Nat)))∧lk ρ 8=some (.sl (l.map cV) .no)∧lk ρ 9=some (.v (.int .i64 l.length))∧lk ρ 10=some (.v (.int .i64 i))) l.length ?_ ?_
 ·refine ⟨.refl _,0,by omega,rfl, ?_, ?_, ?_, ?_, ?_⟩<;>simp only [go_sem]
  rfl
 ·rintro q ρ G ⟨hs,i,hi,rfl,r1,r5,r8,r9,r10⟩
  simp only [go_sem,r9,r10];refine .intro (fun e=> ?_) (fun e=> ?_)
  ·have hlt:i<l.length:=Un e
   have w1:=Um i (by omega)
   have hsn:zb gs (l.take (i+1))=min (zb gs (l.take i)) (ig gs l[i]):=by
    unfold zb; rw [List.take_succ_eq_append_getElem hlt,List.foldl_append]; rfl
   have ix:=fun k=>fu.eq (xs:=l.map cV) (sz:=7) i (by simpa using hlt) (by rw [Uh]; rfl) k
   rw [Uh] at ix;obtain ⟨m,em⟩:∃m,l[i]=m:=⟨_,rfl⟩;rw [em] at ix hsn;have hmt1:=hmt m;simp only [cV] at ix;simp only [go_sem,r8,r10,ix];intro i4 h4;simp only [go_sem,r1,r5];refine (hmt1 _).pthen ?_;simp only [go_sem,r10,Da,w1];refine ⟨_, ?_,hs.trans (.ai h4),i+1,by omega,rfl, ?_, ?_, ?_, ?_, ?_⟩
   ·omega
   all_goals simp only [go_sem,r1,r8,r9,hsn]
  ·have hge:i=l.length:=by have:=Uj e; omega
   subst hge;rw [List.take_length] at r5;simp only [go_sem,r5];exact .mk _ (.refl _) hs ⟨rfl,rfl⟩
def HW (t:fE):Prop:=t.length≤1000000∧∀x∈t,x.length≤1000000∧∀l∈x,l.length≤1000000
theorem Gw (t:fE) (ht:HW t) (gs:List bf) (hf:oL gs) (h:Heap):ak Tryz.prog 141 [aR t,bw gs] h fun r h' =>r= .v (.int .i64 (kD gs t:Nat))∧h' =h:=by
 have hat:=fun (l:List bH) (hl:l.length≤1000000) (G:Heap)=>Ih l hl gs hf G
 simp only [gE,bw] at hat;have htl:=ht.1;refine ak.body hU hm Tryz.func141 rfl (by kernel_rfl) 34 rfl [.tmp 4] rfl (Uf rfl) (fun hwf=> ?_)
 simp only [go_sem,aR,bw,Ug];refine .intro (fun q ρ G=>Ab.Sub h G∧∃i:Nat,i≤t.length∧q=t.length - i∧lk ρ 1=some (.sl (gs.map jh) .no)∧lk ρ 5=some (.v (.int .i64 (kD gs (t.take i):Nat)))∧lk ρ 11=some (.sl (t.map cG) .no)∧lk ρ 12=some (.v (.int .i64 t.length))∧lk ρ 13=some (.v (.int .i64 i))) t.length ?_ ?_
 ·refine ⟨.refl _,0,by omega,rfl, ?_, ?_, ?_, ?_, ?_⟩<;>simp only [go_sem]
  rfl
 ·rintro q ρ G ⟨hs,i,hi,rfl,r1,r5,r11,r12,r13⟩
  simp only [go_sem,r12,r13];refine .intro (fun e=> ?_) (fun e=> ?_)
  ·have hlt:i<t.length:=Un e
   have w1:=Um i (by omega)
   have hsn:kD gs (t.take (i+1))=min (kD gs (t.take i)) (vW gs t[i]):=by
    unfold kD; rw [List.take_succ_eq_append_getElem hlt,List.foldl_append]; rfl
   have ix:=fun k=>fu.eq (xs:=t.map cG) (sz:=1) i (by simpa using hlt) (by rw [Uh]; rfl) k
   rw [Uh] at ix;obtain ⟨hx1,hx2⟩:=ht.2 t[i] (Ul hlt);obtain ⟨x,ex⟩:∃x,t[i]=x:=⟨_,rfl⟩;rw [ex] at ix hsn hx1 hx2;simp only [cG] at ix;simp only [go_sem,r11,r13,ix,Ug];refine .intro (fun q ρ' K=>Ab.Sub h K∧∃n:Nat,n≤x.length∧q=x.length - n∧lk ρ' 1=some (.sl (gs.map jh) .no)∧lk ρ' 5=some (.v (.int .i64 (kD gs (t.take i):Nat)))∧lk ρ' 8=some (.v (.int .i64 (vW gs (x.take n):Nat)))∧lk ρ' 11=some (.sl (t.map cG) .no)∧lk ρ' 12=some (.v (.int .i64 t.length))∧lk ρ' 13=some (.v (.int .i64 i))∧lk ρ' 17=some (.sl (x.map gE) .no)∧lk ρ' 18=some (.v (.int .i64 x.length))∧lk ρ' 19=some (.v (.int .i64 n))) x.length ?_ ?_
   ·refine ⟨hs,0,by omega,rfl, ?_, ?_, ?_, ?_, ?_, ?_, ?_, ?_, ?_⟩<;>simp only [go_sem,r1,r5,r11,r12,r13]
    rfl
   ·rintro q ρ' K ⟨hs',n,hn,rfl,s1,s5,s8,s11,s12,s13,s17,s18,s19⟩
    simp only [go_sem,s18,s19];refine .intro (fun e=> ?_) (fun e=> ?_)
    ·have hlt2:n<x.length:=Un e
     have w2:=Um n (by omega)
     have hsn2:vW gs (x.take (n+1))=max (vW gs (x.take n)) (zb gs x[n]):=by
      unfold vW; rw [List.take_succ_eq_append_getElem hlt2,List.foldl_append]; rfl
     have ix2:=fun k=>fu.eq (xs:=x.map gE) (sz:=1) n (by simpa using hlt2) (by rw [Uh]; rfl) k
     rw [Uh] at ix2;have hx3:=hx2 x[n] (Ul hlt2);obtain ⟨l,el⟩:∃l,x[n]=l:=⟨_,rfl⟩;rw [el] at ix2 hsn2 hx3;simp only [gE] at ix2;simp only [go_sem,s1,s8,s17,s19,ix2];refine (hat l hx3 _).pthen ?_;simp only [go_sem,s19,IT,w2];refine ⟨_, ?_,hs',n+1,by omega,rfl, ?_, ?_, ?_, ?_, ?_, ?_, ?_, ?_, ?_⟩
     ·omega
     all_goals simp only [go_sem,s1,s5,s11,s12,s13,s17,s18,hsn2]
    ·have hge:n=x.length:=by have:=Uj e; omega
     subst hge;rw [List.take_length] at s8;simp only [go_sem,s5,s8,s13,Da,w1];refine ⟨_, ?_,hs',i+1,by omega,rfl, ?_, ?_, ?_, ?_, ?_⟩
     ·omega
     all_goals simp only [go_sem,s1,s11,s12,hsn]
  ·have hge:i=t.length:=by have:=Uj e; omega
   subst hge;rw [List.take_length] at r5;simp only [go_sem,r5];exact .mk _ (.refl _) hs ⟨rfl,rfl⟩
end Go.Proofs.YtmlhcdeamjkpjaaGreatDoor
namespace Go.Bf
open Go Go.Ab Go.Proofs.YtmlhcdeamjkpjaaGreatDoor
def wj (o:Bool) (n:Int):AV:=if o then .tup [.v (.int .i64 0), .v (.int .i64 3)] else .tup [.v (.int .i64 (w64 n)), .v (.int .i64 0)]
def oo (r:bR×Int):AV:= .tup [aS r.1, .v (.int .i64 r.2)]
end Go.Bf
namespace Go.Proofs.YtmlhcdeamjkpjaaGreatDoor
open Go Go.Ab Go.Bf
theorem Kp (a b:Int) (h:Heap):ak Tryz.prog 308 [.v (.int .i64 a), .v (.int .i64 b)] h fun r h' =>r=wj (Fx a b) (a+b)∧h' =h:=by
 refine ak.body hU hm Tryz.func308 rfl (by kernel_rfl) 27 rfl [.tmp 4, .tmp 5] rfl (Uf rfl) (fun hwf=> ?_)
 cases d1:decide (0<b)<;>cases d2:decide (IntKind.i64.wrap (9223372036854775807 - b)<a)<;>cases d3:decide (b<0)<;>cases d4:decide (a<IntKind.i64.wrap (-9223372036854775808 - b))
 all_goals
  simp -implicitDefEqProofs only [go_sem,d1,d2,d3,d4];exact .same (.refl _) ⟨by simp only [wj,Fx,w64,d1,d2,d3,d4]; rfl,rfl⟩
theorem LC (a b:Int) (h:Heap):ak Tryz.prog 309 [.v (.int .i64 a), .v (.int .i64 b)] h fun r h' =>r=wj (Hu a b) (a - b)∧h' =h:=by
 refine ak.body hU hm Tryz.func309 rfl (by kernel_rfl) 27 rfl [.tmp 4, .tmp 5] rfl (Uf rfl) (fun hwf=> ?_)
 cases d1:decide (0<b)<;>cases d2:decide (a<IntKind.i64.wrap (-9223372036854775808+b))<;>cases d3:decide (b<0)<;>cases d4:decide (IntKind.i64.wrap (9223372036854775807+b)<a)
 all_goals
  simp -implicitDefEqProofs only [go_sem,d1,d2,d3,d4];exact .same (.refl _) ⟨by simp only [wj,Hu,w64,d1,d2,d3,d4]; rfl,rfl⟩
theorem Le (a b:Int) (h:Heap):ak Tryz.prog 310 [.v (.int .i64 a), .v (.int .i64 b)] h fun r h' =>r=wj (Ew a b) (a*b)∧h' =h:=by
 refine ak.body hU hm Tryz.func310 rfl (by kernel_rfl) 36 rfl [.tmp 4, .tmp 5] rfl (Uf rfl) (fun hwf=> ?_)
 cases d0:(a !=0)
 ·have e0:a=0:=by simpa using d0
  subst e0;cases d1:(b== -1)
  all_goals
   simp -implicitDefEqProofs only [go_sem,d1];exact .same (.refl _) ⟨by simp [wj,Ew,w64,au],rfl⟩
 have e0:a≠0:=by simpa using d0
 cases d1:(a== -1)<;>cases d2:(b== -9223372036854775808)<;>cases d3:(b== -1)<;>cases d4:(a== -9223372036854775808)<;>cases d5:(IntKind.i64.wrap ((IntKind.i64.wrap (a*b)).tdiv a) !=b)
 all_goals
  simp -implicitDefEqProofs only [go_sem,d0,d1,d2,d3,d4,d5,e0];exact .same (.refl _) ⟨by simp only [wj,Ew,w64,d0,d1,d2,d3,d4,d5]; rfl,rfl⟩
theorem xQ (b:Bool) (h:Heap):ak Tryz.prog 306 [.v (.bool b)] h fun r h' =>r=aS (iA b)∧h' =h:=by
 refine ak.body hU hm Tryz.func306 rfl (by kernel_rfl) 8 rfl [.cell 2 42] rfl (Uf rfl) (fun hwf=> ?_)
 simp -implicitDefEqProofs only [go_sem];intro i1 h1;simp -implicitDefEqProofs only [go_sem];intro i2 h2;have n21:=aH h2;have n2:=aE h2;cases b
 all_goals
  simp -implicitDefEqProofs only [go_sem,aj,n21.symm];exact .mk _ (.refl _) ((((Sub.refl h).put h1 _).put n2 _).put h1 _) ⟨rfl,rfl⟩
theorem yh (kind:Int) (l:List bR) (hl:l.length≤1000000) (p:Perm) (h:Heap):ak Tryz.prog 311 [.v (.int .i64 kind), .sl (l.map aS) p] h fun r h' =>r= .v (.bool (l.all fun v=>v.kind==kind))∧h' =h:=by
 refine ak.body hU hm Tryz.func311 rfl (by kernel_rfl) 18 rfl [.tmp 4] rfl (Uf rfl) (fun hwf=> ?_)
 simp -implicitDefEqProofs only [go_sem,Ug];refine .intro (fun q ρ G=>Ab.Sub h G∧∃i:Nat,i≤l.length∧q=l.length - i∧(∀j (hj:j<i) (h2:j<l.length),(l[j].kind==kind)=true)∧lk ρ 0=some (.v (.int .i64 kind))∧lk ρ 7=some (.sl (l.map aS) p)∧lk ρ 8=some (.v (.int .i64 l.length))∧lk ρ 9=some (.v (.int .i64 i))) l.length ?_ ?_
 ·refine ⟨.refl _,0,by omega,rfl,fun j hj=>(by omega), ?_, ?_, ?_, ?_⟩<;>simp -implicitDefEqProofs only [go_sem]
 ·rintro q ρ G ⟨hs,i,hi,rfl,hc,r0,r7,r8,r9⟩
  simp -implicitDefEqProofs only [go_sem,r8,r9];refine .intro (fun e=> ?_) (fun e=> ?_)
  ·have hlt:i<l.length:=Un e
   have w1:=Um i (by omega)
   have ix:=fun k=>fu.eq (xs:=l.map aS) (sz:=3) i (by simpa using hlt) (by rw [Uh]; rfl) k
   rw [Uh] at ix;have hci:=fun (d:(l[i].kind==kind)=true)=>(fun j (hj:j<i+1) (h2:j<l.length)=>(by
    by_cases hji:j=i
    ·subst hji; exact d
    ·exact hc j (by omega) h2:(l[j].kind==kind)=true))
   have hat:=fun (d:(l[i].kind==kind)=false)=>(List.all_eq_false.2 ⟨l[i],Ul hlt,by rw [d]; decide⟩:(l.all fun v=>v.kind==kind)=false)
   obtain ⟨v,ev⟩:∃v,l[i]=v:=⟨_,rfl⟩;rw [ev] at ix hci hat;simp only [aS] at ix;cases d1:(v.kind==kind)
   ·have d2:(v.kind !=kind)=true:=by simp only [bne,d1]; rfl
    simp -implicitDefEqProofs only [go_sem,r7,r9,ix];intro i4 h4;simp -implicitDefEqProofs only [go_sem,r0,d2];exact .mk _ (.refl _) (hs.trans (.ai h4)) ⟨by rw [hat d1]; rfl,rfl⟩
   ·have d2:(v.kind !=kind)=false:=by simp only [bne,d1]; rfl
    simp -implicitDefEqProofs only [go_sem,r7,r9,ix];intro i4 h4;simp -implicitDefEqProofs only [go_sem,r0,r9,d2,w1];refine ⟨_, ?_,hs.trans (.ai h4),i+1,by omega,rfl,hci d1, ?_, ?_, ?_, ?_⟩
    ·omega
    all_goals simp -implicitDefEqProofs only [go_sem,r0,r7,r8]
  ·have hge:i=l.length:=by have:=Uj e; omega
   simp -implicitDefEqProofs only [go_sem];exact .mk _ (.refl _) hs ⟨by rw [List.all_eq_true.2 fun x hx=>by obtain ⟨j,hj,rfl⟩:=List.mem_iff_getElem.1 hx; exact hc j (by omega) hj]; rfl,rfl⟩
theorem B9 (g:FuncId) (a b:bR) (o:Bool) (n:Int) (hg:∀G,ak Tryz.prog g [.v (.int .i64 a.n), .v (.int .i64 b.n)] G fun r h' =>r=wj o n∧h' =G) (p:Perm) (h:Heap):
  ak Tryz.prog 307 [.fn g [], .sl [aS a,aS b] p] h fun r h' =>r=oo (if ([a,b].all fun v=>v.kind==2) then wo o n else lC 2)∧h' =h:=by
 have ix0:=fun k=>fu.eq (xs:= [aS a,aS b]) (sz:=3) 0 (by simp) rfl k
 have ix1:=fun k=>fu.eq (xs:= [aS a,aS b]) (sz:=3) 1 (by simp) rfl k
 simp only [List.getElem_cons_zero,List.getElem_cons_succ,aS,Int.natCast_zero,Int.natCast_one] at ix0 ix1;have hal:=fun (G:Heap)=>yh 2 [a,b] (by simp) p G
 simp only [List.map_cons,List.map_nil,aS] at hal;refine ak.body hU hm Tryz.func307 rfl (by kernel_rfl) 31 rfl [.cell 4 42, .tmp 5] rfl (Uf rfl) (fun hwf=> ?_)
 simp -implicitDefEqProofs only [go_sem,aS];intro i1 h1;simp -implicitDefEqProofs only [go_sem];refine (hal _).pthen ?_;cases d1:([a,b].all fun v=>v.kind==2)
 ·simp -implicitDefEqProofs only [go_sem]
  exact .mk _ (.refl _) (.ai h1) ⟨rfl,rfl⟩
 ·simp -implicitDefEqProofs only [go_sem]
  refine .quiet (by kernel_rfl) ?_
  simp -implicitDefEqProofs only [go_sem,ix0,ix1];cases o
  ·refine ⟨_,hg _, ?_⟩
   simp -implicitDefEqProofs only [go_sem,wj];exact .mk _ (.refl _) (.ai h1) ⟨rfl,rfl⟩
  ·refine ⟨_,hg _, ?_⟩
   simp -implicitDefEqProofs only [go_sem,wj];exact .mk _ (.refl _) (.ai h1) ⟨rfl,rfl⟩
theorem tM {α:Type} {l:List α} (h:l.length=2):∃a b,l= [a,b]:=by
 match l,h with
 | [a,b],_=>exact ⟨a,b,rfl⟩
def B2 (op:Int) (l:List bR):Bool:= !(decide (op<6)||decide (13<op)||(l.length:Int) !=(if op==11 then 1 else 2)) && l.all bX
set_option maxRecDepth 100000 in
theorem Lc (op:Int) (l:List bR) (hl:l.length≤1000000) (p:Perm) (h:Heap):ak Tryz.prog 305 [.v (.int .i64 op), .sl (l.map aS) p] h fun r h' =>r= .v (.bool (B2 op l))∧h' =h:=by
 have hvr:=fun (v:bR) (G:Heap)=>iG v G
 simp only [aS] at hvr;refine ak.body hU hm Tryz.func305 rfl (by kernel_rfl) 32 rfl [.tmp 4] rfl (Uf rfl) (fun hwf=> ?_)
 cases d11:(op==11)
 all_goals
  have hmm:B2 op l=(!(decide (op<6)||decide (13<op)||(l.length:Int) !=(if op==11 then 1 else 2)) && l.all bX):=rfl
  rw [d11] at hmm;simp only [if_true,Bool.false_eq_true,if_false] at hmm;cases d6:decide (op<6)
  case true=>
   rw [d6] at hmm;simp -implicitDefEqProofs only [go_sem,d11,d6];exact .same (.refl _) ⟨by rw [hmm]; rfl,rfl⟩
  cases d13:decide (13<op)
  case true=>
   rw [d6,d13] at hmm;simp -implicitDefEqProofs only [go_sem,d11,d6,d13];exact .same (.refl _) ⟨by rw [hmm]; rfl,rfl⟩
  rw [d6,d13] at hmm;simp only [Bool.or_false,Bool.false_or] at hmm;obtain ⟨b,eb⟩:∃b,((l.length:Int) !=(if op==11 then 1 else 2))=b:=⟨_,rfl⟩
  rw [d11] at eb;simp only [if_true,Bool.false_eq_true,if_false] at eb;rw [eb] at hmm;cases b
  case true=>
   simp -implicitDefEqProofs only [go_sem,d11,d6,d13,Ug,eb];exact .same (.refl _) ⟨by rw [hmm]; rfl,rfl⟩
  simp only [Bool.not_false,Bool.true_and] at hmm;simp -implicitDefEqProofs only [go_sem,d11,d6,d13,Ug,eb];refine .intro (fun q ρ G=>Ab.Sub h G∧∃i:Nat,i≤l.length∧q=l.length - i∧(∀j (hj:j<i) (h2:j<l.length),bX l[j]=true)∧lk ρ 22=some (.sl (l.map aS) p)∧lk ρ 23=some (.v (.int .i64 l.length))∧lk ρ 24=some (.v (.int .i64 i))) l.length ?_ ?_
  ·refine ⟨.refl _,0,by omega,rfl,fun j hj=>(by omega), ?_, ?_, ?_⟩<;>simp -implicitDefEqProofs only [go_sem]
  ·rintro q ρ G ⟨hs,i,hi,rfl,hc,r22,r23,r24⟩
   simp -implicitDefEqProofs only [go_sem,r23,r24];refine .intro (fun e=> ?_) (fun e=> ?_)
   ·have hlt:i<l.length:=Un e
    have w1:=Um i (by omega)
    have ix:=fun k=>fu.eq (xs:=l.map aS) (sz:=3) i (by simpa using hlt) (by rw [Uh]; rfl) k
    rw [Uh] at ix;have hci:=fun (d:bX l[i]=true)=>(fun j (hj:j<i+1) (h2:j<l.length)=>(by
     by_cases hji:j=i
     ·subst hji; exact d
     ·exact hc j (by omega) h2:bX l[j]=true))
    have hat:=fun (d:bX l[i]=false)=>(List.all_eq_false.2 ⟨l[i],Ul hlt,by rw [d]; decide⟩:l.all bX=false)
    obtain ⟨v,ev⟩:∃v,l[i]=v:=⟨_,rfl⟩;rw [ev] at ix hci hat;simp only [aS] at ix;simp -implicitDefEqProofs only [go_sem,r22,r24,ix];intro i4 h4;simp -implicitDefEqProofs only [go_sem];refine (hvr v _).pthen ?_;cases d1:bX v
    ·simp -implicitDefEqProofs only [go_sem]
     exact .mk _ (.refl _) (hs.trans (.ai h4)) ⟨by rw [hmm,hat d1]; rfl,rfl⟩
    ·simp -implicitDefEqProofs only [go_sem,r24,w1]
     refine ⟨_, ?_,hs.trans (.ai h4),i+1,by omega,rfl,hci d1, ?_, ?_, ?_⟩
     ·omega
     all_goals simp -implicitDefEqProofs only [go_sem,r22,r23]
   ·have hge:i=l.length:=by have:=Uj e; omega
    simp -implicitDefEqProofs only [go_sem];exact .mk _ (.refl _) hs ⟨by rw [hmm,List.all_eq_true.2 fun x hx=>by obtain ⟨j,hj,rfl⟩:=List.mem_iff_getElem.1 hx; exact hc j (by omega) hj]; rfl,rfl⟩
theorem FI {op:Int} {l:List bR} (h:B2 op l=false):fZ op l=lC 1:=by
 unfold fZ;rw [if_pos]
 by_cases h1:6≤op∧op≤13
 ·by_cases h2:l.length=if op=11 then 1 else 2
  ·refine .inr (.inr ?_)
   unfold B2 at h;have e1:decide (op<6)=false:=decide_eq_false (by omega)
   have e2:decide (13<op)=false:=decide_eq_false (by omega)
   have e3:((l.length:Int) !=(if op==11 then 1 else 2))=false:=by
    rw [h2]
    by_cases e:op=11<;>simp [e]
   rw [e1,e2,e3] at h;simpa using h
  ·exact .inr (.inl h2)
 ·exact .inl h1
theorem DH {op:Int} {l:List bR} (h:B2 op l=true):(6≤op∧op≤13)∧l.all bX=true∧(op=11∧(∃a,l= [a])∨op≠11∧∃a b,l= [a,b]):=by
 unfold B2 at h;simp only [Bool.and_eq_true,Bool.not_eq_true',Bool.or_eq_false_iff,decide_eq_false_iff_not] at h;obtain ⟨⟨⟨h1,h2⟩,h3⟩,h4⟩:=h;refine ⟨by omega,h4, ?_⟩
 by_cases e:op=11
 ·subst e
  have h3' :(l.length:Int)=1:=by simpa using h3
  exact .inl ⟨rfl,List.length_eq_one_iff.1 (by omega)⟩
 ·have h3' :(l.length:Int)=2:=by simpa [e] using h3
  exact .inr ⟨e,tM (by omega)⟩
set_option maxRecDepth 100000 in
theorem yl (op:Int) (l:List bR) (hl:l.length≤1000000) (p:Perm) (h:Heap):ak Tryz.prog 286 [.v (.int .i64 op), .sl (l.map aS) p] h fun r h' =>r=oo (fZ op l)∧h' =h:=by
 have hmy:=fun G=>Lc op l hl p G
 cases dm:B2 op l
 ·rw [dm] at hmy
  refine ak.body hU hm Tryz.func286 rfl (by kernel_rfl) 111 rfl [.cell 4 42, .tmp 5] rfl (Uf rfl) (fun hwf=> ?_)
  simp -implicitDefEqProofs only [go_sem];intro i1 h1;simp -implicitDefEqProofs only [go_sem];refine (hmy _).pthen ?_;simp -implicitDefEqProofs only [go_sem];exact .mk _ (.refl _) (.ai h1) ⟨by rw [FI dm]; rfl,rfl⟩
 rw [dm] at hmy;obtain ⟨hop,hall,hf⟩:=DH dm;rcases hf with ⟨rfl,a,rfl⟩|⟨e11,a,b,rfl⟩
 ·have ix0:=fun k=>fu.eq (xs:= [aS a]) (sz:=3) 0 (by simp) rfl k
  simp only [List.getElem_cons_zero,aS,Int.natCast_zero] at ix0;have hal:=fun (G:Heap)=>yh 1 [a] (by simp) p G
  simp only [List.map_cons,List.map_nil,aS] at hal hmy;have hc:fZ 11 [a]=if (([a].all fun v=>v.kind==1)=false) then lC 2 else (iA (a.n==0),0):=by
   unfold fZ;rw [if_neg (by simp [hall])]
   simp
  have htr:=fun G=>xQ (a.n==0) G
  refine ak.body hU hm Tryz.func286 rfl (by kernel_rfl) 111 rfl [.cell 4 42, .tmp 5] rfl (Uf rfl) (fun hwf=> ?_)
  simp -implicitDefEqProofs only [go_sem,List.map_cons,List.map_nil,aS];intro i1 h1;simp -implicitDefEqProofs only [go_sem];refine (hmy _).pthen ?_;simp -implicitDefEqProofs only [go_sem];refine (hal _).pthen ?_;cases d1:([a].all fun v=>v.kind==1)
  ·simp -implicitDefEqProofs only [go_sem]
   exact .mk _ (.refl _) (.ai h1) ⟨by rw [hc,if_pos d1]; rfl,rfl⟩
  ·simp -implicitDefEqProofs only [go_sem,ix0]
   refine (htr _).pthen ?_;simp -implicitDefEqProofs only [go_sem,aS];exact .mk _ (.refl _) (.ai h1) ⟨by rw [hc,if_neg (by rw [d1]; decide)]; rfl,rfl⟩
 ·have ix0:=fun k=>fu.eq (xs:= [aS a,aS b]) (sz:=3) 0 (by simp) rfl k
  have ix1:=fun k=>fu.eq (xs:= [aS a,aS b]) (sz:=3) 1 (by simp) rfl k
  simp only [List.getElem_cons_zero,List.getElem_cons_succ,aS,Int.natCast_zero,Int.natCast_one] at ix0 ix1;have hal:=fun (G:Heap)=>yh 1 [a,b] (by simp) p G
  have hva:bX a=true∧bX b=true:=by simpa using hall
  have hnu:=fun (g:FuncId) (o:Bool) (n:Int) hg (G:Heap)=>B9 g a b o n hg p G
  simp only [List.map_cons,List.map_nil,aS] at hal hmy hnu;have hle:=fun G=>yG a b G
  simp only [aS] at hle;have htr:=fun (x:Bool) G=>xQ x G
  have hc:fZ op [a,b]=if op=6 then (if a.kind=b.kind then (iA (eqV a b),0) else lC 2)
    else if op=7 then (match kV a b with
     |some x=>(iA x,0)
     |none=>lC 2)
    else if op=8∨op=9∨op=10 then
     (if [a,b].all fun v=>v.kind==2 then (if op=8 then wo (Fx a.n b.n) (a.n+b.n) else if op=9 then wo (Hu a.n b.n) (a.n - b.n) else wo (Ew a.n b.n) (a.n*b.n)) else lC 2)
    else if ([a,b].all fun v=>v.kind==1)=false then lC 2
    else if op=12 then (iA (a.n==1 && b.n==1),0)
    else (iA (a.n==1||b.n==1),0):=by
   unfold fZ;rw [if_neg (by simp [hall,e11,hop.1,hop.2])]
   simp only [e11,if_false];rfl
  refine ak.body hU hm Tryz.func286 rfl (by kernel_rfl) 111 rfl [.cell 4 42, .tmp 5] rfl (Uf rfl) (fun hwf=> ?_)
  simp -implicitDefEqProofs only [go_sem,List.map_cons,List.map_nil,aS];intro i1 h1;simp -implicitDefEqProofs only [go_sem];refine (hmy _).pthen ?_;rcases (show op=6∨op=7∨op=8∨op=9∨op=10∨op=12∨op=13 by omega) with rfl|rfl|rfl|rfl|rfl|rfl|rfl
  ·simp -implicitDefEqProofs only [go_sem]
   refine ⟨.of (by kernel_rfl), ?_⟩
   cases dk:(a.kind !=b.kind)
   case true=>
    simp -implicitDefEqProofs only [go_sem,ix0,ix1,dk];exact .mk _ (.refl _) (.ai h1) ⟨by rw [hc,if_pos rfl,if_neg (by simpa using dk)]; rfl,rfl⟩
   ·simp -implicitDefEqProofs only [go_sem,ix0,ix1,dk]
    refine .calls cW [0,1,2,3,4,5,6,7,8,9] (fun _ _ e=>by cases e) (by kernel_rfl) rfl ?_
    simp -implicitDefEqProofs only [go_sem,ix0,ix1];have htr1:=htr (eqV a b);simp only [eqV] at htr1;refine (htr1 _).pthen ?_;refine ⟨fun _ _ e=>(by cases e), ?_⟩
    simp -implicitDefEqProofs only [go_sem,aS];refine ⟨fun _ _ e=>(by cases e), ?_⟩
    exact .mk _ (.refl _) (.ai h1) ⟨by rw [hc,if_pos rfl,if_pos (by simpa using dk)]; rfl,rfl⟩
  ·have hc7:fZ 7 [a,b]=(match kV a b with
     |some x=>(iA x,0)
     |none=>lC 2):=by rw [hc]; rfl
   simp -implicitDefEqProofs only [go_sem];refine .quiet (by kernel_rfl) ?_
   simp -implicitDefEqProofs only [go_sem,ix0,ix1];refine ⟨_,hle _, ?_⟩;cases hl:kV a b with
   |none=>
    have e2:uU a b=2:=by simp [uU,hva]
    rw [hl] at hc7;simp -implicitDefEqProofs only [go_sem,jG,hl,e2];exact .mk _ (.refl _) (.ai h1) ⟨by rw [hc7]; rfl,rfl⟩
   |some x=>
    rw [hl] at hc7;simp -implicitDefEqProofs only [go_sem,jG,hl];refine (htr x _).pthen ?_;simp -implicitDefEqProofs only [go_sem,aS];exact .mk _ (.refl _) (.ai h1) ⟨by rw [hc7]; rfl,rfl⟩
  ·have hc8:fZ 8 [a,b]=if [a,b].all (fun v=>v.kind==2) then wo (Fx a.n b.n) (a.n+b.n) else lC 2:=by rw [hc]; rfl
   have hg:=hnu 308 _ _ (fun G=>Kp a.n b.n G)
   rw [←hc8] at hg;obtain ⟨⟨v,e⟩,ex⟩:∃x,fZ 8 [a,b]=x:=⟨_,rfl⟩;rw [ex] at hg;simp -implicitDefEqProofs only [go_sem];refine (hg _).pthen ?_;simp -implicitDefEqProofs only [go_sem,oo,aS];exact .mk _ (.refl _) (.ai h1) ⟨by rw [ex]; rfl,rfl⟩
  ·have hc8:fZ 9 [a,b]=if [a,b].all (fun v=>v.kind==2) then wo (Hu a.n b.n) (a.n - b.n) else lC 2:=by rw [hc]; rfl
   have hg:=hnu 309 _ _ (fun G=>LC a.n b.n G)
   rw [←hc8] at hg;obtain ⟨⟨v,e⟩,ex⟩:∃x,fZ 9 [a,b]=x:=⟨_,rfl⟩;rw [ex] at hg;simp -implicitDefEqProofs only [go_sem];refine (hg _).pthen ?_;simp -implicitDefEqProofs only [go_sem,oo,aS];exact .mk _ (.refl _) (.ai h1) ⟨by rw [ex]; rfl,rfl⟩
  ·have hc8:fZ 10 [a,b]=if [a,b].all (fun v=>v.kind==2) then wo (Ew a.n b.n) (a.n*b.n) else lC 2:=by rw [hc]; rfl
   have hg:=hnu 310 _ _ (fun G=>Le a.n b.n G)
   rw [←hc8] at hg;obtain ⟨⟨v,e⟩,ex⟩:∃x,fZ 10 [a,b]=x:=⟨_,rfl⟩;rw [ex] at hg;simp -implicitDefEqProofs only [go_sem];refine (hg _).pthen ?_;simp -implicitDefEqProofs only [go_sem,oo,aS];exact .mk _ (.refl _) (.ai h1) ⟨by rw [ex]; rfl,rfl⟩
  ·have hc12:fZ 12 [a,b]=if ([a,b].all fun v=>v.kind==1)=false then lC 2 else (iA (a.n==1 && b.n==1),0):=by rw [hc]; rfl
   simp -implicitDefEqProofs only [go_sem];refine (hal _).pthen ?_;cases d1:([a,b].all fun v=>v.kind==1)
   ·simp -implicitDefEqProofs only [go_sem]
    exact .mk _ (.refl _) (.ai h1) ⟨by rw [hc12,if_pos d1]; rfl,rfl⟩
   ·rw [if_neg (by rw [d1]; decide)] at hc12
    cases da:(a.n==1)<;>cases db:(b.n==1)
    all_goals
     rw [da,db] at hc12;simp -implicitDefEqProofs only [go_sem,ix0,ix1,da,db];refine (htr _ _).pthen ?_;simp -implicitDefEqProofs only [go_sem,aS];exact .mk _ (.refl _) (.ai h1) ⟨by rw [hc12]; rfl,rfl⟩
  ·have hc13:fZ 13 [a,b]=if ([a,b].all fun v=>v.kind==1)=false then lC 2 else (iA (a.n==1||b.n==1),0):=by rw [hc]; rfl
   simp -implicitDefEqProofs only [go_sem];refine (hal _).pthen ?_;cases d1:([a,b].all fun v=>v.kind==1)
   ·simp -implicitDefEqProofs only [go_sem]
    exact .mk _ (.refl _) (.ai h1) ⟨by rw [hc13,if_pos d1]; rfl,rfl⟩
   ·rw [if_neg (by rw [d1]; decide)] at hc13
    cases da:(a.n==1)<;>cases db:(b.n==1)
    all_goals
     rw [da,db] at hc13;simp -implicitDefEqProofs only [go_sem,ix0,ix1,da,db];refine (htr _ _).pthen ?_;simp -implicitDefEqProofs only [go_sem,aS];exact .mk _ (.refl _) (.ai h1) ⟨by rw [hc13]; rfl,rfl⟩
end Go.Proofs.YtmlhcdeamjkpjaaGreatDoor
namespace Go.Bf
open Go Go.Ab Go.Proofs.YtmlhcdeamjkpjaaGreatDoor
def bF (x:iD):AV:= .agg [.sl (x.bag.map aS) .no, .v (.int .i64 x.v.kind), .v (.int .i64 x.v.n), .s x.v.s, .v (.int .i64 x.e)]
end Go.Bf
namespace Go.Proofs.YtmlhcdeamjkpjaaGreatDoor
open Go Go.Ab Go.Bf
theorem KY (x:iD) (n:Int) (h:Heap):ak Tryz.prog 234 [bF x, .v (.int .i64 n)] h fun r h' =>r= .v (.bool (isI x n))∧h' =h:=by
 refine ak.body hU hm Tryz.func234 rfl (by kernel_rfl) 15 rfl [.tmp 4] rfl (Uf rfl) (fun hwf=> ?_)
 simp only [go_sem,bF];intro i1 h1;cases d1:(x.e==0)
 ·simp only [go_sem,d1]
  exact .mk _ (.refl _) (.ai h1) ⟨by simp only [isI,d1,Bool.false_and]; rfl,rfl⟩
 ·simp only [go_sem,d1]
  exact .mk _ (.refl _) (.ai h1) ⟨by simp only [isI,d1,Bool.true_and,eqV]; rfl,rfl⟩
theorem IC (x:iD) (n:Int) (h:Heap):ak Tryz.prog 234 [.agg [.sl [] .full, .v (.int .i64 x.v.kind), .v (.int .i64 x.v.n), .s x.v.s, .v (.int .i64 x.e)], .v (.int .i64 n)] h fun r h' =>r= .v (.bool (isI x n))∧h' =h:=by
 refine ak.body hU hm Tryz.func234 rfl (by kernel_rfl) 15 rfl [.tmp 4] rfl (Uf rfl) (fun hwf=> ?_)
 simp only [go_sem];intro i1 h1;cases d1:(x.e==0)
 ·simp only [go_sem,d1]
  exact .mk _ (.refl _) (.ai h1) ⟨by simp only [isI,d1,Bool.false_and]; rfl,rfl⟩
 ·simp only [go_sem,d1]
  exact .mk _ (.refl _) (.ai h1) ⟨by simp only [isI,d1,Bool.true_and,eqV]; rfl,rfl⟩
theorem rV (b:Bool) (h:Heap):ak Tryz.prog 284 [.v (.bool b)] h fun r h' =>r=bF (gS b)∧h' =h:=by
 refine ak.body hU hm Tryz.func284 rfl (by kernel_rfl) 10 rfl [.cell 2 298] rfl (Uf rfl) (fun hwf=> ?_)
 simp only [go_sem];intro i1 h1;simp only [go_sem];intro i2 h2;have n21:=aH h2;have n2:=aE h2;cases b
 all_goals
  simp only [go_sem,aj,n21.symm];refine .mk (bF (gS _)) ?_ ((((Sub.refl h).put h1 _).put n2 _).put h1 _) ⟨rfl,rfl⟩;refine .agg _ _ rfl fun i a b=> ?_
  rcases i with _|_|_|_|_|i
  ·exact .sl _ _
  all_goals first|exact .refl _|(simp at a; omega)
theorem BE (op:Int) (h:Heap):ak Tryz.prog 260 [.v (.int .i64 op)] h fun r h' =>r= .v (.int .i64 (opsOf op:Nat))∧h' =h:=by
 refine ak.body hU hm Tryz.func260 rfl (by kernel_rfl) 11 rfl [.tmp 2] rfl (Uf rfl) (fun hwf=> ?_)
 cases d1:(op==1)
 case true=>simp only [go_sem,d1]; exact .same (.refl _) ⟨by rw [opsOf,if_pos (.inl (by simpa using d1))]; rfl,rfl⟩
 cases d2:(op==2)
 case true=>simp only [go_sem,d1,d2]; exact .same (.refl _) ⟨by rw [opsOf,if_pos (.inr (by simpa using d2))]; rfl,rfl⟩
 have e1:¬(op=1∨op=2):=by simp only [beq_eq_false_iff_ne] at d1 d2; omega
 cases d3:(op==3)
 case true=>simp only [go_sem,d1,d2,d3]; exact .same (.refl _) ⟨by rw [opsOf,if_neg e1,if_pos (.inl (by simpa using d3))]; rfl,rfl⟩
 cases d4:(op==4)
 case true=>simp only [go_sem,d1,d2,d3,d4]; exact .same (.refl _) ⟨by rw [opsOf,if_neg e1,if_pos (.inr (.inl (by simpa using d4)))]; rfl,rfl⟩
 cases d5:(op==11)
 case true=>simp only [go_sem,d1,d2,d3,d4,d5]; exact .same (.refl _) ⟨by rw [opsOf,if_neg e1,if_pos (.inr (.inr (by simpa using d5)))]; rfl,rfl⟩
 have e2:¬(op=3∨op=4∨op=11):=by simp only [beq_eq_false_iff_ne] at d3 d4 d5; omega
 simp only [go_sem,d1,d2,d3,d4,d5];exact .same (.refl _) ⟨by rw [opsOf,if_neg e1,if_neg e2]; rfl,rfl⟩
theorem BX (vs:List bR) (hl:vs.length≤1000000000) (x:bR) (p:Perm) (h:Heap):
  ak Tryz.prog 320 [.sl (vs.map aS) p,aS x] h fun r h' =>r= .v (.int .i64 (ixD (fun y=>eqV x y) vs))∧h' =h:=by
 refine ak.body hU hm Tryz.func320 rfl (by kernel_rfl) 19 rfl [.tmp 4] rfl (Uf rfl) (fun hwf=> ?_)
 simp only [go_sem,aS];intro i1 h1;simp only [go_sem,Ug];refine .intro (fun m ρ G=>G=upd h i1 (some (.obj [.v (.int .i64 x.kind), .v (.int .i64 x.n), .s x.s] 42))∧∃i:Nat,i≤vs.length∧m=vs.length - i∧(∀j (hj:j<i) (h2:j<vs.length),eqV x vs[j]=false)∧lk ρ 0=some (.sl (vs.map aS) p)∧lk ρ 3=some (.ptr i1 0)∧lk ρ 7=some (.v (.int .i64 vs.length))∧lk ρ 8=some (.v (.int .i64 i))) vs.length ?_ ?_
 ·refine ⟨rfl,0,by omega,rfl,fun j hj=>(by omega), ?_, ?_, ?_, ?_⟩<;>simp only [go_sem]
 ·rintro m ρ G ⟨rfl,i,hi,rfl,hc,r0,r3,r7,r8⟩
  simp only [go_sem,r7,r8];refine .intro (fun e=> ?_) (fun e=> ?_)
  ·have hlt:i<vs.length:=Un e
   have w1:=Um i (by omega)
   have ix:=fun k=>fu.eq (xs:=vs.map aS) (sz:=3) i (by simpa using hlt) (by rw [Uh]; rfl) k
   rw [Uh] at ix;have hci:=fun (d:eqV x vs[i]=false)=>(fun j (hj:j<i+1) (h2:j<vs.length)=>(by
    by_cases hji:j=i
    ·subst hji; exact d
    ·exact hc j (by omega) h2:eqV x vs[j]=false))
   have hat:=fun (d:eqV x vs[i]=true)=>lD (q:=fun y=>eqV x y) hlt d fun j hj=>hc j hj (by omega)
   obtain ⟨v,ev⟩:∃v,vs[i]=v:=⟨_,rfl⟩;rw [ev] at ix hci hat;simp only [aS] at ix;simp only [go_sem,r0,r3,r8];refine ⟨.of (by kernel_rfl), ?_⟩
   cases d1:eqV x v
   ·have d2:=d1
    simp only [eqV] at d2;simp only [go_sem,r8,ix,d2,w1];refine ⟨_, ?_,rfl,i+1,by omega,rfl,hci d1, ?_, ?_, ?_, ?_⟩
    ·omega
    all_goals simp only [go_sem,r0,r3,r7]
   ·have d2:=d1
    simp only [eqV] at d2;simp only [go_sem,ix,d2];exact .mk _ (.refl _) (.ai h1) ⟨by rw [hat d1]; rfl,rfl⟩
  ·have hge:i=vs.length:=by have:=Uj e; omega
   simp only [go_sem];exact .mk _ (.refl _) (.ai h1) ⟨by rw [gX fun j hj=>hc j (by omega) hj]; rfl,rfl⟩
theorem Ii {vs:List bR} {x:bR}:decide ((0:Int)≤ixD (fun y=>eqV x y) vs)=vs.any fun v=>eqV v x:=by
 have hsy:(fun v=>eqV v x)=fun v=>eqV x v:=funext fun v=>by simp only [eqV,BEq.comm]
 rw [ri,hsy]
theorem Jh (vs:List bR) (hl:vs.length≤1000000000) (x:bR) (p:Perm) (h:Heap):ak Tryz.prog 285 [.sl (vs.map aS) p,aS x] h fun r h' =>r= .v (.bool (vs.any fun v=>eqV v x))∧h' =h:=by
 have h1:∀G,ak Tryz.prog 304 [.sl (vs.map aS) p,aS x] G fun r h' =>r= .v (.bool (vs.any fun v=>eqV v x))∧h' =G:=fun G=>by
  have hq:=fun K=>BX vs hl x p K
  simp only [aS] at hq;refine ak.body hU hm Tryz.func304 rfl (by kernel_rfl) 9 rfl [.tmp 4] rfl (Uf rfl) (fun hwf=> ?_)
  simp only [go_sem,aS];intro i1 h1;simp only [go_sem];refine (hq _).pthen ?_;simp only [go_sem,Ii];exact .mk _ (.refl _) (.ai h1) ⟨rfl,rfl⟩
 simp only [aS] at h1;refine ak.body hU hm Tryz.func285 rfl (by kernel_rfl) 8 rfl [.tmp 4] rfl (Uf rfl) (fun hwf=> ?_)
 simp only [go_sem,aS];intro i1 h1';simp only [go_sem];refine (h1 _).pthen ?_;simp only [go_sem];exact .mk _ (.refl _) (.ai h1') ⟨rfl,rfl⟩
theorem jF {L:List AV} {x:iD} (hL:L=x.bag.map aS) (q:Perm):Weak (.agg [.sl L q, .v (.int .i64 x.v.kind), .v (.int .i64 x.v.n), .s x.v.s, .v (.int .i64 x.e)]) (bF x):=by
 subst hL;refine .agg _ _ rfl fun i a b=> ?_
 rcases i with _|_|_|_|_|i
 ·exact .sl _ _
 all_goals first|exact .refl _|(simp at a; omega)
theorem qD (op:Int):opsOf op≤2:=by
 unfold opsOf
 repeat' split
 all_goals omega
theorem rI {gs:List bf} {op:Int} {val:bR} {attr:mV} {l:List iD} {x:iD} (h1:op≠1) (h2:op≠2) (hno:¬((op=12∨op=13)∧(l.any fun x=>isI x (op - 12))=true)) (hx:l.find? (fun x=>x.e !=0)=some x):jI gs ⟨op,val,attr⟩ l=⟨[],az,x.e⟩:=by
 unfold jI;simp only [if_neg h1,if_neg h2,if_neg hno,hx]
theorem rH {gs:List bf} {op:Int} {val:bR} {attr:mV} {l:List iD} (h1:op≠1) (h2:op≠2) (hno:¬((op=12∨op=13)∧(l.any fun x=>isI x (op - 12))=true)) (hx:l.find? (fun x=>x.e !=0)=none):jI gs ⟨op,val,attr⟩ l=(if op=3 then (match (l.headD ⟨[],az,0⟩).bag with
    | [v]=>⟨[],v,0⟩
    |_=>⟨[],az,4⟩)
   else if op=4 then ⟨[],⟨2,(l.headD ⟨[],az,0⟩).bag.length,[]⟩,0⟩
   else if op=5 then gS ((l.headD ⟨[],az,0⟩).bag.any fun v=>eqV v (l.getD 1 ⟨[],az,0⟩).v)
   else Go.Bf.wH (fZ op (l.map (·.v)))):=by
 unfold jI;simp only [if_neg h1,if_neg h2,if_neg hno,hx]
 all_goals rfl
set_option maxRecDepth 100000 in
theorem IV {h:Heap} {y:AV} (n:aL) (hop:1≤n.op∧n.op≤13) (l:List iD) (hb:Rd h 5 y (l.map bF)) (hl:l.length=opsOf n.op) (hbag:∀x∈l,x.bag.length≤1000000) (gs:List bf) (hf:oL gs):
  ak Tryz.prog 261 [cP n,y,bw gs] h fun r h' =>r=bF (jI gs n l)∧h' =h:=by
 obtain ⟨op,val,attr⟩:=n;simp only at hop hl;have hl2:l.length≤2:=by rw [hl]; exact qD op
 have uV:(U 42).sz=3:=by simp only [go_sem]
 have hg:=fun G=>CZ gs attr.cat attr.name attr.must (by have:=hf.1; omega) hf.2 G
 simp only [bw] at hg;refine ak.body hU hm Tryz.func261 rfl (by kernel_rfl) 122 rfl [.cell 6 298] rfl (Uf rfl) (fun hwf=> ?_)
 simp only [go_sem,cP,bw];intro i3 h3;simp only [go_sem];intro i6 h6;have n63:=aH h6;have n6' :=aE h6;obtain ⟨H0,eH⟩:∃H0,upd (upd h i3 (some (.obj [.v (.int .i64 op), .v (.int .i64 val.kind), .v (.int .i64 val.n), .s val.s, .v (.int .i64 attr.cat), .s attr.name, .v (.bool attr.must)] 186))) i6 (some (.obj [.sl [] .full, .v (.int .i64 0), .v (.int .i64 0), .s [], .v (.int .i64 0)] 298))=H0:=⟨_,rfl⟩;have hH0:Ab.Sub h H0:=by rw [←eH]; exact ((Sub.refl h).put h3 _).put n6' _
 have g3:H0 i3=some (.obj [.v (.int .i64 op), .v (.int .i64 val.kind), .v (.int .i64 val.n), .s val.s, .v (.int .i64 attr.cat), .s attr.name, .v (.bool attr.must)] 186):=by rw [←eH,ag _ _ n63.symm,ah]
 have g6:H0 i6=some (.obj [.sl [] .full, .v (.int .i64 0), .v (.int .i64 0), .s [], .v (.int .i64 0)] 298):=by rw [←eH,ah]
 rw [eH];clear eH;cases d1:(op==1)
 case true=>
  have e1:op=1:=by simpa using d1
  simp only [go_sem,d1,g3,g6];exact .mk (bF ⟨[],val,0⟩) (jF (x:=⟨[],val,0⟩) rfl _) (hH0.put n6' _) ⟨by unfold jI; simp only [e1,if_true],rfl⟩
 have hp1' :op≠1:=by simpa using d1
 cases d2:(op==2)
 case true=>
  have e2:op=2:=by simpa using d2
  simp only [go_sem,d1,d2,g3];refine (hg _).pthen ?_
  by_cases hh:uh gs attr= []∧attr.must=true
  ·have hh2:Go.Bf.getD gs attr.cat attr.name= []∧attr.must=true:=hh
   simp only [go_sem,D8,if_pos hh2,g6];exact .mk (bF ⟨[],az,4⟩) (jF (x:=⟨[],az,4⟩) rfl _) (hH0.put n6' _) ⟨by unfold jI; simp only [e2,if_neg (show¬(2:Int)=1 by decide),if_true,if_pos hh],rfl⟩
  ·have hh2:¬(Go.Bf.getD gs attr.cat attr.name= []∧attr.must=true):=hh
   simp only [go_sem,D8,if_neg hh2,g6];exact .mk (bF ⟨uh gs attr,az,0⟩) (jF (x:=⟨uh gs attr,az,0⟩) rfl _) (hH0.put n6' _) ⟨by unfold jI; simp only [e2,if_neg (show¬(2:Int)=1 by decide),if_true,if_neg hh],rfl⟩
 have hp2' :op≠2:=by simpa using d2
 have his:=fun (x:iD) (m:Int) (G:Heap)=>KY x m G
 simp only [bF] at his;cases d12:(op==12)
 case true=>
  have e12:op=12:=by simpa using d12
  have htr:=fun G=>rV false G
  simp only [bF] at htr;obtain ⟨a,b,hab⟩:∃a b,l= [a,b]:=tM (by rw [hl,e12]; rfl)
  have wk:IntKind.i64.wrap (op - 12)=0:=by rw [e12]; rfl
  have han:(l.any fun x=>isI x (op - 12))=(isI a 0||isI b 0):=by rw [hab,e12]; simp
  have hb0:l.map bF= [bF a,bF b]:=by rw [hab]; rfl
  have q3:(op==3)=false:=by rw [e12]; rfl
  have q4:(op==4)=false:=by rw [e12]; rfl
  have q5:(op==5)=false:=by rw [e12]; rfl
  have hbH:=hb.sub hH0;simp only [go_sem,d2,d1,d12,g3,wk];refine hbH.idx (e:=298) 0 rfl (by rw [hb0]; simp) (by simp only [go_sem]) (by decide) fun p hp1=> ?_
  have hld:=hp1.all (U:=U) (ty:=298) (by simp only [go_sem]) (by simp only [go_sem,hb0,List.getElem_cons_zero]; rfl) (by simp only [go_sem,hb0,List.getElem_cons_zero]; rfl)
  simp only [go_sem,hld,hb0,List.getElem_cons_zero,bF];refine (his a 0 _).pthen ?_;cases da:isI a 0
  ·simp only [go_sem]
   refine hbH.idx (e:=298) 1 rfl (by rw [hb0]; simp) (by simp only [go_sem]) (by decide) fun p hp1=> ?_
   have hld:=hp1.all (U:=U) (ty:=298) (by simp only [go_sem]) (by simp only [go_sem,hb0,List.getElem_cons_succ,List.getElem_cons_zero]; rfl) (by simp only [go_sem,hb0,List.getElem_cons_succ,List.getElem_cons_zero]; rfl)
   simp only [go_sem,hld,hb0,List.getElem_cons_succ,List.getElem_cons_zero,bF];refine (his b 0 _).pthen ?_;cases db:isI b 0
   ·have hno:¬((op=12∨op=13)∧(l.any fun x=>isI x (op - 12))=true):=by rw [han,da,db]; simp
    simp only [go_sem,hb.len,Ug];refine .intro (fun m ρ H=>∃(i:Nat) (z:AV),Acc U 42 H0 H z ((l.take i).map fun x=>aS x.v)∧i≤l.length∧m=l.length - i∧(∀j (h1:j<l.length),j<i→l[j].e=0)∧lk ρ 1=some y∧lk ρ 3=some (.ptr i3 0)∧lk ρ 6=some (.ptr i6 0)∧lk ρ 10=some z∧lk ρ 55=some y∧lk ρ 56=some (.v (.int .i64 l.length))∧lk ρ 57=some (.v (.int .i64 i))) l.length ?_ ?_
    ·refine ⟨0, .sl [] .full, .full (.refl _),by omega,rfl,fun j _ hj=>(by omega), ?_, ?_, ?_, ?_, ?_, ?_, ?_⟩<;>simp only [go_sem]
    ·rintro m ρ H ⟨i,z,hz,hi,rfl,hc,r1,r3,r6,r10,r55,r56,r57⟩
     have hsH:=hH0.trans hz.1;have hbH:=hb.sub hsH;have k3:=hz.1 _ _ g3;have k6:=hz.1 _ _ g6;simp only [go_sem,r56,r57];refine .intro (fun e=> ?_) (fun e=> ?_)
     ·have hlt:i<l.length:=Un e
      have w1:=Um i (by omega)
      have hsn:(l.take (i+1)).map (fun x=>aS x.v)=(l.take i).map (fun x=>aS x.v)++ [aS l[i].v]:=by rw [List.take_succ_eq_append_getElem hlt,List.map_append]; rfl
      simp only [go_sem,r55,r57];refine hbH.idx (e:=298) i rfl (by simpa using hlt) (by simp only [go_sem]) (by decide) fun p hp1=> ?_
      have hld:=hp1.all (U:=U) (ty:=298) (by simp only [go_sem]) (by simp only [go_sem]; rw [Uh]; rfl) (by simp only [go_sem]; rw [Uh]; rfl)
      obtain ⟨x,ex⟩:∃x,l[i]=x:=⟨_,rfl⟩;rw [ex] at hsn;simp only [go_sem,hld,Uh,ex,bF];intro i12 h12;have n126:i12≠i6:=fun e=>by rw [e,k6] at h12; cases h12
      cases dx:(x.e !=0)
      ·have dx' :x.e=0:=by simpa using dx
       simp only [go_sem,r10,dx];refine (hz.sub (.ai h12)).app (zs:= [aS x.v]) (by simp only [go_sem,ne_eq,not_false_eq_true]) (by simp only [go_sem,ne_eq,not_false_eq_true]) (fun k hk=>hk) (by rw [uV]; intro z hz; obtain ⟨w,_,rfl⟩:=List.mem_map.1 hz; rfl) (by rw [uV]; intro z hz; rw [List.mem_singleton.1 hz]; rfl) (by simp only [go_sem,Ug,List.length_take,List.length_cons,List.length_nil]; omega) fun z' H' hz' kp=> ?_
       simp only [go_sem,r57,w1];refine ⟨_, ?_,i+1,z',by rw [hsn]; exact hz',by omega,rfl,fun j h1 hj=> ?_, ?_, ?_, ?_, ?_, ?_, ?_, ?_⟩
       ·omega
       ·by_cases hji:j=i
        ·subst hji; rw [ex]; exact dx'
        ·exact hc j h1 (by omega)
       all_goals simp only [go_sem,r1,r3,r6,r55,r56]
      ·have hfi:l.find? (fun x=>x.e !=0)=some x:=by rw [←ex]; exact List.find?_eq_some_iff_getElem.2 ⟨by rw [ex]; exact dx,i,hlt,rfl,fun j hj=>by rw [hc j (by omega) hj]; rfl⟩
       simp only [go_sem,r6,dx,aj,n126.symm,k6];exact .mk (bF ⟨[],az,x.e⟩) (jF (x:=⟨[],az,x.e⟩) rfl _) ((hsH.trans (.ai h12)).put n6' _) ⟨by rw [rI hp1' hp2' hno hfi]<;>rfl,rfl⟩
     ·have hge:i=l.length:=by have:=Uj e; omega
      subst hge;have hfi:l.find? (fun x=>x.e !=0)=none:=List.find?_eq_none.2 fun x hx=>by
       obtain ⟨j,hj,rfl⟩:=List.mem_iff_getElem.1 hx;rw [hc j hj hj]; decide
      have hnd:=rH (gs:=gs) (val:=val) (attr:=attr) hp1' hp2' hno hfi;rw [List.take_length] at hz;obtain ⟨qz,eqz⟩:=hz.row;subst eqz;have hcl:=fun G=>yl op (l.map (·.v)) (by rw [Ug,hl]; have:=qD op; omega) qz G
      rw [List.map_map] at hcl;have hcl:∀G,ak Tryz.prog 286 [.v (.int .i64 op), .sl (l.map fun x=>aS x.v) qz] G fun r h' =>r=oo (fZ op (l.map (·.v)))∧h' =G:=hcl
      obtain ⟨⟨v,e⟩,ev⟩:∃x,fZ op (l.map (·.v))=x:=⟨_,rfl⟩
      rw [ev] at hcl;simp only [go_sem,r3,r10,k3,q3,q4,q5];refine (hcl _).pthen ?_;simp only [go_sem,oo,aS];intro i13 h13;have n136:i13≠i6:=fun e=>by rw [e,k6] at h13; cases h13
      simp only [go_sem,r6,aj,n136.symm,k6];exact .mk (bF ⟨[],v,e⟩) (jF (x:=⟨[],v,e⟩) rfl _) ((hsH.trans (.ai h13)).put n6' _) ⟨by rw [hnd]; simp only [if_neg (show¬op=3 by omega),if_neg (show¬op=4 by omega),if_neg (show¬op=5 by omega)]; rw [ev]<;>rfl,rfl⟩
   ·simp only [go_sem]
    refine (htr _).pthen ?_;simp only [go_sem,g6];exact .mk (bF (gS false)) (jF (x:=(gS false)) rfl _) (hH0.put n6' _) ⟨by unfold jI; rw [han,da,db]; simp [e12]<;>rfl,rfl⟩
  ·simp only [go_sem]
   refine (htr _).pthen ?_;simp only [go_sem,g6];exact .mk (bF (gS false)) (jF (x:=(gS false)) rfl _) (hH0.put n6' _) ⟨by unfold jI; rw [han,da]; simp [e12]<;>rfl,rfl⟩
 have hn12:op≠12:=by simpa using d12
 cases d13:(op==13)
 case true=>
  have e12:op=13:=by simpa using d13
  have htr:=fun G=>rV true G
  simp only [bF] at htr;obtain ⟨a,b,hab⟩:∃a b,l= [a,b]:=tM (by rw [hl,e12]; rfl)
  have wk:IntKind.i64.wrap (op - 12)=1:=by rw [e12]; rfl
  have han:(l.any fun x=>isI x (op - 12))=(isI a 1||isI b 1):=by rw [hab,e12]; simp
  have hb0:l.map bF= [bF a,bF b]:=by rw [hab]; rfl
  have q3:(op==3)=false:=by rw [e12]; rfl
  have q4:(op==4)=false:=by rw [e12]; rfl
  have q5:(op==5)=false:=by rw [e12]; rfl
  have hbH:=hb.sub hH0;simp only [go_sem,d1,d2,d12,d13,g3,wk];refine hbH.idx (e:=298) 0 rfl (by rw [hb0]; simp) (by simp only [go_sem]) (by decide) fun p hp1=> ?_
  have hld:=hp1.all (U:=U) (ty:=298) (by simp only [go_sem]) (by simp only [go_sem,hb0,List.getElem_cons_zero]; rfl) (by simp only [go_sem,hb0,List.getElem_cons_zero]; rfl)
  simp only [go_sem,hld,hb0,List.getElem_cons_zero,bF];refine (his a 1 _).pthen ?_;cases da:isI a 1
  ·simp only [go_sem]
   refine hbH.idx (e:=298) 1 rfl (by rw [hb0]; simp) (by simp only [go_sem]) (by decide) fun p hp1=> ?_
   have hld:=hp1.all (U:=U) (ty:=298) (by simp only [go_sem]) (by simp only [go_sem,hb0,List.getElem_cons_succ,List.getElem_cons_zero]; rfl) (by simp only [go_sem,hb0,List.getElem_cons_succ,List.getElem_cons_zero]; rfl)
   simp only [go_sem,hld,hb0,List.getElem_cons_succ,List.getElem_cons_zero,bF];refine (his b 1 _).pthen ?_;cases db:isI b 1
   ·have hno:¬((op=12∨op=13)∧(l.any fun x=>isI x (op - 12))=true):=by rw [han,da,db]; simp
    simp only [go_sem,hb.len,Ug];refine .intro (fun m ρ H=>∃(i:Nat) (z:AV),Acc U 42 H0 H z ((l.take i).map fun x=>aS x.v)∧i≤l.length∧m=l.length - i∧(∀j (h1:j<l.length),j<i→l[j].e=0)∧lk ρ 1=some y∧lk ρ 3=some (.ptr i3 0)∧lk ρ 6=some (.ptr i6 0)∧lk ρ 10=some z∧lk ρ 55=some y∧lk ρ 56=some (.v (.int .i64 l.length))∧lk ρ 57=some (.v (.int .i64 i))) l.length ?_ ?_
    ·refine ⟨0, .sl [] .full, .full (.refl _),by omega,rfl,fun j _ hj=>(by omega), ?_, ?_, ?_, ?_, ?_, ?_, ?_⟩<;>simp only [go_sem]
    ·rintro m ρ H ⟨i,z,hz,hi,rfl,hc,r1,r3,r6,r10,r55,r56,r57⟩
     have hsH:=hH0.trans hz.1;have hbH:=hb.sub hsH;have k3:=hz.1 _ _ g3;have k6:=hz.1 _ _ g6;simp only [go_sem,r56,r57];refine .intro (fun e=> ?_) (fun e=> ?_)
     ·have hlt:i<l.length:=Un e
      have w1:=Um i (by omega)
      have hsn:(l.take (i+1)).map (fun x=>aS x.v)=(l.take i).map (fun x=>aS x.v)++ [aS l[i].v]:=by rw [List.take_succ_eq_append_getElem hlt,List.map_append]; rfl
      simp only [go_sem,r55,r57];refine hbH.idx (e:=298) i rfl (by simpa using hlt) (by simp only [go_sem]) (by decide) fun p hp1=> ?_
      have hld:=hp1.all (U:=U) (ty:=298) (by simp only [go_sem]) (by simp only [go_sem]; rw [Uh]; rfl) (by simp only [go_sem]; rw [Uh]; rfl)
      obtain ⟨x,ex⟩:∃x,l[i]=x:=⟨_,rfl⟩;rw [ex] at hsn;simp only [go_sem,hld,Uh,ex,bF];intro i12 h12;have n126:i12≠i6:=fun e=>by rw [e,k6] at h12; cases h12
      cases dx:(x.e !=0)
      ·have dx' :x.e=0:=by simpa using dx
       simp only [go_sem,r10,dx];refine (hz.sub (.ai h12)).app (zs:= [aS x.v]) (by simp only [go_sem,ne_eq,not_false_eq_true]) (by simp only [go_sem,ne_eq,not_false_eq_true]) (fun k hk=>hk) (by rw [uV]; intro z hz; obtain ⟨w,_,rfl⟩:=List.mem_map.1 hz; rfl) (by rw [uV]; intro z hz; rw [List.mem_singleton.1 hz]; rfl) (by simp only [go_sem,Ug,List.length_take,List.length_cons,List.length_nil]; omega) fun z' H' hz' kp=> ?_
       simp only [go_sem,r57,w1];refine ⟨_, ?_,i+1,z',by rw [hsn]; exact hz',by omega,rfl,fun j h1 hj=> ?_, ?_, ?_, ?_, ?_, ?_, ?_, ?_⟩
       ·omega
       ·by_cases hji:j=i
        ·subst hji; rw [ex]; exact dx'
        ·exact hc j h1 (by omega)
       all_goals simp only [go_sem,r1,r3,r6,r55,r56]
      ·have hfi:l.find? (fun x=>x.e !=0)=some x:=by rw [←ex]; exact List.find?_eq_some_iff_getElem.2 ⟨by rw [ex]; exact dx,i,hlt,rfl,fun j hj=>by rw [hc j (by omega) hj]; rfl⟩
       simp only [go_sem,r6,dx,aj,n126.symm,k6];exact .mk (bF ⟨[],az,x.e⟩) (jF (x:=⟨[],az,x.e⟩) rfl _) ((hsH.trans (.ai h12)).put n6' _) ⟨by rw [rI hp1' hp2' hno hfi]<;>rfl,rfl⟩
     ·have hge:i=l.length:=by have:=Uj e; omega
      subst hge;have hfi:l.find? (fun x=>x.e !=0)=none:=List.find?_eq_none.2 fun x hx=>by
       obtain ⟨j,hj,rfl⟩:=List.mem_iff_getElem.1 hx;rw [hc j hj hj]; decide
      have hnd:=rH (gs:=gs) (val:=val) (attr:=attr) hp1' hp2' hno hfi;rw [List.take_length] at hz;obtain ⟨qz,eqz⟩:=hz.row;subst eqz;have hcl:=fun G=>yl op (l.map (·.v)) (by rw [Ug,hl]; have:=qD op; omega) qz G
      rw [List.map_map] at hcl;have hcl:∀G,ak Tryz.prog 286 [.v (.int .i64 op), .sl (l.map fun x=>aS x.v) qz] G fun r h' =>r=oo (fZ op (l.map (·.v)))∧h' =G:=hcl
      obtain ⟨⟨v,e⟩,ev⟩:∃x,fZ op (l.map (·.v))=x:=⟨_,rfl⟩
      rw [ev] at hcl;simp only [go_sem,r3,r10,k3,q3,q4,q5];refine (hcl _).pthen ?_;simp only [go_sem,oo,aS];intro i13 h13;have n136:i13≠i6:=fun e=>by rw [e,k6] at h13; cases h13
      simp only [go_sem,r6,aj,n136.symm,k6];exact .mk (bF ⟨[],v,e⟩) (jF (x:=⟨[],v,e⟩) rfl _) ((hsH.trans (.ai h13)).put n6' _) ⟨by rw [hnd]; simp only [if_neg (show¬op=3 by omega),if_neg (show¬op=4 by omega),if_neg (show¬op=5 by omega)]; rw [ev]<;>rfl,rfl⟩
   ·simp only [go_sem]
    refine (htr _).pthen ?_;simp only [go_sem,g6];exact .mk (bF (gS true)) (jF (x:=(gS true)) rfl _) (hH0.put n6' _) ⟨by unfold jI; rw [han,da,db]; simp [e12]<;>rfl,rfl⟩
  ·simp only [go_sem]
   refine (htr _).pthen ?_;simp only [go_sem,g6];exact .mk (bF (gS true)) (jF (x:=(gS true)) rfl _) (hH0.put n6' _) ⟨by unfold jI; rw [han,da]; simp [e12]<;>rfl,rfl⟩
 have hn13:op≠13:=by simpa using d13
 have hno:¬((op=12∨op=13)∧(l.any fun x=>isI x (op - 12))=true):=fun hh=>hh.1.elim hn12 hn13
 simp only [go_sem,d1,d2,d12,d13,g3,hb.len,Ug];refine .intro (fun m ρ H=>∃(i:Nat) (z:AV),Acc U 42 H0 H z ((l.take i).map fun x=>aS x.v)∧i≤l.length∧m=l.length - i∧(∀j (h1:j<l.length),j<i→l[j].e=0)∧lk ρ 1=some y∧lk ρ 3=some (.ptr i3 0)∧lk ρ 6=some (.ptr i6 0)∧lk ρ 10=some z∧lk ρ 55=some y∧lk ρ 56=some (.v (.int .i64 l.length))∧lk ρ 57=some (.v (.int .i64 i))) l.length ?_ ?_
 ·refine ⟨0, .sl [] .full, .full (.refl _),by omega,rfl,fun j _ hj=>(by omega), ?_, ?_, ?_, ?_, ?_, ?_, ?_⟩<;>simp only [go_sem]
 ·rintro m ρ H ⟨i,z,hz,hi,rfl,hc,r1,r3,r6,r10,r55,r56,r57⟩
  have hsH:=hH0.trans hz.1;have hbH:=hb.sub hsH;have k3:=hz.1 _ _ g3;have k6:=hz.1 _ _ g6;simp only [go_sem,r56,r57];refine .intro (fun e=> ?_) (fun e=> ?_)
  ·have hlt:i<l.length:=Un e
   have w1:=Um i (by omega)
   have hsn:(l.take (i+1)).map (fun x=>aS x.v)=(l.take i).map (fun x=>aS x.v)++ [aS l[i].v]:=by rw [List.take_succ_eq_append_getElem hlt,List.map_append]; rfl
   simp only [go_sem,r55,r57];refine hbH.idx (e:=298) i rfl (by simpa using hlt) (by simp only [go_sem]) (by decide) fun p hp1=> ?_
   have hld:=hp1.all (U:=U) (ty:=298) (by simp only [go_sem]) (by simp only [go_sem]; rw [Uh]; rfl) (by simp only [go_sem]; rw [Uh]; rfl)
   obtain ⟨x,ex⟩:∃x,l[i]=x:=⟨_,rfl⟩;rw [ex] at hsn;simp only [go_sem,hld,Uh,ex,bF];intro i12 h12;have n126:i12≠i6:=fun e=>by rw [e,k6] at h12; cases h12
   cases dx:(x.e !=0)
   ·have dx' :x.e=0:=by simpa using dx
    simp only [go_sem,r10,dx];refine (hz.sub (.ai h12)).app (zs:= [aS x.v]) (by simp only [go_sem,ne_eq,not_false_eq_true]) (by simp only [go_sem,ne_eq,not_false_eq_true]) (fun k hk=>hk) (by rw [uV]; intro z hz; obtain ⟨w,_,rfl⟩:=List.mem_map.1 hz; rfl) (by rw [uV]; intro z hz; rw [List.mem_singleton.1 hz]; rfl) (by simp only [go_sem,Ug,List.length_take,List.length_cons,List.length_nil]; omega) fun z' H' hz' kp=> ?_
    simp only [go_sem,r57,w1];refine ⟨_, ?_,i+1,z',by rw [hsn]; exact hz',by omega,rfl,fun j h1 hj=> ?_, ?_, ?_, ?_, ?_, ?_, ?_, ?_⟩
    ·omega
    ·by_cases hji:j=i
     ·subst hji; rw [ex]; exact dx'
     ·exact hc j h1 (by omega)
    all_goals simp only [go_sem,r1,r3,r6,r55,r56]
   ·have hfi:l.find? (fun x=>x.e !=0)=some x:=by rw [←ex]; exact List.find?_eq_some_iff_getElem.2 ⟨by rw [ex]; exact dx,i,hlt,rfl,fun j hj=>by rw [hc j (by omega) hj]; rfl⟩
    simp only [go_sem,r6,dx,aj,n126.symm,k6];exact .mk (bF ⟨[],az,x.e⟩) (jF (x:=⟨[],az,x.e⟩) rfl _) ((hsH.trans (.ai h12)).put n6' _) ⟨by rw [rI hp1' hp2' hno hfi]<;>rfl,rfl⟩
  ·have hge:i=l.length:=by have:=Uj e; omega
   subst hge;have hfi:l.find? (fun x=>x.e !=0)=none:=List.find?_eq_none.2 fun x hx=>by
    obtain ⟨j,hj,rfl⟩:=List.mem_iff_getElem.1 hx;rw [hc j hj hj]; decide
   have hnd:=rH (gs:=gs) (val:=val) (attr:=attr) hp1' hp2' hno hfi;rw [List.take_length] at hz;obtain ⟨qz,eqz⟩:=hz.row;subst eqz;have hcl:=fun G=>yl op (l.map (·.v)) (by rw [Ug,hl]; have:=qD op; omega) qz G
   rw [List.map_map] at hcl;have hcl:∀G,ak Tryz.prog 286 [.v (.int .i64 op), .sl (l.map fun x=>aS x.v) qz] G fun r h' =>r=oo (fZ op (l.map (·.v)))∧h' =G:=hcl
   cases d3:(op==3)
   case true=>
    have e3:op=3:=by simpa using d3
    obtain ⟨a,ha⟩:∃a,l= [a]:=List.length_eq_one_iff.1 (by rw [hl,e3]; rfl)
    have hb0:l.map bF= [bF a]:=by rw [ha]; rfl
    simp only [e3,if_true,ha,List.headD_cons] at hnd;simp only [go_sem,r1,r3,k3,d3];refine hbH.idx (e:=298) 0 rfl (by rw [hb0]; simp) (by simp only [go_sem]) (by decide) fun p hp1=> ?_
    (try simp only [go_sem])
    refine hp1.field (f:=0) (off:=0) (t:=121) rfl (by simp only [go_sem]<;>decide) fun p2 hp2=> ?_
    have hld:=hp2.part (U:=U) (ty:=121) (by simp only [go_sem]<;>decide) (by simp only [go_sem,hb0,List.getElem_cons_zero]; exact Uf rfl)
    simp only [hb0,List.getElem_cons_zero,bF,AV.cells] at hld;cases db:((a.bag.length:Int) !=1)
    ·have hb1:(a.bag.length:Int)=1:=by simpa using db
     obtain ⟨v,hv⟩:=List.length_eq_one_iff.1 (show a.bag.length=1 by omega)
     rw [hv] at hnd hld;have iv:=fun K=>fu.eq (xs:= [aS v]) (sz:=3) 0 (by simp) rfl K
     simp only [List.getElem_cons_zero,aS,Int.natCast_zero] at iv;simp only [go_sem,r1,hld,List.map_cons,List.map_nil,aS];refine hbH.idx (e:=298) 0 rfl (by rw [hb0]; simp) (by simp only [go_sem]) (by decide) fun p hp1=> ?_
     (try simp only [go_sem])
     refine hp1.field (f:=0) (off:=0) (t:=121) rfl (by simp only [go_sem]<;>decide) fun p2 hp2=> ?_
     have hld:=hp2.part (U:=U) (ty:=121) (by simp only [go_sem]<;>decide) (by simp only [go_sem,hb0,List.getElem_cons_zero]; exact Uf rfl)
     simp only [hb0,List.getElem_cons_zero,bF,AV.cells,hv,List.map_cons,List.map_nil,aS] at hld;simp only [go_sem,hld,iv,r6,k6];exact .mk (bF ⟨[],v,0⟩) (jF (x:=⟨[],v,0⟩) rfl _) (hsH.put n6' _) ⟨by rw [e3,ha,hnd]<;>rfl,rfl⟩
    ·simp only [go_sem,hld,Ug,db,r6,k6]
     refine .mk (bF ⟨[],az,4⟩) (jF (x:=⟨[],az,4⟩) rfl _) (hsH.put n6' _) ⟨?_,rfl⟩;rw [e3,ha,hnd]
     congr 1
     split
     ·rename_i v hv; rw [hv] at db; simp at db
     ·rfl
   cases d4:(op==4)
   case true=>
    have e4:op=4:=by simpa using d4
    obtain ⟨a,ha⟩:∃a,l= [a]:=List.length_eq_one_iff.1 (by rw [hl,e4]; rfl)
    have hb0:l.map bF= [bF a]:=by rw [ha]; rfl
    simp only [go_sem,r1,r3,k3,d3,d4];refine hbH.idx (e:=298) 0 rfl (by rw [hb0]; simp) (by simp only [go_sem]) (by decide) fun p hp1=> ?_
    (try simp only [go_sem])
    refine hp1.field (f:=0) (off:=0) (t:=121) rfl (by simp only [go_sem]<;>decide) fun p2 hp2=> ?_
    have hld:=hp2.part (U:=U) (ty:=121) (by simp only [go_sem]<;>decide) (by simp only [go_sem,hb0,List.getElem_cons_zero]; exact Uf rfl)
    simp only [hb0,List.getElem_cons_zero,bF,AV.cells] at hld;simp only [go_sem,hld,Ug,r6,k6];exact .mk (bF ⟨[],⟨2,a.bag.length,[]⟩,0⟩) (jF (x:=⟨[],⟨2,a.bag.length,[]⟩,0⟩) rfl _) (hsH.put n6' _) ⟨by rw [hnd,e4,ha]; rfl,rfl⟩
   cases d5:(op==5)
   case true=>
    have e5:op=5:=by simpa using d5
    obtain ⟨a,b,hab⟩:∃a b,l= [a,b]:=tM (by rw [hl,e5]; rfl)
    have hb0:l.map bF= [bF a,bF b]:=by rw [hab]; rfl
    have hvh:=fun G=>Jh a.bag (by have:=hbag a (by rw [hab]; simp); omega) b.v .no G
    simp only [aS] at hvh;have htr:=fun G=>rV (a.bag.any fun v=>eqV v b.v) G
    simp only [bF] at htr;simp only [go_sem,r3,k3,d3,d4,d5];refine .calls h [0,1,2,3,4,5,6,7,8,9,10] hsH (by kernel_rfl) rfl ?_
    simp only [go_sem,r1];refine hb.idx (e:=298) 0 rfl (by rw [hb0]; simp) (by simp only [go_sem]) (by decide) fun p hp1=> ?_
    simp only [go_sem];refine hp1.field (f:=0) (off:=0) (t:=121) rfl (by simp only [go_sem]<;>decide) fun p2 hp2=> ?_
    have hld:=hp2.part (U:=U) (ty:=121) (by simp only [go_sem]<;>decide) (by simp only [go_sem,hb0,List.getElem_cons_zero]; exact Uf rfl)
    simp only [hb0,List.getElem_cons_zero,bF,AV.cells] at hld;simp only [go_sem,hld,r1];refine hb.idx (e:=298) 1 rfl (by rw [hb0]; simp) (by simp only [go_sem]) (by decide) fun p hp3=> ?_
    simp only [go_sem];refine hp3.field (f:=1) (off:=1) (t:=42) rfl (by simp only [go_sem]<;>decide) fun p4 hp4=> ?_
    have hld4:=hp4.part (U:=U) (ty:=42) (by simp only [go_sem]<;>decide) (by simp only [go_sem,hb0,List.getElem_cons_succ,List.getElem_cons_zero]; exact Uf rfl)
    simp only [hb0,List.getElem_cons_succ,List.getElem_cons_zero,bF,AV.cells] at hld4;simp only [go_sem,hld4];refine (hvh _).pthen ?_;refine ⟨hsH, ?_⟩;simp only [go_sem];refine (htr _).pthen ?_;refine ⟨hsH, ?_⟩;simp only [go_sem,r6,k6];refine ⟨hsH.put n6' _, ?_⟩;exact .mk (bF (gS (a.bag.any fun v=>eqV v b.v))) (jF (x:=(gS (a.bag.any fun v=>eqV v b.v))) rfl _) (hsH.put n6' _) ⟨by rw [hnd,e5,hab]; rfl,rfl⟩
   obtain ⟨⟨v,e⟩,ev⟩:∃x,fZ op (l.map (·.v))=x:=⟨_,rfl⟩
   rw [ev] at hcl;simp only [go_sem,r3,r10,k3,d3,d4,d5];refine (hcl _).pthen ?_;simp only [go_sem,oo,aS];intro i13 h13;have n136:i13≠i6:=fun e=>by rw [e,k6] at h13; cases h13
   simp only [go_sem,r6,aj,n136.symm,k6];exact .mk (bF ⟨[],v,e⟩) (jF (x:=⟨[],v,e⟩) rfl _) ((hsH.trans (.ai h13)).put n6' _) ⟨by rw [hnd]; simp only [if_neg (show¬op=3 by simpa using d3),if_neg (show¬op=4 by simpa using d4),if_neg (show¬op=5 by simpa using d5)]; rw [ev]<;>rfl,rfl⟩
end Go.Proofs.YtmlhcdeamjkpjaaGreatDoor
namespace Go.Bf
open Go Go.Ab Go.Proofs.YtmlhcdeamjkpjaaGreatDoor
theorem yP {t:fE} (h:jN t=0):HW t:=by
 obtain ⟨h1,h2⟩:=xO h;refine ⟨by omega,fun x hx=> ?_⟩
 obtain ⟨_,h3,h4⟩:=wQ (h2 x hx);exact ⟨by omega,fun l hl=>by have:=(wP (h4 l hl)).2.1; omega⟩
theorem M6.turn {m:aQ} (h:M6 m):M6 (A5 m):=by
 unfold M6 rG at h;simp only [List.mem_cons,List.not_mem_nil,or_false] at h;rcases h with rfl|rfl|rfl|rfl|rfl|rfl<;>decide
theorem M6.indet {m:aQ} (h:M6 m):M6 (fA m):=by
 unfold M6 rG at h;simp only [List.mem_cons,List.not_mem_nil,or_false] at h;rcases h with rfl|rfl|rfl|rfl|rfl|rfl<;>decide
theorem M6.first {l:List aQ} (h:∀m∈l,M6 m):M6 (firstM l):=by
 unfold firstM;cases hf:l.find? fun m=>decide (m≠naM) with
 |none=>decide
 |some m=>exact h m (List.mem_of_find?_eq_some hf)
theorem M6.only:∀(l:List aQ) (j:aQ),(∀m∈l,M6 m)→M6 j→M6 (lQ l j)
 | [],j,_,hj=>hj
 |m::r,j,h,hj=>by
  simp only [lQ];split
  ·decide
  ·refine M6.only r _ (fun x hx=>h x (List.mem_cons_of_mem _ hx)) ?_
   split
   ·exact h m (List.mem_cons_self ..)
   ·split
    ·decide
    ·exact hj
theorem CN {alg:Int} {l:List aQ} (h:∀m∈l,M6 m):M6 (fF alg l):=by
 unfold fF;split
 ·exact Df _
 ·split
  ·exact M6.turn (Df _)
  ·split
   ·exact .first h
   ·split
    ·exact .only _ _ h (by decide)
    ·split
     ·split<;>decide
     ·split
      ·split<;>decide
      ·decide
theorem wY (r:cH) (t c:Nat):M6 (kU r t c).1:=by
 unfold kU;cases r.deny
 all_goals
  simp only [if_true,Bool.false_eq_true,if_false];split
  ·show M6 naM; decide
  ·split
   ·first|(show M6 (fA aT); decide)|(show M6 (fA bV); decide)
   ·first|(show M6 aT; decide)|(show M6 bV; decide)
theorem IE (alg:Int) (obls:List cr) (t:Nat) {parts:List iI} (h:∀x∈parts,M6 x.1):M6 (mP alg obls t parts).1:=by
 have hc:M6 (fF alg (parts.map (·.1))):=CN fun m hm=>by
  obtain ⟨x,hx,rfl⟩:=List.mem_map.1 hm;exact h x hx
 unfold mP;simp only;split
 ·decide
 ·split
  ·exact hc.indet
  ·split
   ·exact hc
   ·exact hc
mutual
theorem yt (gs:List bf):∀p:bB,M6 (dX gs p).1
 | .mk id set alg tgt rules kids obls=>by
  have ih:=zE gs kids;simp only [dX];split
  ·decide
  ·refine IE alg obls _ fun x hx=> ?_
   rcases List.mem_append.1 hx with hx|hx
   ·obtain ⟨r,_,rfl⟩:=List.mem_map.1 hx
    exact wY _ _ _
   ·exact ih x hx
theorem zE (gs:List bf):∀l:List bB,∀x∈jU gs l,M6 x.1
 | [],x,hx=>by simp [jU] at hx
 |k::r,x,hx=>by
  have h1:=yt gs k;have h2:=zE gs r;simp only [jU,List.mem_cons] at hx;rcases hx with rfl|hx
  ·exact h1
  ·exact h2 x hx
end
theorem FD {gs:List bf} (h:Jl gs):oL gs:=⟨by have:=h.len; omega,fun g hg=>by have:=(h.each g hg).2.2.2.1; omega⟩
theorem CW {α:Type} (B:Nat):∀(L:List (List α)),(∀x∈L,x.length≤B)→L.flatten.length≤L.length*B
 | [],_=>by simp
 |x::L,h=>by
  have h1:=h x (List.mem_cons_self ..);have h2:=CW B L fun y hy=>h y (List.mem_cons_of_mem _ hy)
  rw [List.flatten_cons,Uk,List.length_cons,Nat.add_mul];omega
theorem qJ {alg:Int} {m:aQ} {parts:List iI} {B:Nat} (hp:∀x∈parts,x.2.length≤B) (hn:parts.length≤32):(dR alg m parts).length≤32*B+B:=by
 unfold dR;split
 ·cases hf:parts.find? fun x=>x.1==m with
  |none=>simp
  |some x=>have:=hp x (List.mem_of_find?_eq_some hf); simp only [Option.map_some,Option.getD_some]; omega
 ·have h1:=CW B (((parts.filter fun x=>x.1==m).map (·.2))) fun x hx=>by
   obtain ⟨y,hy,rfl⟩:=List.mem_map.1 hx;exact hp y (List.mem_filter.1 hy).1
  have h2:((parts.filter fun x=>x.1==m).map (·.2)).length≤32:=by
   rw [Ug];exact Nat.le_trans (List.length_filter_le _ _) hn
  have:=Nat.mul_le_mul_right B h2;omega
theorem ju (l:List cr) (m:aQ):(dP l m).length≤l.length:=List.length_filter_le _ _
theorem wX (r:cH) (t c:Nat):(kU r t c).2.length≤r.obls.length:=by
 unfold kU;cases r.deny
 all_goals
  simp only [if_true,Bool.false_eq_true,if_false];split
  ·simp
  ·split
   ·simp
   ·exact ju _ _
def oB:Nat→Nat
 |0=>8
 |n+1=>8+33*oB n
theorem NT (n:Nat):8≤oB n:=by
 cases n with
 |zero=>decide
 |succ n=>simp only [oB]; omega
theorem yq (gs:List bf):∀(n d:Nat) (p:bB),d+n=5→kE d p→(dX gs p).2.length≤oB n
 |0,d, .mk id set alg tgt rules kids obls,hd,h=>by simp only [kE] at h; omega
 |n+1,d, .mk id set alg tgt rules kids obls,hd,h=>by
  simp only [kE,nN] at h;obtain ⟨_,_,_,_,_,_,g2,g3,g4,g5,g6,g7⟩:=h;have hob:=(jk g3).1;have h8:=NT n;simp only [dX];split
  ·simp
  ·unfold mP
   simp only;split
   ·simp
   ·split
    ·simp
    ·split
     ·simp
     ·have h1:=qJ (alg:=alg) (m:=fF alg ((rules.map (gp gs)++jU gs kids).map (·.1))) (parts:=rules.map (gp gs)++jU gs kids) (B:=oB n) (fun x hx=>by
       rcases List.mem_append.1 hx with hx|hx
       ·obtain ⟨r,hr,rfl⟩:=List.mem_map.1 hx
        have:=wX r (kD gs r.tgt) (nj gs r.cond);have:=(jk (g6 r hr).2.2.2).1
        show (kU r (kD gs r.tgt) (nj gs r.cond)).2.length≤_
        omega
       ·rw [qk] at hx
        obtain ⟨k,hk,rfl⟩:=List.mem_map.1 hx;exact yq gs n (d+1) k (by omega) (g7 k hk)) (by rw [Uk,Ug,qk,Ug]; omega)
      have h2:=ju obls (fF alg ((rules.map (gp gs)++jU gs kids).map (·.1)))
      simp only [Uk,oB];omega
theorem FW (gs:List bf) {p:bB} (h:kE 1 p):(dX gs p).2.length≤10000000:=Nat.le_trans (yq gs 4 1 p rfl h) (by decide)
theorem Fa {op:Int} {w:List Bool} (hw:gC op=some w):w.length=opsOf op∧1≤op∧op≤13:=by
 have h1:1≤op∧op≤13:=by
  unfold gC at hw
  repeat' split at hw
  all_goals first|(cases hw; done)|omega
 refine ⟨?_,h1⟩;rcases (show op=1∨op=2∨op=3∨op=4∨op=5∨op=6∨op=7∨op=8∨op=9∨op=10∨op=11∨op=12∨op=13 by omega) with rfl|rfl|rfl|rfl|rfl|rfl|rfl|rfl|rfl|rfl|rfl|rfl|rfl
 all_goals (simp [gC] at hw; subst hw; rfl)
theorem EX {bs bs' :List Bool} {n:aL} (h:gA bs n=some bs'):(1≤n.op∧n.op≤13)∧opsOf n.op≤bs.length∧bs'.length=bs.length - opsOf n.op+1:=by
 unfold gA at h;cases hw:gC n.op with
 |none=>rw [hw] at h; cases h
 |some w=>
  rw [hw] at h;obtain ⟨h1,h2⟩:=Fa hw;simp only at h;split at h
  ·rename_i hc
   cases h;refine ⟨h2,by rw [←h1]; exact hc.2.1, ?_⟩
   rw [Uk,List.length_take,List.length_singleton,←h1];omega
  ·cases h
theorem I7 {l:List aL} {z bs:List Bool} {i:Nat} (hl:eV [] l=some z) (hi:i<l.length) (hb:eV [] (l.take i)=some bs):∃bs',gA bs l[i]=some bs'∧eV [] (l.take (i+1))=some bs' :=by
 have h1:=iW [] l i;rw [hl,hb,List.drop_eq_getElem_cons hi] at h1;simp only [eV] at h1;cases hs:gA bs l[i] with
 |none=>rw [hs] at h1; cases h1
 |some bs' =>
  refine ⟨bs',rfl, ?_⟩;rw [iW [] _ i,List.take_take,Nat.min_eq_left (by omega),hb,List.take_succ_eq_append_getElem hi,List.drop_append_of_le_length (by simp; omega),List.drop_of_length_le (by simp; omega)]
  simp only [List.nil_append,eV,hs]
theorem Gy {gs:List bf} (hf:oL gs) (n:aL) (l:List iD):(jI gs n l).bag.length≤1000000:=by
 unfold jI wH gS
 repeat' split
 all_goals first|exact hf.bag _|simp
def NM (x:iD):AV:= .tup [aS x.v, .v (.int .i64 x.e)]
end Go.Bf
namespace Go.Proofs.YtmlhcdeamjkpjaaGreatDoor
open Go Go.Ab Go.Bf
set_option maxRecDepth 100000 in
theorem FX (l:List aL) (hn:l≠ []) (he:iZ l=0) (gs:List bf) (hf:oL gs) (h:Heap):ak Tryz.prog 233 [eE l,bw gs] h fun r h' =>r=NM (sJ gs l)∧h' =h:=by
 obtain ⟨h32,hst⟩:=uw he hn;have hex:=fun G=>CT l G
 rw [he] at hex;simp only [eE] at hex;have dl:((l.length:Int)==0)=false:=by have:=List.length_pos_iff.2 hn; simp; omega
 refine ak.body hU hm Tryz.func233 rfl (by kernel_rfl) 51 rfl [.cell 4 42, .tmp 5] rfl (Uf rfl) (fun hwf=> ?_)
 simp only [go_sem,eE,bw];intro i4 h4;simp only [go_sem,Ug,dl];refine (hex _).pthen ?_;simp only [go_sem,Ug];obtain ⟨H0,eH⟩:∃H0,upd h i4 (some (.obj [.v (.int .i64 0), .v (.int .i64 0), .s []] 42))=H0:=⟨_,rfl⟩;have hH0:Ab.Sub h H0:=by rw [←eH]; exact .ai h4
 have g4:H0 i4=some (.obj [.v (.int .i64 0), .v (.int .i64 0), .s []] 42):=by rw [←eH,ah]
 rw [eH];clear eH;refine .intro (fun m ρ H=>∃(i:Nat) (y:AV) (st:List iD) (bs:List Bool),OwE 298 H0 H 5 y (st.map bF)∧Ab.Sub H0 H∧(l.take i).foldl (vJ gs) []=st∧eV [] (l.take i)=some bs∧bs.length=st.length∧(∀x∈st,x.bag.length≤1000000)∧i≤l.length∧m=l.length - i∧lk ρ 1=some (.sl (gs.map jh) .no)∧lk ρ 4=some (.ptr i4 0)∧lk ρ 6=some y∧lk ρ 19=some (.sl (l.map cP) .no)∧lk ρ 20=some (.v (.int .i64 l.length))∧lk ρ 21=some (.v (.int .i64 i))) l.length ?_ ?_
 ·refine ⟨0,_,[],[], .inl ⟨rfl,rfl⟩, .refl _,rfl,rfl,rfl,fun x hx=>(by cases hx),by omega,rfl, ?_, ?_, ?_, ?_, ?_, ?_⟩<;>simp only [go_sem]
 ·rintro m ρ H ⟨i,y,st,bs,hw,hsH,hfo,hbs,hlen,hbag,hi,rfl,r1,r4,r6,r19,r20,r21⟩
  have hsl:bs.length≤i:=by have:=o6 _ _ _ hbs; simpa [Nat.min_eq_left hi] using this
  simp only [go_sem,r20,r21];refine .intro (fun e=> ?_) (fun e=> ?_)
  ·have hlt:i<l.length:=Un e
   have w1:=Um i (by omega)
   obtain ⟨bs',hb1,hb2⟩:=I7 hst hlt hbs;have hfs:(l.take (i+1)).foldl (vJ gs) []=vJ gs st l[i]:=by rw [List.take_succ_eq_append_getElem hlt,List.foldl_append,hfo]; rfl
   have ix:=fun k=>fu.eq (xs:=l.map cP) (sz:=7) i (by simpa using hlt) (by rw [Uh]; rfl) k
   rw [Uh] at ix;obtain ⟨n,en⟩:∃n,l[i]=n:=⟨_,rfl⟩;rw [en] at hb1 hfs ix;obtain ⟨hop,hle,hln⟩:=EX hb1;rw [hlen] at hle;obtain ⟨k,ek⟩:∃k,st.length - opsOf n.op=k:=⟨_,rfl⟩;have wk:IntKind.i64.wrap ((st.length:Int) - (opsOf n.op:Int))=(k:Int):=by rw [bz _ (by omega)]; omega
   have hstep:vJ gs st n=st.take k++ [jI gs n (st.drop k)]:=by unfold vJ; rw [ek]
   simp only [cP] at ix;simp only [go_sem,r19,r21,ix];intro i8 h8;obtain ⟨H8,eH⟩:∃H8,upd H i8 (some (.obj [.v (.int .i64 n.op), .v (.int .i64 n.val.kind), .v (.int .i64 n.val.n), .s n.val.s, .v (.int .i64 n.attr.cat), .s n.attr.name, .v (.bool n.attr.must)] 186))=H8:=⟨_,rfl⟩;have hs8:Ab.Sub H H8:=by rw [←eH]; exact .ai h8
   have k8:H8 i8=some (.obj [.v (.int .i64 n.op), .v (.int .i64 n.val.kind), .v (.int .i64 n.val.n), .s n.val.s, .v (.int .i64 n.attr.cat), .s n.attr.name, .v (.bool n.attr.must)] 186):=by rw [←eH,ah]
   have hw8:=hw.sub hs8;simp only [go_sem,r6,hw8.rd.len,Ug];refine (BE n.op _).pthen ?_;rw [eH];clear eH;simp only [go_sem,wk];refine .calls (hm1 i8 (.obj [.v (.int .i64 n.op), .v (.int .i64 n.val.kind), .v (.int .i64 n.val.n), .s n.val.s, .v (.int .i64 n.attr.cat), .s n.attr.name, .v (.bool n.attr.must)] 186)) [0,1,2,3,4,5,6,7,8,9,10,11] (.hm1 k8) (by kernel_rfl) rfl ?_
   simp only [go_sem,r6];refine hw8.cut (U:=U) (x:= .i64) k (by simp only [go_sem]) rfl (by rw [Ug]; omega) (by simp only [go_sem]) (by decide) fun z hz hzy=> ?_
   simp only [go_sem,r6,fz];refine hw8.from (U:=U) (x:= .i64) k (by simp only [go_sem]) rfl (by rw [Ug]; omega) (by simp only [go_sem]) (by decide) fun z2 hz2=> ?_
   rw [←List.map_drop] at hz2;rw [←List.map_take] at hz;have hnd:=IV n hop (st.drop k) hz2 (by rw [List.length_drop]; omega) (fun x hx=>hbag x (List.mem_of_mem_drop hx)) gs hf
   have hnb:=Gy hf n (st.drop k);obtain ⟨x,ex⟩:∃x,jI gs n (st.drop k)=x:=⟨_,rfl⟩;rw [ex] at hnd hnb hstep;simp only [cP,bw,bF] at hnd;simp only [go_sem,r1];refine hnd.pthen ?_;refine ⟨.hm1 k8, ?_⟩;simp only [go_sem];have hone:Rd H8 5 (.sl [bF x] .full) [bF x]:= .sl (fun z hz=>by rw [List.mem_singleton.1 hz]; rfl) .full
   simp only [bF] at hone;refine OwE.app (U:=U) (tb:=298) hz (hsH.trans hs8) hone (by simp only [go_sem]) (by decide) (by simp only [go_sem,ne_eq,not_false_eq_true]) (by simp only [go_sem]) (by simp) (by simp only [go_sem,Ug,List.length_take,List.length_cons,List.length_nil]; omega) fun id y' H' hid hor how hoth=> ?_
   have n8:i8≠id:=by
    intro e8;rcases hor with ho|⟨lz,cz,ez⟩
    ·rw [←e8,k8] at ho; cases ho
    ·exact jV (hz.nid (id:=id) (by rw [ez]; rfl)).2.2 k8 (by decide) e8.symm
   have hsub' :Ab.Sub H0 H' :=fun j b hj=>by rw [hoth j (fun e=>by rw [e,hid] at hj; cases hj)]; exact (hsH.trans hs8) _ _ hj
   refine ⟨.hm1 (by rw [hoth i8 n8]; exact k8), ?_⟩
   simp only [go_sem,r21,w1];refine ⟨_, ?_,i+1,y',vJ gs st n,bs', .inr ⟨id,hid,by rw [hstep,List.map_append]; exact how⟩,hsub',hfs,hb2,by rw [hln,hlen,hstep]; simp; omega,fun w hw=> ?_,by omega,rfl, ?_, ?_, ?_, ?_, ?_, ?_⟩
   ·omega
   ·rw [hstep] at hw
    rcases List.mem_append.1 hw with hw|hw
    ·exact hbag w (List.mem_of_mem_take hw)
    ·rw [List.mem_singleton.1 hw]; exact hnb
   all_goals simp only [go_sem,r1,r4,r19,r20]
  ·have hge:i=l.length:=by have:=Uj e; omega
   subst hge;rw [List.take_length] at hbs hfo;rw [hst] at hbs;cases hbs;obtain ⟨x,rfl⟩:=List.length_eq_one_iff.1 hlen.symm;have hit:sJ gs l=x:=by unfold sJ; rw [if_neg hn,hfo]; rfl
   obtain ⟨id,hid,how⟩:=hw.ow (by simp)
   have hwp:Rd (pick H [id]) 5 y [bF x]:=(how.same (bu (List.mem_singleton.2 rfl))).rd;have n4:i4≠id:=fun e=>by rw [e,hid] at g4; cases g4
   have k4:=hsH _ _ g4;simp only [go_sem];refine .calls (pick H [id]) [0,1,2,3,4,5,6,7,8,9] bJ (by kernel_rfl) rfl ?_
   simp only [go_sem,r6];refine hwp.idx (U:=U) (e:=298) 0 rfl (by simp) (by simp only [go_sem]) (by decide) fun p hp1=> ?_
   simp only [go_sem];refine hp1.field (f:=1) (off:=1) (t:=42) rfl (by simp only [go_sem]<;>decide) fun p2 hp2=> ?_
   have hld:=hp2.part (U:=U) (ty:=42) (by simp only [go_sem]<;>decide) (by simp only [go_sem,List.getElem_cons_zero]; exact Uf rfl)
   simp only [List.getElem_cons_zero,bF,AV.cells] at hld;simp only [go_sem,r6,hld];refine hwp.idx (U:=U) (e:=298) 0 rfl (by simp) (by simp only [go_sem]) (by decide) fun p3 hp3=> ?_
   simp only [go_sem];refine hp3.field (f:=2) (off:=4) (t:=46) rfl (by simp only [go_sem]<;>decide) fun p4 hp4=> ?_
   have hld4:=hp4.part (U:=U) (ty:=46) (by simp only [go_sem]<;>decide) (by simp only [go_sem,List.getElem_cons_zero]; exact Uf rfl)
   simp only [List.getElem_cons_zero,bF,AV.cells] at hld4;simp only [go_sem,r4,hld4,k4];refine ⟨bJ.put (by simp [pick,n4]) _, ?_⟩
   exact .mk _ (.refl _) ((hH0.trans hsH).put h4 _) ⟨by rw [hit]; rfl,rfl⟩
theorem Ir (l:List aL) (he:iZ l=0) (gs:List bf) (hf:oL gs) (h:Heap):ak Tryz.prog 190 [eE l,bw gs] h fun r h' =>r= .v (.int .i64 (nj gs l:Nat))∧h' =h:=by
 by_cases hn:l= []
 ·subst hn
  refine ak.body hU hm Tryz.func190 rfl (by kernel_rfl) 26 rfl [.tmp 4] rfl (Uf rfl) (fun hwf=> ?_)
  simp only [go_sem,eE,bw,List.map_nil,List.length_nil];exact .same (.refl _) ⟨rfl,rfl⟩
 have hv:=fun G=>FX l hn he gs hf G
 have hcd:nj gs l=if isI (sJ gs l) 1 then 2 else if isI (sJ gs l) 0 then 0 else 1:=by
  unfold nj;rw [if_neg (by simpa using hn)]
 obtain ⟨x,ex⟩:∃x,sJ gs l=x:=⟨_,rfl⟩;rw [ex] at hv hcd;simp only [eE,bw,NM,aS] at hv;have hi1:∀(m:Int) G,ak Tryz.prog 234 [.agg [.sl [] .full, .v (.int .i64 x.v.kind), .v (.int .i64 x.v.n), .s x.v.s, .v (.int .i64 x.e)], .v (.int .i64 m)] G fun r h' =>r= .v (.bool (isI x m))∧h' =G:=fun m G=>IC x m G
 have dl:((l.length:Int)==0)=false:=by have:=List.length_pos_iff.2 hn; simp; omega
 refine ak.body hU hm Tryz.func190 rfl (by kernel_rfl) 26 rfl [.tmp 4] rfl (Uf rfl) (fun hwf=> ?_)
 simp only [go_sem,eE,bw,Ug,dl];refine (hv _).pthen ?_;simp only [go_sem];intro i5 h5;simp only [go_sem];intro i7 h7;have n75:=aH h7;have n7:=aE h7;have hs:∀x y,Ab.Sub h (upd (upd h i5 x) i7 y):=fun x y=>((Sub.refl h).put h5 x).put n7 y
 simp only [go_sem];refine (hi1 1 _).pthen ?_;cases d1:isI x 1
 case true=>
  rw [d1] at hcd;simp only [go_sem];exact .mk _ (.refl _) (hs _ _) ⟨by rw [hcd]; rfl,rfl⟩
 simp only [go_sem];refine (hi1 0 _).pthen ?_;cases d0:isI x 0
 all_goals
  rw [d1,d0] at hcd;simp only [go_sem];exact .mk _ (.refl _) (hs _ _) ⟨by rw [hcd]; rfl,rfl⟩
end Go.Proofs.YtmlhcdeamjkpjaaGreatDoor
namespace Go.Bf
open Go Go.Ab Go.Proofs.YtmlhcdeamjkpjaaGreatDoor
def iP (l:List aQ) (p:Perm):AV:= .sl (l.map aO) p
theorem M9.na:M9 naM:=by decide
theorem yE (l:List aQ) (i:Nat) (h:i<l.length):(l.take (i+1)).foldl lK naM=lK ((l.take i).foldl lK naM) l[i]:=by
 rw [List.take_succ_eq_append_getElem h,List.foldl_append]; rfl
theorem D2 {l:List aQ} {q:aQ→Bool} (hq:∀m,q m=decide (m≠naM)) (h:l.findIdx q<l.length):firstM l=l[l.findIdx q]:=by
 unfold firstM;have e:q=fun m=>decide (m≠naM):=funext hq
 subst e;rw [show l.find? (fun m=>decide (m≠naM))=some l[l.findIdx fun m=>decide (m≠naM)] from List.find?_eq_some_iff_getElem.2 ⟨List.findIdx_getElem (w:=h),_,h,rfl,fun j hj=>by simpa using List.not_of_lt_findIdx hj⟩]
 rfl
theorem D3 {l:List aQ} {q:aQ→Bool} (hq:∀m,q m=decide (m≠naM)) (h:¬l.findIdx q<l.length):firstM l=naM:=by
 unfold firstM;have e:q=fun m=>decide (m≠naM):=funext hq
 subst e;have e:l.findIdx (fun m=>decide (m≠naM))=l.length:=by
  have:l.findIdx (fun m=>decide (m≠naM))≤l.length:=List.findIdx_le_length
  omega
 rw [List.find?_eq_none.2 fun x hx=>by simpa using List.findIdx_eq_length.1 e x hx]
 rfl
def sZ (j m:aQ):aQ:=if j=naM then m else if m≠naM then mb else j
theorem GF {l:List aQ} {i:Nat} (h:i<l.length) (j:aQ):lQ (l.drop i) j=if vK l[i]=false then mb else lQ (l.drop (i+1)) (sZ j l[i]):=by
 rw [List.drop_eq_getElem_cons h]; rfl
end Go.Bf
namespace Go.Proofs.YtmlhcdeamjkpjaaGreatDoor
open Go Go.Ab Go.Bf
theorem N8:(U 74).sz=1:=by simp only [go_sem]
theorem Eo (ms:List aQ) (hl:ms.length≤1000000000) (q:aQ→Bool) (g:FuncId) (cap:List AV) (p:Perm) (h:Heap) (hp:∀m∈ms,ak Tryz.prog g (aO m::cap) h fun r h' =>r= .v (.bool (q m))∧h' =h):
  ak Tryz.prog 265 [iP ms p, .fn g cap] h fun r h' =>r= .v (.int .i64 (ixD q ms))∧h' =h:=by
 refine ak.body hU hm Tryz.func265 rfl (by kernel_rfl) 19 rfl [.tmp 4] rfl (Uf rfl) (fun hwf=> ?_)
 simp only [go_sem,iP,Ug];refine .intro (fun m ρ h' =>h' =h∧∃i:Nat,i≤ms.length∧m=ms.length - i∧(∀j (hj:j<i) (h2:j<ms.length),q ms[j]=false)∧lk ρ 0=some (.sl (ms.map aO) p)∧lk ρ 1=some (.fn g cap)∧lk ρ 7=some (.v (.int .i64 ms.length))∧lk ρ 8=some (.v (.int .i64 i))) ms.length ?_ ?_
 ·refine ⟨rfl,0,by omega,rfl,fun j hj=>(by omega), ?_, ?_, ?_, ?_⟩<;>simp only [go_sem]
 ·rintro m ρ h' ⟨rfl,i,hi,rfl,hc,r0,r1,r7,r8⟩
  simp only [go_sem,r7,r8];refine .intro (fun e=> ?_) (fun e=> ?_)
  ·have hlt:i<ms.length:=Un e
   have w1:=Um i (by omega)
   have ix:=fun k=>fu.eq (xs:=ms.map aO) (sz:=1) i (by simpa using hlt) (by rw [Uh]; rfl) k
   rw [Uh] at ix;have hg:=hp ms[i] (Ul hlt);have hci:=fun (d:q ms[i]=false)=>(fun j (hj:j<i+1) (h2:j<ms.length)=>(by
    by_cases hji:j=i
    ·subst hji; exact d
    ·exact hc j (by omega) h2:q ms[j]=false))
   have hat:=fun (d:q ms[i]=true)=>lD hlt d fun j hj=>hc j hj (by omega)
   obtain ⟨m,em⟩:∃m,ms[i]=m:=⟨_,rfl⟩;rw [em] at ix hg hci hat;simp only [aO] at ix;simp only [go_sem,r0,r1,r8,ix];refine (show ak Tryz.prog g (.v (.complex .f64 (hbit m.1) (hbit m.2))::cap) _ _ from hg).pthen ?_
   cases d1:q m
   ·simp only [go_sem,r8,w1]
    refine ⟨_, ?_,rfl,i+1,by omega,rfl,hci d1, ?_, ?_, ?_, ?_⟩
    ·omega
    all_goals simp only [go_sem,r0,r1,r7]
   ·simp only [go_sem]
    exact .same (.refl _) ⟨by rw [hat d1]; rfl,rfl⟩
  ·have hge:i=ms.length:=by have:=Uj e; omega
   simp only [go_sem];exact .same (.refl _) ⟨by rw [gX fun j hj=>hc j (by omega) hj]; rfl,rfl⟩
theorem BW (ms:List aQ) (hl:ms.length≤1000000000) (hmm:∀m∈ms,M9 m) (x:aQ) (hx:M9 x) (p:Perm) (h:Heap):
  ak Tryz.prog 287 [iP ms p,aO x] h fun r h' =>r= .v (.int .i64 (ixD (fun y=>x==y) ms))∧h' =h:=by
 refine ak.body hU hm Tryz.func287 rfl (by kernel_rfl) 19 rfl [.tmp 4] rfl (Uf rfl) (fun hwf=> ?_)
 simp only [go_sem,iP,Ug];refine .intro (fun m ρ h' =>h' =h∧∃i:Nat,i≤ms.length∧m=ms.length - i∧(∀j (hj:j<i) (h2:j<ms.length),(x==ms[j])=false)∧lk ρ 0=some (.sl (ms.map aO) p)∧lk ρ 1=some (aO x)∧lk ρ 7=some (.v (.int .i64 ms.length))∧lk ρ 8=some (.v (.int .i64 i))) ms.length ?_ ?_
 ·refine ⟨rfl,0,by omega,rfl,fun j hj=>(by omega), ?_, ?_, ?_, ?_⟩<;>simp only [go_sem]
 ·rintro m ρ h' ⟨rfl,i,hi,rfl,hc,r0,r1,r7,r8⟩
  simp only [go_sem,r7,r8];refine .intro (fun e=> ?_) (fun e=> ?_)
  ·have hlt:i<ms.length:=Un e
   have w1:=Um i (by omega)
   have ix:=fun k=>fu.eq (xs:=ms.map aO) (sz:=1) i (by simpa using hlt) (by rw [Uh]; rfl) k
   rw [Uh] at ix;have hm9:=hmm ms[i] (Ul hlt);have hci:=fun (d:(x==ms[i])=false)=>(fun j (hj:j<i+1) (h2:j<ms.length)=>(by
    by_cases hji:j=i
    ·subst hji; exact d
    ·exact hc j (by omega) h2:(x==ms[j])=false))
   have hat:=fun (d:(x==ms[i])=true)=>lD (q:=fun y=>x==y) hlt d fun j hj=>hc j hj (by omega)
   obtain ⟨m,em⟩:∃m,ms[i]=m:=⟨_,rfl⟩;rw [em] at ix hm9 hci hat;simp only [aO] at ix r1;have ne:=ve hx hm9;cases d1:(x==m)
   ·simp only [go_sem,r0,r1,r8,ix,ne,d1,w1]
    refine ⟨_, ?_,rfl,i+1,by omega,rfl,hci d1, ?_, ?_, ?_, ?_⟩
    ·omega
    all_goals simp only [go_sem,r0,r1,r7,aO]
   ·simp only [go_sem,r0,r1,r8,ix,ne,d1]
    exact .same (.refl _) ⟨by rw [hat d1]; rfl,rfl⟩
  ·have hge:i=ms.length:=by have:=Uj e; omega
   simp only [go_sem];exact .same (.refl _) ⟨by rw [gX fun j hj=>hc j (by omega) hj]; rfl,rfl⟩
theorem BR (ms:List aQ) (hl:ms.length≤1000000000) (hmm:∀m∈ms,M9 m) (x:aQ) (hx:M9 x) (p:Perm) (h:Heap):
  ak Tryz.prog 269 [iP ms p,aO x] h fun r h' =>r= .v (.bool (decide (x∈ms)))∧h' =h:=by
 refine ak.body hU hm Tryz.func269 rfl (by kernel_rfl) 9 rfl [.tmp 4] rfl (Uf rfl) (fun hwf=> ?_)
 simp only [go_sem];refine (BW ms hl hmm x hx p _).pthen ?_;simp only [go_sem];exact .same (.refl _) ⟨by rw [ri,show (ms.any fun y=>x==y)=decide (x∈ms) by rw [Bool.eq_iff_iff]; simp]; rfl,rfl⟩
theorem Bk (m:aQ) (hmm:M9 m) (h:Heap):ak Tryz.prog 266 [aO m] h fun r h' =>r= .v (.bool (!(m==naM)))∧h' =h:=by
 have n:=(nb hmm).nna;refine ak.body hU hm Tryz.func266 rfl (by kernel_rfl) 5 rfl [.tmp 2] rfl (Uf rfl) (fun hwf=> ?_)
 simp only [go_sem,aO,n];exact .same (.refl _) ⟨rfl,rfl⟩
theorem I9 (m:aQ) (hmm:M9 m) (h:Heap):ak Tryz.prog 267 [aO m] h fun r h' =>r= .v (.bool (vK m))∧h' =h:=by
 obtain ⟨n1,n2,n3,_⟩:=nb hmm;refine ak.body hU hm Tryz.func267 rfl (by kernel_rfl) 13 rfl [.tmp 2] rfl (Uf rfl) (fun hwf=> ?_)
 have es:vK m=(m==naM||(m==aT||m==bV)):=by
  unfold vK;rw [Bool.eq_iff_iff];simp
 rw [es];cases d1:(m==naM)<;>cases d2:(m==aT)<;>cases d3:(m==bV)
 all_goals
  simp only [go_sem,aO,n1,n2,n3,d1,d2,d3];exact .same (.refl _) ⟨rfl,rfl⟩
theorem F1 (ms:List aQ) (hl:ms.length≤1000000000) (hmm:∀m∈ms,M9 m) (p:Perm) (h:Heap):ak Tryz.prog 239 [iP ms p] h fun r h' =>r=aO (firstM ms)∧h' =h:=by
 refine ak.body hU hm Tryz.func239 rfl (by kernel_rfl) 12 rfl [.tmp 2] rfl (Uf rfl) (fun hwf=> ?_)
 simp only [go_sem,iP];refine (Eo ms hl (fun m=> !(m==naM)) _ [] p _ fun m h=>Bk m (hmm m h) _).pthen ?_
 have hq:∀m:aQ,(!(m==naM))=decide (m≠naM):=fun m=>by by_cases e:m=naM<;>simp [e]
 by_cases hx:ms.findIdx (fun m=> !(m==naM))<ms.length
 ·obtain ⟨i,ei⟩:∃i,ms.findIdx (fun m=> !(m==naM))=i:=⟨_,rfl⟩
  have ef:=D2 hq hx;have e1:ixD (fun m=> !(m==naM)) ms=(i:Nat):=by rw [ixD,ei]; exact if_pos (by rw [←ei]; exact hx)
  have hlt:i<ms.length:=by rw [←ei]; exact hx
  simp only [ei] at ef;have d1:decide ((0:Int)≤((i:Nat):Int))=true:=decide_eq_true (by omega)
  have ix:=fun k=>fu.eq (xs:=ms.map aO) (sz:=1) i (by simpa using hlt) (by rw [Uh]; rfl) k
  rw [Uh,←ef] at ix;simp only [aO] at ix;rw [e1];simp only [go_sem,d1,ix];exact .same (.refl _) ⟨rfl,rfl⟩
 ·have e1:ixD (fun m=> !(m==naM)) ms= -1:=by rw [ixD]; exact if_neg hx
  have d1:decide ((0:Int)≤ -1)=false:=rfl;rw [e1];simp only [go_sem,d1];exact .same (.refl _) ⟨by rw [D3 hq hx]; rfl,rfl⟩
theorem Hs (j m:aQ) (hj:M9 j) (hmm:M9 m) (h:Heap):ak Tryz.prog 268 [.v (.int .i64 4),aO j,aO m] h fun r h' =>r=aO (sZ j m)∧h' =h:=by
 have n1:=(nb hj).na;have n2:=(nb hmm).nna;refine ak.body hU hm Tryz.func268 rfl (by kernel_rfl) 31 rfl [.tmp 6] rfl (Uf rfl) (fun hwf=> ?_)
 cases d1:(j==naM)
 case true=>
  simp only [go_sem,aO,n1,d1];exact .same (.refl _) ⟨by rw [sZ,if_pos (by simpa using d1)]; rfl,rfl⟩
 cases d2:(m==naM)
 ·simp only [go_sem,aO,n1,n2,d1,d2]
  exact .same (.refl _) ⟨by rw [sZ,if_neg (by simpa using d1),if_pos (by simpa using d2)]; rfl,rfl⟩
 ·simp only [go_sem,aO,n1,n2,d1,d2]
  exact .same (.refl _) ⟨by rw [sZ,if_neg (by simpa using d1),if_neg (by simpa using d2)]; rfl,rfl⟩
theorem M9.step {j m:aQ} (hj:M9 j) (hmm:M9 m):M9 (sZ j m):=by
 unfold sZ
 repeat' split
 ·exact hmm
 ·decide
 ·exact hj
theorem IZ (ms:List aQ) (hl:ms.length≤1000000000) (hmm:∀m∈ms,M9 m) (p:Perm) (h:Heap):ak Tryz.prog 240 [iP ms p] h fun r h' =>r=aO (lQ ms naM)∧h' =h:=by
 refine ak.body hU hm Tryz.func240 rfl (by kernel_rfl) 20 rfl [.tmp 2] rfl (Uf rfl) (fun hwf=> ?_)
 simp only [go_sem,iP,Ug];refine .intro (fun m ρ h' =>h' =h∧∃(i:Nat) (j:aQ),i≤ms.length∧m=ms.length - i∧M9 j∧lQ (ms.drop i) j=lQ ms naM∧lk ρ 3=some (aO j)∧lk ρ 6=some (.sl (ms.map aO) p)∧lk ρ 7=some (.v (.int .i64 ms.length))∧lk ρ 8=some (.v (.int .i64 i))) ms.length ?_ ?_
 ·refine ⟨rfl,0,naM,by omega,rfl, .na,rfl, ?_, ?_, ?_, ?_⟩<;>simp only [go_sem,aO,naM,hbit]
 ·rintro m ρ h' ⟨rfl,i,j,hi,rfl,hj,ho,r3,r6,r7,r8⟩
  simp only [go_sem,r7,r8];refine .intro (fun e=> ?_) (fun e=> ?_)
  ·have hlt:i<ms.length:=Un e
   have w1:=Um i (by omega)
   have ix:=fun k=>fu.eq (xs:=ms.map aO) (sz:=1) i (by simpa using hlt) (by rw [Uh]; rfl) k
   rw [Uh] at ix;have hm9:=hmm ms[i] (Ul hlt);rw [GF hlt] at ho;obtain ⟨m,em⟩:∃m,ms[i]=m:=⟨_,rfl⟩;rw [em] at ix hm9 ho;have hsu:=fun G=>I9 m hm9 G
   have hst:=fun G=>Hs j m hj hm9 G
   simp only [aO] at ix hsu hst r3;simp only [go_sem,r6,r8,ix];refine (hsu _).pthen ?_;cases d1:vK m
   ·rw [if_pos d1] at ho
    simp only [go_sem];exact .same (.refl _) ⟨by rw [←ho]; rfl,rfl⟩
   ·rw [if_neg (by rw [d1]; decide)] at ho
    simp only [go_sem,r3];refine (hst _).pthen ?_;simp only [go_sem,r8,w1];refine ⟨_, ?_,rfl,i+1,sZ j m,by omega,rfl,M9.step hj hm9,ho, ?_, ?_, ?_, ?_⟩
    ·omega
    all_goals simp only [go_sem,r6,r7,aO]
  ·have hge:i=ms.length:=by have:=Uj e; omega
   subst hge;rw [List.drop_length] at ho;simp only [go_sem,r3];exact .same (.refl _) ⟨by rw [←ho]; rfl,rfl⟩
theorem xR (ms:List aQ) (hl:ms.length≤1000000000) (hmm:∀m∈ms,M9 m) (a b:aQ) (hb:M9 b) (p:Perm) (h:Heap):ak Tryz.prog 241 [iP ms p,aO a,aO b] h fun r h' =>r=aO (if b∈ms then b else a)∧h' =h:=by
 refine ak.body hU hm Tryz.func241 rfl (by kernel_rfl) 12 rfl [.tmp 6] rfl (Uf rfl) (fun hwf=> ?_)
 simp only [go_sem];refine (BR ms hl hmm b hb p _).pthen ?_
 by_cases d:b∈ms
 ·simp only [go_sem,decide_eq_true d,if_pos d]
  exact .same (.refl _) ⟨rfl,rfl⟩
 ·simp only [go_sem,decide_eq_false d,if_neg d]
  exact .same (.refl _) ⟨rfl,rfl⟩
theorem Kr (alg:Int) (ha:1≤alg∧alg≤6) (ms:List aQ) (hl:ms.length≤1000000000) (hmm:∀m∈ms,M6 m) (p:Perm) (h:Heap):ak Tryz.prog 191 [.v (.int .i64 alg),iP ms p] h fun r h' =>r= .tup [aO (fF alg ms), .v (.int .i64 0)]∧h' =h:=by
 have hm9:=fun m h=>(hmm m h).m9
 refine ak.body hU hm Tryz.func191 rfl (by kernel_rfl) 49 rfl [.tmp 4, .tmp 5] rfl (Uf rfl) (fun hwf=> ?_)
 simp only [go_sem,iP,Ug];refine .intro (fun m ρ h' =>h' =h∧∃i:Nat,i≤ms.length∧m=ms.length - i∧M9 ((ms.take i).foldl lK naM)∧lk ρ 0=some (.v (.int .i64 alg))∧lk ρ 1=some (.sl (ms.map aO) p)∧lk ρ 6=some (aO ((ms.take i).foldl lK naM))∧lk ρ 9=some (.sl (ms.map aO) p)∧lk ρ 10=some (.v (.int .i64 ms.length))∧lk ρ 11=some (.v (.int .i64 i))) ms.length ?_ ?_
 ·refine ⟨rfl,0,by omega,rfl, .na, ?_, ?_, ?_, ?_, ?_, ?_⟩<;>simp only [go_sem,aO,naM,hbit,List.take_zero,List.foldl_nil]
 ·rintro m ρ h' ⟨rfl,i,hi,rfl,hj,r0,r1,r6,r9,r10,r11⟩
  obtain ⟨j,ej⟩:∃j,(ms.take i).foldl lK naM=j:=⟨_,rfl⟩;rw [ej] at hj r6;simp only [go_sem,r10,r11];refine .intro (fun e=> ?_) (fun e=> ?_)
  ·have hlt:i<ms.length:=Un e
   have w1:=Um i (by omega)
   have ix:=fun k=>fu.eq (xs:=ms.map aO) (sz:=1) i (by simpa using hlt) (by rw [Uh]; rfl) k
   rw [Uh] at ix;have hm6:=hmm ms[i] (Ul hlt);have hsn:=yE ms i hlt;rw [ej] at hsn;obtain ⟨m,em⟩:∃m,ms[i]=m:=⟨_,rfl⟩;rw [em] at ix hm6 hsn;have hri:=fun G=>yH m hm6 G
   have hjo:=fun G=>IG j m hj hm6.m9 G
   simp only [aO] at ix hri hjo r6;simp only [go_sem,r9,r11,ix];refine (hri _).pthen ?_;simp only [go_sem,r6];refine (hjo _).pthen ?_;simp only [go_sem,r11,w1];refine ⟨_, ?_,rfl,i+1,by omega,rfl,by rw [hsn]; exact M9.join hj hm6.m9, ?_, ?_, ?_, ?_, ?_, ?_⟩
   ·omega
   all_goals simp only [go_sem,r0,r1,r9,r10,aO,hsn]
  ·have hge:i=ms.length:=by have:=Uj e; omega
   subst hge;rw [List.take_length] at ej;have ej' :tL ms=j:=ej;have hov:=fun G=>Dg j hj G
   have htu:=fun (x:aQ) (G:Heap)=>Jc x G
   have hov2:=fun G=>Dg (A5 j) ⟨hj.2,hj.1⟩ G
   have h1:=F1 ms hl hm9 p;have h2:=IZ ms hl hm9 p;have h3:=xR ms hl hm9 bV aT (by decide) p
   have h4:=xR ms hl hm9 aT bV (by decide) p
   simp only [iP] at h1 h2 h3 h4;rcases (show alg=1∨alg=2∨alg=3∨alg=4∨alg=5∨alg=6 by omega) with rfl|rfl|rfl|rfl|rfl|rfl
   ·simp only [go_sem,r0,r6]
    refine (hov _).pthen ?_;simp only [go_sem];exact .same (.refl _) ⟨by simp only [fF,ej',if_true]; rfl,rfl⟩
   ·simp only [go_sem,r0,r6]
    refine (htu _ _).pthen ?_;simp only [go_sem];refine (hov2 _).pthen ?_;simp only [go_sem];refine (htu _ _).pthen ?_;simp only [go_sem];exact .same (.refl _) ⟨by simp only [fF,ej']; rfl,rfl⟩
   ·simp only [go_sem,r0,r1]
    refine (h1 _).pthen ?_;simp only [go_sem];exact .same (.refl _) ⟨rfl,rfl⟩
   ·simp only [go_sem,r0,r1]
    refine (h2 _).pthen ?_;simp only [go_sem];exact .same (.refl _) ⟨rfl,rfl⟩
   ·simp only [go_sem,r0,r1]
    refine (h3 _).pthen ?_;simp only [go_sem];exact .same (.refl _) ⟨by simp [fF,au],rfl⟩
   ·simp only [go_sem,r0,r1]
    refine (h4 _).pthen ?_;simp only [go_sem];exact .same (.refl _) ⟨by simp [fF,au],rfl⟩
end Go.Proofs.YtmlhcdeamjkpjaaGreatDoor
namespace Go.Bf
open Go Go.Ab Go.Proofs.YtmlhcdeamjkpjaaGreatDoor
theorem qo {α:Type} (f:α→Nat):∀(l:List α) (a:Nat),l.foldl (fun a x=>min a (f x)) a≤a∧∀x∈l,l.foldl (fun a x=>min a (f x)) a≤f x
 | [],a=>⟨Nat.le_refl _,fun x h=>by cases h⟩
 |y::l,a=>by
  obtain ⟨h1,h2⟩:=qo f l (min a (f y));rw [List.foldl_cons];refine ⟨by omega,fun x hx=> ?_⟩
  rcases List.mem_cons.1 hx with rfl|hx
  ·omega
  ·exact h2 x hx
theorem IK {gs:List bf}:∀ {t:fE} {m:bH},lM t=some m→ig gs m=0→kD gs t=0:=by
 intro t;have main:∀(t:fE) (m:bH),lM t=some m→ig gs m=0→∃x∈t,vW gs x=0:=by
  intro t
  induction t with
  |nil=>intro m h; cases h
  |cons x r ih=>
   intro m h h0
   match x,h with
   | [],h=>obtain ⟨y,hy,e⟩:=ih m h h0; exact ⟨y,List.mem_cons_of_mem _ hy,e⟩
   | [l],h=>
    simp only [lM] at h;cases hf:l.find? fun m=>m.op==1 && !m.attr.must with
    |none=>rw [hf] at h; obtain ⟨y,hy,e⟩:=ih m h h0; exact ⟨y,List.mem_cons_of_mem _ hy,e⟩
    |some k=>
     rw [hf] at h;cases h;have hm:=List.mem_of_find?_eq_some hf;have hall:zb gs l=0:=by
      have:=(qo (ig gs) l 2).2 _ hm;rw [h0] at this;exact Nat.le_zero.1 this
     exact ⟨[l],List.mem_cons_self ..,by simp [vW,hall]⟩
   |a::b::c,h=>obtain ⟨y,hy,e⟩:=ih m h h0; exact ⟨y,List.mem_cons_of_mem _ hy,e⟩
 intro m h h0;obtain ⟨x,hx,e⟩:=main t m h h0;have:=(qo (vW gs) t 2).2 x hx;rw [e] at this;exact Nat.le_zero.1 this
theorem IW {gs:List bf} {p:bB} (h:pJ gs p=false):dX gs p=(naM,[]):=by
 obtain ⟨id,set,alg,tgt,rules,kids,obls⟩:=p;unfold pJ at h;simp only [pM] at h;cases hk:lM tgt with
 |none=>rw [hk] at h; cases h
 |some m=>
  rw [hk] at h;have h0:ig gs m=0:=by simpa using h
  simp only [dX,IK hk h0,if_true]
theorem IF (j:aQ):lK j naM=j:=by simp [lK,naM]
inductive Drop:List iI→List iI→Prop
 |nil:Drop [] []
 |keep (x:iI) {a b:List iI} (h:Drop a b):Drop (x::a) (x::b)
 |skip {a b:List iI} (h:Drop a b):Drop a ((naM,[])::b)
theorem Drop.app {a b c:List iI} (h:Drop a b):Drop (c++a) (c++b):=by
 induction c with
 |nil=>exact h
 |cons x c ih=>exact .keep x ih
theorem Drop.join {a b:List iI} (h:Drop a b):∀j,(a.map (·.1)).foldl lK j=(b.map (·.1)).foldl lK j:=by
 induction h with
 |nil=>intro j; rfl
 |keep x h ih=>intro j; exact ih _
 |skip h ih=>intro j; simp only [List.map_cons,List.foldl_cons,IF]; exact ih j
theorem Drop.first {a b:List iI} (h:Drop a b):firstM (a.map (·.1))=firstM (b.map (·.1)):=by
 unfold firstM
 congr 1
 induction h with
 |nil=>rfl
 |keep x h ih=>simp only [List.map_cons,List.find?_cons,ih]
 |skip h ih=>simpa using ih
theorem Drop.only {a b:List iI} (h:Drop a b):∀j,lQ (a.map (·.1)) j=lQ (b.map (·.1)) j:=by
 induction h with
 |nil=>intro j; rfl
 |keep x h ih=>intro j; simp only [List.map_cons,lQ,ih]
 |skip h ih=>
  intro j;have hs:vK naM=true:=by decide
  simp only [List.map_cons,lQ,hs,Bool.true_eq_false,if_false];rw [←ih]
  congr 1
  by_cases hj:j=naM<;>simp [hj]
theorem Drop.mem {a b:List iI} (h:Drop a b) {m:aQ} (hm:m≠naM):m∈a.map (·.1)↔m∈b.map (·.1):=by
 induction h with
 |nil=>rfl
 |keep x h ih=>simp only [List.map_cons,List.mem_cons,ih]
 |skip h ih=>rw [ih]; simp only [List.map_cons,List.mem_cons]; exact ⟨.inr,fun h=>h.resolve_left hm⟩
theorem Drop.comb {a b:List iI} (h:Drop a b) (alg:Int):fF alg (a.map (·.1))=fF alg (b.map (·.1)):=by
 unfold fF tL;rw [h.join,h.first,h.only];simp only [h.mem (show aT≠naM by decide),h.mem (show bV≠naM by decide)]
theorem Drop.parts {a b:List iI} (h:Drop a b) (alg:Int) {m:aQ} (hm:m≠naM):dR alg m a=dR alg m b:=by
 have e:(naM==m)=false:=by simpa using fun e:naM=m=>hm e.symm
 have h1:(a.find? fun x=>x.1==m)=b.find? fun x=>x.1==m:=by
  induction h with
  |nil=>rfl
  |keep x h ih=>simp only [List.find?_cons,ih]
  |skip h ih=>simp only [List.find?_cons,e,ih]
 have h2:(a.filter fun x=>x.1==m)=b.filter fun x=>x.1==m:=by
  clear h1
  induction h with
  |nil=>rfl
  |keep x h ih=>simp only [List.filter_cons,ih]
  |skip h ih=>simp only [List.filter_cons,e,Bool.false_eq_true,if_false,ih]
 simp only [dR,h1,h2]
theorem Drop.mP {a b:List iI} (h:Drop a b) (alg:Int) (obls:List cr) (t:Nat):mP alg obls t a=mP alg obls t b:=by
 unfold Go.Bf.mP;simp only [h.comb alg]
 by_cases hp:fF alg (b.map (·.1))=aT
 ·rw [hp,h.parts alg (by decide)]
 ·by_cases hd:fF alg (b.map (·.1))=bV
  ·rw [hd,h.parts alg (by decide)]
  ·simp only [ne_eq,hp,hd,not_false_eq_true,and_self,if_true]
mutual
theorem xz (gs:List bf):∀p:bB,dX gs (iS gs p)=dX gs p
 | .mk id set alg tgt rules kids obls=>by
  simp only [iS,dX]
  by_cases h:kD gs tgt=0
  ·simp only [h,if_true]
  ·simp only [h,if_false]
   exact (xA gs kids).app.mP alg obls _
theorem xA (gs:List bf):∀l:List bB,Drop (jU gs (iR gs l)) (jU gs l)
 | []=>by simp only [iR,jU]; exact .nil
 |k::r=>by
  have ih1:=xz gs k;have ih2:=xA gs r;simp only [iR,jU]
  by_cases h:pJ gs k=true
  ·simp only [h,if_true,jU,ih1]
   exact .keep _ ih2
  ·have h:pJ gs k=false:=by simpa using h
   simp only [h,Bool.false_eq_true,if_false,IW h];exact .skip ih2
end
def rsA (r:iI):AV:= .agg [aO r.1,ax r.2]
theorem DS (l:List cr) (m:aQ) (i:Nat) (h:i<l.length):dP (l.take (i+1)) m=dP (l.take i) m++(if (l[i].on==1 && m==aT||l[i].on==2 && m==bV)=true then [l[i]] else []):=by
 unfold dP;rw [List.take_succ_eq_append_getElem h,List.filter_append,List.filter_cons];rfl
theorem oc (l:List cr) (m:aQ) {L:List AV} (hL:L=l.map bk) (q:Perm):Weak (.agg [aO m, .sl L q]) (rsA (m,l)):=by
 subst hL;refine .agg _ _ rfl fun i a b=> ?_
 rcases i with _|_|i
 ·exact .refl _
 ·exact .sl _ _
 ·simp at a; omega
theorem vn (alg:Int) (m:aQ) (l:List iI) (i:Nat) (h:i<l.length) (h3:alg≠3):dR alg m (l.take (i+1))=dR alg m (l.take i)++(if (l[i].1==m)=true then l[i].2 else []):=by
 unfold dR;rw [if_neg h3,if_neg h3,List.take_succ_eq_append_getElem h,List.filter_append,List.map_append,List.flatten_append]
 congr 1
 rw [List.filter_cons];split<;>simp
theorem vm {m:aQ} {l:List iI} (h:∀x∈l,(x.1==m)=false):dR 3 m l= []:=by
 unfold dR;rw [if_pos rfl,List.find?_eq_none.2 fun x hx=>by rw [h x hx]; decide]
 rfl
theorem sS {m:aQ} {l:List iI} (i:Nat) (h:i<l.length) (h1:(l[i].1==m)=true) (h2:∀j (hj:j<i),((l[j]'(by omega)).1==m)=false):dR 3 m l=l[i].2:=by
 unfold dR;rw [if_pos rfl,show (l.find? fun x=>x.1==m)=some l[i] from List.find?_eq_some_iff_getElem.2 ⟨h1,i,h,rfl,fun j hj=>by rw [h2 j hj]; rfl⟩]
 rfl
end Go.Bf
namespace Go.Proofs.YtmlhcdeamjkpjaaGreatDoor
open Go Go.Ab Go.Bf
theorem N9:(U 90).sz=3:=by simp only [go_sem]
theorem Oa:(U 85).sz=2:=by simp only [go_sem]
set_option maxRecDepth 100000 in
theorem oC (l:List cr) (hl:l.length≤1000000) (m:aQ) (hpd:m=aT∨m=bV) (h:Heap):ak Tryz.prog 193 [ax l,aO m] h fun r h' =>r=ax (dP l m)∧h' =h:=by
 have h9:M9 m:=by rcases hpd with rfl|rfl<;>decide
 have pe:=(nb h9).pe;have de:=(nb h9).de;have uO:=N9;obtain ⟨b,b1,b2⟩:∃b,(m==aT)=b∧(m==bV)= !b:=by
  rcases hpd with rfl|rfl
  ·exact ⟨true,by decide,by decide⟩
  ·exact ⟨false,by decide,by decide⟩
 refine ak.body hU hm Tryz.func193 rfl (by kernel_rfl) 36 rfl [.tmp 4] rfl (Uf rfl) (fun hwf=> ?_)
 simp only [go_sem,ax,aO,Ug];refine .intro (fun q ρ H=>∃(i:Nat) (y:AV),Acc U 90 h H y ((dP (l.take i) m).map bk)∧i≤l.length∧q=l.length - i∧lk ρ 1=some (.v (.complex .f64 (hbit m.1) (hbit m.2)))∧lk ρ 5=some y∧lk ρ 8=some (.sl (l.map bk) .no)∧lk ρ 9=some (.v (.int .i64 l.length))∧lk ρ 10=some (.v (.int .i64 i))) l.length ?_ ?_
 ·refine ⟨0, .sl [] .full,by simpa [dP] using Acc.full (.refl _),by omega,rfl, ?_, ?_, ?_, ?_, ?_⟩<;>simp only [go_sem]
 ·rintro q ρ H ⟨i,y,hy,hi,rfl,r1,r5,r8,r9,r10⟩
  obtain ⟨qy,eqy⟩:=hy.row;subst eqy;simp only [go_sem,r9,r10];refine .intro (fun e=> ?_) (fun e=> ?_)
  ·have hlt:i<l.length:=Un e
   have w1:=Um i (by omega)
   have hsn:=DS l m i hlt;have ix:=fun k=>fu.eq (xs:=l.map bk) (sz:=3) i (by simpa using hlt) (by rw [Uh]; rfl) k
   rw [Uh] at ix;obtain ⟨o,eo⟩:∃o,l[i]=o:=⟨_,rfl⟩;rw [eo] at ix hsn;simp only [bk] at ix;simp only [go_sem,r8,r10,ix];intro i7 h7;cases b
   ·cases a3:(o.on==2)
    ·cases a1:(o.on==1)
     ·simp only [go_sem,r10,a1,a3,w1]
      refine ⟨_, ?_,i+1,_,by rw [hsn,if_neg (by rw [a1,a3,b1,b2]; decide),List.append_nil]; exact hy.sub (.ai h7),by omega,rfl, ?_, ?_, ?_, ?_, ?_⟩
      ·omega
      all_goals simp only [go_sem,r1,r5,r8,r9]
     ·simp only [go_sem,r1,r10,a1,a3,b1,pe,w1]
      refine ⟨_, ?_,i+1,_,by rw [hsn,if_neg (by rw [a1,a3,b1,b2]; decide),List.append_nil]; exact hy.sub (.ai h7),by omega,rfl, ?_, ?_, ?_, ?_, ?_⟩
      ·omega
      all_goals simp only [go_sem,r1,r5,r8,r9]
    ·cases a1:(o.on==1)
     ·simp only [go_sem,r1,r5,a1,a3,b2,de]
      refine (hy.sub (.ai h7)).app (zs:= [bk o]) (by rw [uO]; decide) (by simp only [go_sem,ne_eq,not_false_eq_true]) (fun k hk=>hk) (by rw [uO]; exact bh (f:=bk) (fun _=>rfl) _) (by rw [uO]; intro z hz; rw [List.mem_singleton.1 hz]; rfl) (by simp only [go_sem,Ug,List.length_cons,List.length_nil]; have:=ju (l.take i) m; rw [List.length_take] at this; omega) fun y' H' hy' kp=> ?_
      simp only [go_sem,r10,w1];refine ⟨_, ?_,i+1,y',by rw [hsn,if_pos (by rw [a1,a3,b1,b2]; decide),List.map_append]; exact hy',by omega,rfl, ?_, ?_, ?_, ?_, ?_⟩
      ·omega
      all_goals simp only [go_sem,r1,r8,r9]
     ·simp only [go_sem,r1,r5,a1,a3,b1,b2,pe,de]
      refine (hy.sub (.ai h7)).app (zs:= [bk o]) (by rw [uO]; decide) (by simp only [go_sem,ne_eq,not_false_eq_true]) (fun k hk=>hk) (by rw [uO]; exact bh (f:=bk) (fun _=>rfl) _) (by rw [uO]; intro z hz; rw [List.mem_singleton.1 hz]; rfl) (by simp only [go_sem,Ug,List.length_cons,List.length_nil]; have:=ju (l.take i) m; rw [List.length_take] at this; omega) fun y' H' hy' kp=> ?_
      simp only [go_sem,r10,w1];refine ⟨_, ?_,i+1,y',by rw [hsn,if_pos (by rw [a1,a3,b1,b2]; decide),List.map_append]; exact hy',by omega,rfl, ?_, ?_, ?_, ?_, ?_⟩
      ·omega
      all_goals simp only [go_sem,r1,r8,r9]
   ·cases a1:(o.on==1)
    ·cases a3:(o.on==2)
     ·simp only [go_sem,r10,a1,a3,w1]
      refine ⟨_, ?_,i+1,_,by rw [hsn,if_neg (by rw [a1,a3,b1,b2]; decide),List.append_nil]; exact hy.sub (.ai h7),by omega,rfl, ?_, ?_, ?_, ?_, ?_⟩
      ·omega
      all_goals simp only [go_sem,r1,r5,r8,r9]
     ·simp only [go_sem,r1,r10,a1,a3,b2,de,w1]
      refine ⟨_, ?_,i+1,_,by rw [hsn,if_neg (by rw [a1,a3,b1,b2]; decide),List.append_nil]; exact hy.sub (.ai h7),by omega,rfl, ?_, ?_, ?_, ?_, ?_⟩
      ·omega
      all_goals simp only [go_sem,r1,r5,r8,r9]
    ·cases a3:(o.on==2)
     ·simp only [go_sem,r1,r5,a1,b1,pe]
      refine (hy.sub (.ai h7)).app (zs:= [bk o]) (by rw [uO]; decide) (by simp only [go_sem,ne_eq,not_false_eq_true]) (fun k hk=>hk) (by rw [uO]; exact bh (f:=bk) (fun _=>rfl) _) (by rw [uO]; intro z hz; rw [List.mem_singleton.1 hz]; rfl) (by simp only [go_sem,Ug,List.length_cons,List.length_nil]; have:=ju (l.take i) m; rw [List.length_take] at this; omega) fun y' H' hy' kp=> ?_
      simp only [go_sem,r10,w1];refine ⟨_, ?_,i+1,y',by rw [hsn,if_pos (by rw [a1,a3,b1,b2]; decide),List.map_append]; exact hy',by omega,rfl, ?_, ?_, ?_, ?_, ?_⟩
      ·omega
      all_goals simp only [go_sem,r1,r8,r9]
     ·simp only [go_sem,r1,r5,a1,b1,pe]
      refine (hy.sub (.ai h7)).app (zs:= [bk o]) (by rw [uO]; decide) (by simp only [go_sem,ne_eq,not_false_eq_true]) (fun k hk=>hk) (by rw [uO]; exact bh (f:=bk) (fun _=>rfl) _) (by rw [uO]; intro z hz; rw [List.mem_singleton.1 hz]; rfl) (by simp only [go_sem,Ug,List.length_cons,List.length_nil]; have:=ju (l.take i) m; rw [List.length_take] at this; omega) fun y' H' hy' kp=> ?_
      simp only [go_sem,r10,w1];refine ⟨_, ?_,i+1,y',by rw [hsn,if_pos (by rw [a1,a3,b1,b2]; decide),List.map_append]; exact hy',by omega,rfl, ?_, ?_, ?_, ?_, ?_⟩
      ·omega
      all_goals simp only [go_sem,r1,r8,r9]
  ·have hge:i=l.length:=by have:=Uj e; omega
   subst hge;rw [List.take_length] at hy;simp only [go_sem,r5];exact .mk (ax (dP l m)) (by rw [List.take_length]; exact .sl _ _) hy.1 ⟨rfl,rfl⟩
theorem tri {t:Nat} (h:t≤2):t=0∨t=1∨t=2:=by omega
set_option maxRecDepth 100000 in
theorem DT (r:cH) (hr:r.obls.length≤1000000) (t c:Nat) (ht:t≤2) (hc:c≤2) (h:Heap):ak Tryz.prog 189 [aA r, .v (.int .i64 t), .v (.int .i64 c)] h fun x h' =>x=rsA (kU r t c)∧h' =h:=by
 obtain ⟨id,deny,tgt,cond,obls⟩:=r;simp only at hr;have hdp:=fun G=>oC obls hr aT (.inl rfl) G
 have hdd:=fun G=>oC obls hr bV (.inr rfl) G
 have hip:=fun G=>uL aT (by decide) G
 have hid:=fun G=>uL bV (by decide) G
 simp only [aO,aT,bV,hbit,ax] at hdp hdd hip hid;refine ak.body hU hm Tryz.func189 rfl (by kernel_rfl) 38 rfl [.cell 6 85] rfl (Uf rfl) (fun hwf=> ?_)
 simp only [go_sem,aA];intro i3 h3;simp only [go_sem];intro i6 h6;have n63:=aH h6;have n6:=aE h6;have hs:∀x y,Ab.Sub h (upd (upd h i3 x) i6 y):=fun x y=>((Sub.refl h).put h3 x).put n6 y
 have hs2:∀x y z,Ab.Sub h (upd (upd (upd h i3 x) i6 y) i6 z):=fun x y z=>(hs x y).put n6 z
 cases deny
 ·rcases tri ht with rfl|rfl|rfl
  ·simp only [go_sem,aj,n63.symm]
   exact .mk (rsA (naM,[])) (oc [] naM rfl _) (hs _ _) ⟨rfl,rfl⟩
  ·simp only [go_sem,aj,n63.symm]
   refine (hip _).pthen ?_;simp only [go_sem];exact .mk (rsA (fA aT,[])) (oc [] (fA aT) rfl _) (hs _ _) ⟨rfl,rfl⟩
  ·rcases tri hc with rfl|rfl|rfl
   ·simp only [go_sem,aj,n63.symm]
    exact .mk (rsA (naM,[])) (oc [] naM rfl _) (hs _ _) ⟨rfl,rfl⟩
   ·simp only [go_sem,aj,n63.symm]
    refine (hip _).pthen ?_;simp only [go_sem];exact .mk (rsA (fA aT,[])) (oc [] (fA aT) rfl _) (hs _ _) ⟨rfl,rfl⟩
   ·simp only [go_sem,aj,n63.symm,ax]
    refine (hdp _).pthen ?_;simp only [go_sem];exact .mk (rsA (aT,dP obls aT)) (oc _ aT rfl _) (hs _ _) ⟨rfl,rfl⟩
 ·rcases tri ht with rfl|rfl|rfl
  ·simp only [go_sem,aj,n63.symm]
   exact .mk (rsA (naM,[])) (oc [] naM rfl _) (hs _ _) ⟨rfl,rfl⟩
  ·simp only [go_sem,aj,n63.symm]
   refine (hid _).pthen ?_;simp only [go_sem];exact .mk (rsA (fA bV,[])) (oc [] (fA bV) rfl _) (hs _ _) ⟨rfl,rfl⟩
  ·rcases tri hc with rfl|rfl|rfl
   ·simp only [go_sem,aj,n63.symm]
    exact .mk (rsA (naM,[])) (oc [] naM rfl _) (hs _ _) ⟨rfl,rfl⟩
   ·simp only [go_sem,aj,n63.symm]
    refine (hid _).pthen ?_;simp only [go_sem];exact .mk (rsA (fA bV,[])) (oc [] (fA bV) rfl _) (hs _ _) ⟨rfl,rfl⟩
   ·simp only [go_sem,aj,n63.symm,ax]
    refine (hdd _).pthen ?_;simp only [go_sem];exact .mk (rsA (bV,dP obls bV)) (oc _ bV rfl _) (hs _ _) ⟨rfl,rfl⟩
theorem Gv (gs:List bf) (t:fE):kD gs t≤2:=(qo (vW gs) t 2).1
theorem FL (gs:List bf) (l:List aL):nj gs l≤2:=by
 unfold nj
 repeat' split
 all_goals omega
set_option maxRecDepth 100000 in
theorem DU (r:cH) (hr:AR r) (gs:List bf) (hf:oL gs) (h:Heap):ak Tryz.prog 142 [aA r,bw gs] h fun x h' =>x=rsA (gp gs r)∧h' =h:=by
 have hob:=(jk hr.2.2.2).1;have hmt:=fun G=>Gw r.tgt (yP hr.2.1) gs hf G
 have hcd:=fun G=>Ir r.cond hr.2.2.1 gs hf G
 have hef:=fun G=>DT r (by omega) (kD gs r.tgt) (nj gs r.cond) (Gv _ _) (FL _ _) G
 simp only [aA,bw] at hmt hcd hef;refine ak.body hU hm Tryz.func142 rfl (by kernel_rfl) 15 rfl [.cell 4 85] rfl (Uf rfl) (fun hwf=> ?_)
 simp only [go_sem,aA,bw];intro i2 h2;simp only [go_sem];intro i4 h4;have n42:=aH h4;have n4:=aE h4;obtain ⟨H,eH⟩:∃H,upd (upd h i2 (some (.obj [.s r.id, .v (.bool r.deny),aR r.tgt,eE r.cond,ax r.obls] 181))) i4 (some (.obj [.v (.complex .f64 0 0), .sl [] .full] 85))=H:=⟨_,rfl⟩;have hH:Ab.Sub h H:=by rw [←eH]; exact ((Sub.refl h).put h2 _).put n4 _
 have g2:H i2=some (.obj [.s r.id, .v (.bool r.deny),aR r.tgt,eE r.cond,ax r.obls] 181):=by rw [←eH,ag _ _ n42.symm,ah]
 have g4:H i4=some (.obj [.v (.complex .f64 0 0), .sl [] .full] 85):=by rw [←eH,ah]
 simp only [go_sem];rw [eH];clear eH;refine .calls (hm1 i2 (.obj [.s r.id, .v (.bool r.deny),aR r.tgt,eE r.cond,ax r.obls] 181)) [0,1,2,3,5,6,7,4,8,9,10] (.hm1 g2) (by kernel_rfl) rfl ?_
 simp only [go_sem,fz];refine (hmt _).pthen ?_;refine ⟨.hm1 g2, ?_⟩;simp only [go_sem];refine (hcd _).pthen ?_;refine ⟨.hm1 g2, ?_⟩;simp only [go_sem];refine (hef _).pthen ?_;refine ⟨.hm1 g2, ?_⟩;simp only [go_sem,rsA,ax,aO,g4];refine ⟨.hm1 (by rw [ag _ _ n42.symm]; exact g2), ?_⟩
 exact .mk _ (.refl _) (hH.put n4 _) ⟨rfl,rfl⟩
theorem xI (l:List iI):Sized 2 (l.map rsA):=bh (f:=rsA) (fun _=>rfl) l
set_option maxRecDepth 100000 in
theorem BY {id:Txt} {set:Bool} {alg:Int} (ha:1≤alg∧alg≤6) {tgt:fE} {rules:List cH} {kids:List bB} {obls:List cr} (ho:obls.length≤1000000) (t:Nat) (ht:t=1∨t=2) (parts:List iI) (hp:∀x∈parts,M6 x.1) (hn:parts.length≤32) {B:Nat} (hB:B≤10000000) (hpb:∀x∈parts,x.2.length≤B) (q:Perm) (h:Heap):
  ak Tryz.prog 143 [aJ (.mk id set alg tgt rules kids obls), .v (.int .i64 t), .sl (parts.map rsA) q] h fun r h' =>r=rsA (mP alg obls t parts)∧h' =h:=by
 have hm6:∀m∈parts.map (·.1),M6 m:=fun m hm=>by
  obtain ⟨x,hx,rfl⟩:=List.mem_map.1 hm;exact hp x hx
 have hc6:M6 (fF alg (parts.map (·.1))):=CN hm6
 have uR:=Oa;have uO:=N9;have uM:=N8;have hall:=fun (p:Perm) (G:Heap)=>Kr alg ha (parts.map (·.1)) (by rw [Ug]; omega) hm6 p G
 simp only [iP] at hall;refine ak.body hU hm Tryz.func143 rfl (by kernel_rfl) 84 rfl [.cell 6 85] rfl (Uf rfl) (fun hwf=> ?_)
 simp only [go_sem,aJ];intro i3 h3;simp only [go_sem];intro i6 h6;have n63:=aH h6;have n6' :=aE h6;obtain ⟨H0,eH⟩:∃H0,upd (upd h i3 (some (.obj [.s id, .v (.bool set), .v (.int .i64 alg),aR tgt, .sl (rules.map aA) .no, .sl (eS kids) .no,ax obls] 34))) i6 (some (.obj [.v (.complex .f64 0 0), .sl [] .full] 85))=H0:=⟨_,rfl⟩;have hH0:Ab.Sub h H0:=by rw [←eH]; exact ((Sub.refl h).put h3 _).put n6' _
 have g3:H0 i3=some (.obj [.s id, .v (.bool set), .v (.int .i64 alg),aR tgt, .sl (rules.map aA) .no, .sl (eS kids) .no,ax obls] 34):=by rw [←eH,ag _ _ n63.symm,ah]
 have g6:H0 i6=some (.obj [.v (.complex .f64 0 0), .sl [] .full] 85):=by rw [←eH,ah]
 simp only [go_sem,Ug];rw [eH];clear eH;refine .intro (fun m ρ H=>∃(i:Nat) (y:AV),Acc U 74 H0 H y (((parts.map (·.1)).take i).map aO)∧i≤parts.length∧m=parts.length - i∧lk ρ 1=some (.v (.int .i64 t))∧lk ρ 2=some (.sl (parts.map rsA) q)∧lk ρ 3=some (.ptr i3 0)∧lk ρ 6=some (.ptr i6 0)∧lk ρ 7=some y∧lk ρ 15=some (.sl (parts.map rsA) q)∧lk ρ 16=some (.v (.int .i64 parts.length))∧lk ρ 17=some (.v (.int .i64 i))) parts.length ?_ ?_
 ·refine ⟨0, .sl [] .full, .full (.refl _),by omega,rfl, ?_, ?_, ?_, ?_, ?_, ?_, ?_, ?_⟩<;>simp only [go_sem]
 ·rintro m ρ H ⟨i,y,hy,hi,rfl,r1,r2,r3,r6,r7,r15,r16,r17⟩
  obtain ⟨qy,eqy⟩:=hy.row;subst eqy;simp only [go_sem,r16,r17];refine .intro (fun e=> ?_) (fun e=> ?_)
  ·have hlt:i<parts.length:=Un e
   have w1:=Um i (by omega)
   have hsn:((parts.map (·.1)).take (i+1)).map aO=((parts.map (·.1)).take i).map aO++ [aO parts[i].1]:=by
    rw [List.take_succ_eq_append_getElem (by simpa using hlt),List.map_append,Uh]; rfl
   have ix:=fun k=>fu.eq (xs:=parts.map rsA) (sz:=2) i (by simpa using hlt) (by rw [Uh]; rfl) k
   rw [Uh] at ix;obtain ⟨x,ex⟩:∃x,parts[i]=x:=⟨_,rfl⟩;rw [ex] at ix hsn;simp only [rsA,aO,ax] at ix;simp only [go_sem,r15,r17,ix];intro i9 h9;simp only [go_sem,r7];refine (hy.sub (.ai h9)).app (zs:= [aO x.1]) (by rw [uM]; decide) (by simp only [go_sem,ne_eq,not_false_eq_true]) (fun k hk=>hk) (by rw [uM]; exact bh (f:=aO) (fun _=>rfl) _) (by rw [uM]; intro z hz; rw [List.mem_singleton.1 hz]; rfl) (by simp only [go_sem,Ug,List.length_take,List.length_cons,List.length_nil]; omega) fun y' H' hy' kp=> ?_
   simp only [go_sem,r17,w1];refine ⟨_, ?_,i+1,y',by rw [hsn]; exact hy',by omega,rfl, ?_, ?_, ?_, ?_, ?_, ?_, ?_, ?_⟩
   ·omega
   all_goals simp only [go_sem,r1,r2,r3,r6,r15,r16]
  ·have hge:i=parts.length:=by have:=Uj e; omega
   subst hge;have htl:(parts.map (·.1)).take parts.length=parts.map (·.1):=List.take_of_length_le (by simp)
   rw [htl] at hy;have k3:=hy.1 _ _ g3;have k6:=hy.1 _ _ g6;have hsH:=hH0.trans hy.1;have hjp:mP alg obls t parts=if t=0 then (naM,[]) else if t=1 then (fA (fF alg (parts.map (·.1))),[]) else if fF alg (parts.map (·.1))≠aT∧fF alg (parts.map (·.1))≠bV then (fF alg (parts.map (·.1)),[])
     else (fF alg (parts.map (·.1)),dR alg (fF alg (parts.map (·.1))) parts++dP obls (fF alg (parts.map (·.1)))):=rfl
   have hple:(dR alg (fF alg (parts.map (·.1))) parts).length≤32*B+B:=qJ hpb hn
   have hal:=fun G=>hall qy G
   obtain ⟨m,em⟩:∃m,fF alg (parts.map (·.1))=m:=⟨_,rfl⟩
   rw [em] at hc6 hjp hal hple;have hin:=fun G=>uL m hc6.m9 G
   have npe:=(nb hc6.m9).npe;have nde:=(nb hc6.m9).nde;simp only [aO] at hal hin;rw [htl] at r7;simp only [go_sem,r3,r7,k3];refine (hal _).pthen ?_;rcases ht with rfl|rfl
   ·simp only [go_sem,r1]
    refine (hin _).pthen ?_;simp only [go_sem,r6,k6];exact .mk (rsA (fA m,[])) (oc [] (fA m) rfl _) (hsH.put n6' _) ⟨by rw [hjp]; rfl,rfl⟩
   have k6H:=k6;cases dp:(m==aT)
   case true=>
    have e1:m=aT:=by simpa using dp
    have hne:¬(m≠aT∧m≠bV):=fun hh=>hh.1 e1
    have hdu:=fun G=>oC obls ho m (.inl e1) G
    simp only [ax,aO] at hdu;simp only [go_sem,r1,npe,dp];intro i12 h12;have n126:i12≠i6:=fun e=>by rw [e,k6] at h12; cases h12
    have n123:i12≠i3:=fun e=>by rw [e,k3] at h12; cases h12
    simp only [go_sem,r2,Ug];refine .intro (fun k ρ K=>∃(i:Nat) (L:List cr) (ql:Perm),Acc U 90 H K (.sl (L.map bk) ql) (L.map bk)∧K i12=some (.obj [.v (.complex .f64 (hbit m.1) (hbit m.2)), .sl (L.map bk) ql] 85)∧L=dR alg m (parts.take i)∧(alg=3→∀j (h1:j<parts.length),j<i→(parts[j].1==m)=false)∧i≤parts.length∧k=parts.length - i∧lk ρ 3=some (.ptr i3 0)∧lk ρ 6=some (.ptr i6 0)∧lk ρ 10=some (.v (.complex .f64 (hbit m.1) (hbit m.2)))∧lk ρ 12=some (.ptr i12 0)∧lk ρ 55=some (.sl (parts.map rsA) q)∧lk ρ 56=some (.v (.int .i64 parts.length))∧lk ρ 57=some (.v (.int .i64 i))) parts.length ?_ ?_
    ·refine ⟨0,[], .full, .full (.ai h12),ah ..,by simp [dR],fun _ j _ hj=>(by omega),by omega,rfl, ?_, ?_, ?_, ?_, ?_, ?_, ?_⟩<;>simp only [go_sem,r3,r6]
    ·rintro k ρ K ⟨i,L,ql,hy,k12,hL,hno,hi,rfl,s3,s6,s10,s12,s55,s56,s57⟩
     have k3:=hy.1 _ _ k3;have k6:=hy.1 _ _ k6;have hLl:L.length≤32*B+B:=by rw [hL]; exact qJ (fun x hx=>hpb x (List.mem_of_mem_take hx)) (by rw [List.length_take]; omega)
     simp only [go_sem,s56,s57];refine .intro (fun e=> ?_) (fun e=> ?_)
     ·have hlt:i<parts.length:=Un e
      have w1:=Um i (by omega)
      have hpx:=hpb _ (Ul hlt);have hm9:=(hp _ (Ul hlt)).m9;have hsn:=fun h3=>vn alg m parts i hlt h3
      have hfi:=fun h3 d=>sS (m:=m) i hlt d fun j hj=>hno h3 j (by omega) hj
      have hno2:(parts[i].1==m)=false→alg=3→∀j (h1:j<parts.length),j<i+1→(parts[j].1==m)=false:=fun d h3 j h1 hj=>by
       by_cases hji:j=i
       ·subst hji; exact d
       ·exact hno h3 j h1 (by omega)
      have hnone:alg=3→∀n,(∀j (h1:j<parts.length),j<n→(parts[j].1==m)=false)→dR alg m (parts.take n)= []:=fun h3 n hh=>by
       rw [h3];refine vm fun x hx=> ?_
       obtain ⟨j,hj,rfl⟩:=List.mem_iff_getElem.1 hx;rw [List.length_take] at hj;rw [List.getElem_take];exact hh j (by omega) (by omega)
      have ix:=fun k=>fu.eq (xs:=parts.map rsA) (sz:=2) i (by simpa using hlt) (by rw [Uh]; rfl) k
      rw [Uh] at ix;obtain ⟨x,ex⟩:∃x,parts[i]=x:=⟨_,rfl⟩;rw [ex] at ix hsn hfi hno2 hm9 hpx;have nx:=Al hm9 hc6.m9;simp only [rsA,aO,ax] at ix;simp only [go_sem,s55,s57,ix];intro i14 h14;have n1412:i14≠i12:=fun e=>by rw [e,k12] at h14; cases h14
      have n143:i14≠i3:=fun e=>by rw [e,k3] at h14; cases h14
      cases dx:(x.1==m)
      ·have hL2:L=dR alg m (parts.take (i+1)):=by
        by_cases h3:alg=3
        ·rw [hL,hnone h3 i (hno h3),hnone h3 (i+1) (hno2 dx h3)]
        ·rw [hsn h3,dx,hL]; simp
       simp only [go_sem,s10,s57,nx,dx,w1];refine ⟨_, ?_,i+1,L,ql,hy.sub (.ai h14),by rw [ag _ _ n1412.symm]; exact k12,hL2,hno2 dx,by omega,rfl, ?_, ?_, ?_, ?_, ?_, ?_, ?_⟩
       ·omega
       all_goals simp only [go_sem,s3,s6,s10,s12,s55,s56]
      ·simp only [go_sem,s10,s12,nx,dx,aj,n1412.symm,k12]
       refine (hy.sub (.ai h14)).app (zs:=x.2.map bk) (by rw [uO]; decide) (by simp only [go_sem,ne_eq,not_false_eq_true]) (fun k hk=>hk) (by rw [uO]; exact bh (f:=bk) (fun _=>rfl) _) (by rw [uO]; exact bh (f:=bk) (fun _=>rfl) _) (by simp only [go_sem,Ug]; omega) fun y' K' hy' kp=> ?_
       obtain ⟨q',eq'⟩:=hy'.row;subst eq';rw [←List.map_append] at hy';have k12' :=kp i12 _ _ (by rw [ag _ _ n1412.symm]; exact k12)
       have k3' :=kp i3 _ _ (by rw [ag _ _ n143.symm]; exact k3)
       have k6' :=hy'.1 _ _ k6H;have hyp:=fun b=>hy'.put h12 k12' b
       cases da:(alg==3)
       ·have h3:alg≠3:=by simpa using da
        simp only [go_sem,s3,s12,s57,k12',aj,n123.symm,k3',da,w1];refine ⟨_, ?_,i+1,L++x.2,q',by rw [←List.map_append]; exact hyp _,by rw [ah,List.map_append],by rw [hsn h3,dx,hL]; rfl,fun e=>(h3 e).elim,by omega,rfl, ?_, ?_, ?_, ?_, ?_, ?_, ?_⟩
        ·omega
        all_goals simp only [go_sem,s3,s6,s10,s12,s55,s56]
       ·have h3:alg=3:=by simpa using da
        have hL0:L= []:=by rw [hL,hnone h3 i (hno h3)]
        have hL:L++x.2=dR alg m parts:=by
         subst h3;rw [hfi rfl dx,hL0]; rfl
        have hLl:(L++x.2).length≤32*B+B:=by rw [hL]; exact hple
        simp only [go_sem,s3,s12,k12',aj,n123.symm,k3',da];obtain ⟨K2,eK⟩:∃K2,upd K' i12 (some (.obj [.v (.complex .f64 (hbit m.1) (hbit m.2)), .sl (L.map bk++x.2.map bk) q'] 85))=K2:=⟨_,rfl⟩;have hy:=hyp (some (.obj [.v (.complex .f64 (hbit m.1) (hbit m.2)), .sl (L.map bk++x.2.map bk) q'] 85));have k3:K2 i3=some (.obj [.s id, .v (.bool set), .v (.int .i64 alg),aR tgt, .sl (rules.map aA) .no, .sl (eS kids) .no,ax obls] 34):=by rw [←eK,ag _ _ n123.symm]; exact k3'
        have k6:K2 i6=some (.obj [.v (.complex .f64 0 0), .sl [] .full] 85):=by rw [←eK,ag _ _ n126.symm]; exact k6'
        have k12:K2 i12=some (.obj [.v (.complex .f64 (hbit m.1) (hbit m.2)), .sl ((L++x.2).map bk) q'] 85):=by rw [←eK,ah,List.map_append]
        try rw [eK]
        rw [eK] at hy;clear eK;have p3:pick K2 [i3,i12] i3=some (.obj [.s id, .v (.bool set), .v (.int .i64 alg),aR tgt, .sl (rules.map aA) .no, .sl (eS kids) .no,ax obls] 34):=(bu (by simp)).trans k3
        have p12:pick K2 [i3,i12] i12=some (.obj [.v (.complex .f64 (hbit m.1) (hbit m.2)), .sl ((L++x.2).map bk) q'] 85):=(bu (by simp)).trans k12
        refine .stage (pick K2 [i3,i12]) [0,1,2,3,4,5,6,7] [8] bJ (by kernel_rfl) ?_
        simp only [go_sem,s3,s10,s12,p3,p12,ax];refine (hdu _).pthen ?_;refine ⟨bJ, ?_⟩;simp only [go_sem];refine hy.app (zs:=(dP obls m).map bk) (by rw [uO]; decide) (by simp only [go_sem,ne_eq,not_false_eq_true]) (fun k hk=>hk) (by rw [uO]; exact bh (f:=bk) (fun _=>rfl) _) (by rw [uO]; exact bh (f:=bk) (fun _=>rfl) _) (by simp only [go_sem,Ug]; have:=ju obls m; omega) fun y2 K3 hy2 kp2=> ?_
        obtain ⟨q2,eq2⟩:=hy2.row;subst eq2;have m3:=kp2 _ _ _ k3;have m12:=kp2 _ _ _ k12;have m6:=kp2 _ _ _ k6;refine ⟨gJ fun j hj=> ?_, ?_⟩
        ·simp only [List.mem_cons,List.not_mem_nil,or_false] at hj
         rcases hj with rfl|rfl
         ·rw [m3,k3]
         ·rw [m12,k12]
        simp only [go_sem,s12];refine ⟨cW,fun _ _ e=>(by cases e), ?_⟩
        simp only [go_sem,s6,s12,m12];refine ⟨fun _ _ e=>(by cases e), ?_⟩
        simp only [go_sem,aj,n126.symm,m6];exact .mk (rsA (m,(L++x.2)++dP obls m)) (oc ((L++x.2)++dP obls m) m (by simp only [List.map_append]) _) (((hsH.trans hy2.1).put (hsH.none h12) _).put n6' _) ⟨by rw [hjp,if_neg (by decide),if_neg (by decide),if_neg hne,hL],rfl⟩
     ·have hge:i=parts.length:=by have:=Uj e; omega
      subst hge;rw [List.take_length] at hL;have p3:pick K [i3,i12] i3=some (.obj [.s id, .v (.bool set), .v (.int .i64 alg),aR tgt, .sl (rules.map aA) .no, .sl (eS kids) .no,ax obls] 34):=(bu (by simp)).trans k3
      have p12:pick K [i3,i12] i12=some (.obj [.v (.complex .f64 (hbit m.1) (hbit m.2)), .sl (L.map bk) ql] 85):=(bu (by simp)).trans k12
      simp only [go_sem];refine .stage (pick K [i3,i12]) [0,1,2,3,4,5,6,7] [8] bJ (by kernel_rfl) ?_
      simp only [go_sem,s3,s10,s12,p3,p12,ax];refine (hdu _).pthen ?_;refine ⟨bJ, ?_⟩;simp only [go_sem];refine hy.app (zs:=(dP obls m).map bk) (by rw [uO]; decide) (by simp only [go_sem,ne_eq,not_false_eq_true]) (fun k hk=>hk) (by rw [uO]; exact bh (f:=bk) (fun _=>rfl) _) (by rw [uO]; exact bh (f:=bk) (fun _=>rfl) _) (by simp only [go_sem,Ug]; have:=ju obls m; omega) fun y2 K2 hy2 kp2=> ?_
      obtain ⟨q2,eq2⟩:=hy2.row;subst eq2;have m3:=kp2 _ _ _ k3;have m12:=kp2 _ _ _ k12;have m6:=kp2 _ _ _ k6;refine ⟨gJ fun j hj=> ?_, ?_⟩
      ·simp only [List.mem_cons,List.not_mem_nil,or_false] at hj
       rcases hj with rfl|rfl
       ·rw [m3,k3]
       ·rw [m12,k12]
      simp only [go_sem,s12];refine ⟨cW,fun _ _ e=>(by cases e), ?_⟩
      simp only [go_sem,s6,s12,m12];refine ⟨fun _ _ e=>(by cases e), ?_⟩
      simp only [go_sem,aj,n126.symm,m6];exact .mk (rsA (m,L++dP obls m)) (oc (L++dP obls m) m (by simp only [List.map_append]) _) (((hsH.trans hy2.1).put (hsH.none h12) _).put n6' _) ⟨by rw [hjp,if_neg (by decide),if_neg (by decide),if_neg hne,hL],rfl⟩
   case false=>
    cases dd:(m==bV)
    case true=>
     have e1:m=bV:=by simpa using dd
     have hne:¬(m≠aT∧m≠bV):=fun hh=>hh.2 e1
     have hdu:=fun G=>oC obls ho m (.inr e1) G
     simp only [ax,aO] at hdu;simp only [go_sem,r1,npe,nde,dp,dd];intro i12 h12;have n126:i12≠i6:=fun e=>by rw [e,k6] at h12; cases h12
     have n123:i12≠i3:=fun e=>by rw [e,k3] at h12; cases h12
     simp only [go_sem,r2,Ug];refine .intro (fun k ρ K=>∃(i:Nat) (L:List cr) (ql:Perm),Acc U 90 H K (.sl (L.map bk) ql) (L.map bk)∧K i12=some (.obj [.v (.complex .f64 (hbit m.1) (hbit m.2)), .sl (L.map bk) ql] 85)∧L=dR alg m (parts.take i)∧(alg=3→∀j (h1:j<parts.length),j<i→(parts[j].1==m)=false)∧i≤parts.length∧k=parts.length - i∧lk ρ 3=some (.ptr i3 0)∧lk ρ 6=some (.ptr i6 0)∧lk ρ 10=some (.v (.complex .f64 (hbit m.1) (hbit m.2)))∧lk ρ 12=some (.ptr i12 0)∧lk ρ 55=some (.sl (parts.map rsA) q)∧lk ρ 56=some (.v (.int .i64 parts.length))∧lk ρ 57=some (.v (.int .i64 i))) parts.length ?_ ?_
     ·refine ⟨0,[], .full, .full (.ai h12),ah ..,by simp [dR],fun _ j _ hj=>(by omega),by omega,rfl, ?_, ?_, ?_, ?_, ?_, ?_, ?_⟩<;>simp only [go_sem,r3,r6]
     ·rintro k ρ K ⟨i,L,ql,hy,k12,hL,hno,hi,rfl,s3,s6,s10,s12,s55,s56,s57⟩
      have k3:=hy.1 _ _ k3;have k6:=hy.1 _ _ k6;have hLl:L.length≤32*B+B:=by rw [hL]; exact qJ (fun x hx=>hpb x (List.mem_of_mem_take hx)) (by rw [List.length_take]; omega)
      simp only [go_sem,s56,s57];refine .intro (fun e=> ?_) (fun e=> ?_)
      ·have hlt:i<parts.length:=Un e
       have w1:=Um i (by omega)
       have hpx:=hpb _ (Ul hlt);have hm9:=(hp _ (Ul hlt)).m9;have hsn:=fun h3=>vn alg m parts i hlt h3
       have hfi:=fun h3 d=>sS (m:=m) i hlt d fun j hj=>hno h3 j (by omega) hj
       have hno2:(parts[i].1==m)=false→alg=3→∀j (h1:j<parts.length),j<i+1→(parts[j].1==m)=false:=fun d h3 j h1 hj=>by
        by_cases hji:j=i
        ·subst hji; exact d
        ·exact hno h3 j h1 (by omega)
       have hnone:alg=3→∀n,(∀j (h1:j<parts.length),j<n→(parts[j].1==m)=false)→dR alg m (parts.take n)= []:=fun h3 n hh=>by
        rw [h3];refine vm fun x hx=> ?_
        obtain ⟨j,hj,rfl⟩:=List.mem_iff_getElem.1 hx;rw [List.length_take] at hj;rw [List.getElem_take];exact hh j (by omega) (by omega)
       have ix:=fun k=>fu.eq (xs:=parts.map rsA) (sz:=2) i (by simpa using hlt) (by rw [Uh]; rfl) k
       rw [Uh] at ix;obtain ⟨x,ex⟩:∃x,parts[i]=x:=⟨_,rfl⟩;rw [ex] at ix hsn hfi hno2 hm9 hpx;have nx:=Al hm9 hc6.m9;simp only [rsA,aO,ax] at ix;simp only [go_sem,s55,s57,ix];intro i14 h14;have n1412:i14≠i12:=fun e=>by rw [e,k12] at h14; cases h14
       have n143:i14≠i3:=fun e=>by rw [e,k3] at h14; cases h14
       cases dx:(x.1==m)
       ·have hL2:L=dR alg m (parts.take (i+1)):=by
         by_cases h3:alg=3
         ·rw [hL,hnone h3 i (hno h3),hnone h3 (i+1) (hno2 dx h3)]
         ·rw [hsn h3,dx,hL]; simp
        simp only [go_sem,s10,s57,nx,dx,w1];refine ⟨_, ?_,i+1,L,ql,hy.sub (.ai h14),by rw [ag _ _ n1412.symm]; exact k12,hL2,hno2 dx,by omega,rfl, ?_, ?_, ?_, ?_, ?_, ?_, ?_⟩
        ·omega
        all_goals simp only [go_sem,s3,s6,s10,s12,s55,s56]
       ·simp only [go_sem,s10,s12,nx,dx,aj,n1412.symm,k12]
        refine (hy.sub (.ai h14)).app (zs:=x.2.map bk) (by rw [uO]; decide) (by simp only [go_sem,ne_eq,not_false_eq_true]) (fun k hk=>hk) (by rw [uO]; exact bh (f:=bk) (fun _=>rfl) _) (by rw [uO]; exact bh (f:=bk) (fun _=>rfl) _) (by simp only [go_sem,Ug]; omega) fun y' K' hy' kp=> ?_
        obtain ⟨q',eq'⟩:=hy'.row;subst eq';rw [←List.map_append] at hy';have k12' :=kp i12 _ _ (by rw [ag _ _ n1412.symm]; exact k12)
        have k3' :=kp i3 _ _ (by rw [ag _ _ n143.symm]; exact k3)
        have k6' :=hy'.1 _ _ k6H;have hyp:=fun b=>hy'.put h12 k12' b
        cases da:(alg==3)
        ·have h3:alg≠3:=by simpa using da
         simp only [go_sem,s3,s12,s57,k12',aj,n123.symm,k3',da,w1];refine ⟨_, ?_,i+1,L++x.2,q',by rw [←List.map_append]; exact hyp _,by rw [ah,List.map_append],by rw [hsn h3,dx,hL]; rfl,fun e=>(h3 e).elim,by omega,rfl, ?_, ?_, ?_, ?_, ?_, ?_, ?_⟩
         ·omega
         all_goals simp only [go_sem,s3,s6,s10,s12,s55,s56]
        ·have h3:alg=3:=by simpa using da
         have hL0:L= []:=by rw [hL,hnone h3 i (hno h3)]
         have hL:L++x.2=dR alg m parts:=by
          subst h3;rw [hfi rfl dx,hL0]; rfl
         have hLl:(L++x.2).length≤32*B+B:=by rw [hL]; exact hple
         simp only [go_sem,s3,s12,k12',aj,n123.symm,k3',da];obtain ⟨K2,eK⟩:∃K2,upd K' i12 (some (.obj [.v (.complex .f64 (hbit m.1) (hbit m.2)), .sl (L.map bk++x.2.map bk) q'] 85))=K2:=⟨_,rfl⟩;have hy:=hyp (some (.obj [.v (.complex .f64 (hbit m.1) (hbit m.2)), .sl (L.map bk++x.2.map bk) q'] 85));have k3:K2 i3=some (.obj [.s id, .v (.bool set), .v (.int .i64 alg),aR tgt, .sl (rules.map aA) .no, .sl (eS kids) .no,ax obls] 34):=by rw [←eK,ag _ _ n123.symm]; exact k3'
         have k6:K2 i6=some (.obj [.v (.complex .f64 0 0), .sl [] .full] 85):=by rw [←eK,ag _ _ n126.symm]; exact k6'
         have k12:K2 i12=some (.obj [.v (.complex .f64 (hbit m.1) (hbit m.2)), .sl ((L++x.2).map bk) q'] 85):=by rw [←eK,ah,List.map_append]
         try rw [eK]
         rw [eK] at hy;clear eK;have p3:pick K2 [i3,i12] i3=some (.obj [.s id, .v (.bool set), .v (.int .i64 alg),aR tgt, .sl (rules.map aA) .no, .sl (eS kids) .no,ax obls] 34):=(bu (by simp)).trans k3
         have p12:pick K2 [i3,i12] i12=some (.obj [.v (.complex .f64 (hbit m.1) (hbit m.2)), .sl ((L++x.2).map bk) q'] 85):=(bu (by simp)).trans k12
         refine .stage (pick K2 [i3,i12]) [0,1,2,3,4,5,6,7] [8] bJ (by kernel_rfl) ?_
         simp only [go_sem,s3,s10,s12,p3,p12,ax];refine (hdu _).pthen ?_;refine ⟨bJ, ?_⟩;simp only [go_sem];refine hy.app (zs:=(dP obls m).map bk) (by rw [uO]; decide) (by simp only [go_sem,ne_eq,not_false_eq_true]) (fun k hk=>hk) (by rw [uO]; exact bh (f:=bk) (fun _=>rfl) _) (by rw [uO]; exact bh (f:=bk) (fun _=>rfl) _) (by simp only [go_sem,Ug]; have:=ju obls m; omega) fun y2 K3 hy2 kp2=> ?_
         obtain ⟨q2,eq2⟩:=hy2.row;subst eq2;have m3:=kp2 _ _ _ k3;have m12:=kp2 _ _ _ k12;have m6:=kp2 _ _ _ k6;refine ⟨gJ fun j hj=> ?_, ?_⟩
         ·simp only [List.mem_cons,List.not_mem_nil,or_false] at hj
          rcases hj with rfl|rfl
          ·rw [m3,k3]
          ·rw [m12,k12]
         simp only [go_sem,s12];refine ⟨cW,fun _ _ e=>(by cases e), ?_⟩
         simp only [go_sem,s6,s12,m12];refine ⟨fun _ _ e=>(by cases e), ?_⟩
         simp only [go_sem,aj,n126.symm,m6];exact .mk (rsA (m,(L++x.2)++dP obls m)) (oc ((L++x.2)++dP obls m) m (by simp only [List.map_append]) _) (((hsH.trans hy2.1).put (hsH.none h12) _).put n6' _) ⟨by rw [hjp,if_neg (by decide),if_neg (by decide),if_neg hne,hL],rfl⟩
      ·have hge:i=parts.length:=by have:=Uj e; omega
       subst hge;rw [List.take_length] at hL;have p3:pick K [i3,i12] i3=some (.obj [.s id, .v (.bool set), .v (.int .i64 alg),aR tgt, .sl (rules.map aA) .no, .sl (eS kids) .no,ax obls] 34):=(bu (by simp)).trans k3
       have p12:pick K [i3,i12] i12=some (.obj [.v (.complex .f64 (hbit m.1) (hbit m.2)), .sl (L.map bk) ql] 85):=(bu (by simp)).trans k12
       simp only [go_sem];refine .stage (pick K [i3,i12]) [0,1,2,3,4,5,6,7] [8] bJ (by kernel_rfl) ?_
       simp only [go_sem,s3,s10,s12,p3,p12,ax];refine (hdu _).pthen ?_;refine ⟨bJ, ?_⟩;simp only [go_sem];refine hy.app (zs:=(dP obls m).map bk) (by rw [uO]; decide) (by simp only [go_sem,ne_eq,not_false_eq_true]) (fun k hk=>hk) (by rw [uO]; exact bh (f:=bk) (fun _=>rfl) _) (by rw [uO]; exact bh (f:=bk) (fun _=>rfl) _) (by simp only [go_sem,Ug]; have:=ju obls m; omega) fun y2 K2 hy2 kp2=> ?_
       obtain ⟨q2,eq2⟩:=hy2.row;subst eq2;have m3:=kp2 _ _ _ k3;have m12:=kp2 _ _ _ k12;have m6:=kp2 _ _ _ k6;refine ⟨gJ fun j hj=> ?_, ?_⟩
       ·simp only [List.mem_cons,List.not_mem_nil,or_false] at hj
        rcases hj with rfl|rfl
        ·rw [m3,k3]
        ·rw [m12,k12]
       simp only [go_sem,s12];refine ⟨cW,fun _ _ e=>(by cases e), ?_⟩
       simp only [go_sem,s6,s12,m12];refine ⟨fun _ _ e=>(by cases e), ?_⟩
       simp only [go_sem,aj,n126.symm,m6];exact .mk (rsA (m,L++dP obls m)) (oc (L++dP obls m) m (by simp only [List.map_append]) _) (((hsH.trans hy2.1).put (hsH.none h12) _).put n6' _) ⟨by rw [hjp,if_neg (by decide),if_neg (by decide),if_neg hne,hL],rfl⟩
    case false=>
     have e1:m≠aT:=by simpa using dp
     have e2:m≠bV:=by simpa using dd
     simp only [go_sem,r1,r6,npe,nde,dp,dd,k6];exact .mk (rsA (m,[])) (oc [] m rfl _) (hsH.put n6' _) ⟨by rw [hjp,if_neg (by decide),if_neg (by decide),if_pos ⟨e1,e2⟩],rfl⟩
set_option maxRecDepth 100000 in
theorem wV:∀(n d:Nat),d+n=5→∀(p:bB),kE d p→∀(gs:List bf),oL gs→∀(h:Heap),ak Tryz.prog 96 [aJ p,bw gs] h fun r h' =>r=rsA (dX gs p)∧h' =h
 |0,d,hd, .mk id set alg tgt rules kids obls,hE,gs,hf,h=>by
  simp only [kE] at hE;omega
 |n+1,d,hd, .mk id set alg tgt rules kids obls,hE,gs,hf,h=>by
  have ih:=wV n (d+1) (by omega)
  simp only [kE,nN] at hE;obtain ⟨_,_,ha1,ha2,_,_,hT,hO,hR,hK,hRE,hKE⟩:=hE;have hob:=(jk hO).1;have hmt:=fun G=>Gw tgt (yP hT) gs hf G
  have hev:dX gs (.mk id set alg tgt rules kids obls)=if kD gs tgt=0 then (naM,[]) else mP alg obls (kD gs tgt) (rules.map (gp gs)++kids.map (dX gs)):=by simp only [dX,qk]
  have hjo:=fun (ht:kD gs tgt=1∨kD gs tgt=2) (q:Perm) (G:Heap)=>BY (id:=id) (set:=set) (alg:=alg) ⟨ha1,ha2⟩ (tgt:=tgt) (rules:=rules) (kids:=kids) (obls:=obls) (by omega) (kD gs tgt) ht (rules.map (gp gs)++kids.map (dX gs)) (fun x hx=>by
   rcases List.mem_append.1 hx with hx|hx
   ·obtain ⟨r,_,rfl⟩:=List.mem_map.1 hx; exact wY _ _ _
   ·obtain ⟨r,_,rfl⟩:=List.mem_map.1 hx; exact yt gs r) (by simp; omega) (B:=10000000) (Nat.le_refl _) (fun x hx=>by
   rcases List.mem_append.1 hx with hx|hx
   ·obtain ⟨r,hr,rfl⟩:=List.mem_map.1 hx
    have h1:=wX r (kD gs r.tgt) (nj gs r.cond);have h2:=(jk (hRE r hr).2.2.2).1
    show (kU r (kD gs r.tgt) (nj gs r.cond)).2.length≤_
    omega
   ·obtain ⟨r,hr,rfl⟩:=List.mem_map.1 hx
    have h1:=yq gs n (d+1) r (by omega) (hKE r hr)
    have h2:oB n≤oB 4:=by
     have:n≤4:=by omega
     rcases (show n=0∨n=1∨n=2∨n=3∨n=4 by omega) with rfl|rfl|rfl|rfl|rfl<;>decide
    exact Nat.le_trans h1 (Nat.le_trans h2 (by decide))) q G
  have hrl:=fun (r:cH) (hr:AR r) (G:Heap)=>DU r hr gs hf G
  have hml:=Gv gs tgt;obtain ⟨t,et⟩:∃t,kD gs tgt=t:=⟨_,rfl⟩;rw [et] at hmt hjo hev hml;simp only [aJ,bw,aW,aR,ax] at hmt hjo hrl;have uR:=Oa;refine ak.body hU hm Tryz.func96 rfl (by kernel_rfl) 50 rfl [.cell 4 85] rfl (Uf rfl) (fun hwf=> ?_)
  simp only [go_sem,aJ,bw,aW,aR,ax];intro i2 h2;simp only [go_sem];intro i4 h4;have n42:=aH h4;have n4' :=aE h4;obtain ⟨H0,eH⟩:∃H0,upd (upd h i2 (some (.obj [.s id, .v (.bool set), .v (.int .i64 alg), .sl (tgt.map cG) .no, .sl (rules.map aA) .no, .sl (kids.map aJ) .no, .sl (obls.map bk) .no] 34))) i4 (some (.obj [.v (.complex .f64 0 0), .sl [] .full] 85))=H0:=⟨_,rfl⟩;have hH0:Ab.Sub h H0:=by rw [←eH]; exact ((Sub.refl h).put h2 _).put n4' _
  have g2:H0 i2=some (.obj [.s id, .v (.bool set), .v (.int .i64 alg), .sl (tgt.map cG) .no, .sl (rules.map aA) .no, .sl (kids.map aJ) .no, .sl (obls.map bk) .no] 34):=by rw [←eH,ag _ _ n42.symm,ah]
  have g4:H0 i4=some (.obj [.v (.complex .f64 0 0), .sl [] .full] 85):=by rw [←eH,ah]
  simp only [go_sem,aj,n42.symm];rw [eH];clear eH;refine (hmt _).pthen ?_;cases dt:((t:Int)==0)
  case true=>
   have e0:t=0:=by have:(t:Int)=0:=(by simpa using dt); omega
   simp only [go_sem,dt,g4];exact .mk (rsA (naM,[])) (oc [] naM rfl _) (hH0.put n4' _) ⟨by rw [hev,if_pos e0],rfl⟩
  have ht0:t≠0:=by rintro rfl; simp at dt
  have ht12:t=1∨t=2:=by omega
  rw [if_neg ht0] at hev;simp only [go_sem,dt,g2,Ug];refine .intro (fun m ρ H=>∃(i:Nat) (y:AV),Acc U 85 H0 H y (((rules.map (gp gs)).take i).map rsA)∧i≤rules.length∧m=rules.length - i∧lk ρ 1=some (.sl (gs.map jh) .no)∧lk ρ 2=some (.ptr i2 0)∧lk ρ 4=some (.ptr i4 0)∧lk ρ 5=some (.v (.int .i64 t))∧lk ρ 6=some y∧lk ρ 19=some (.sl (rules.map aA) .no)∧lk ρ 20=some (.v (.int .i64 rules.length))∧lk ρ 21=some (.v (.int .i64 i))) rules.length ?_ ?_
  ·refine ⟨0, .sl [] .full, .full (.refl _),by omega,rfl, ?_, ?_, ?_, ?_, ?_, ?_, ?_, ?_⟩<;>simp only [go_sem]
  ·rintro m ρ H ⟨i,y,hy,hi,rfl,r1,r2,r4,r5,r6,r19,r20,r21⟩
   obtain ⟨qy,eqy⟩:=hy.row;subst eqy;simp only [go_sem,r20,r21];refine .intro (fun e=> ?_) (fun e=> ?_)
   ·have hlt:i<rules.length:=Un e
    have w1:=Um i (by omega)
    have hsn:((rules.map (gp gs)).take (i+1)).map rsA=((rules.map (gp gs)).take i).map rsA++ [rsA (gp gs rules[i])]:=by
     rw [List.take_succ_eq_append_getElem (by simpa using hlt),List.map_append,Uh]; rfl
    have ix:=fun k=>fu.eq (xs:=rules.map aA) (sz:=5) i (by simpa using hlt) (by rw [Uh]; rfl) k
    rw [Uh] at ix;have hre:=hRE _ (Ul hlt);obtain ⟨x,ex⟩:∃x,rules[i]=x:=⟨_,rfl⟩;rw [ex] at ix hsn hre;have hr1:=hrl x hre;simp only [aA,aR,ax] at ix hr1;simp only [go_sem,r19,r21,ix];intro i8 h8;simp only [go_sem,r1,r6];refine (hr1 _).pthen ?_;simp only [go_sem,rsA,aO,ax];refine (hy.sub (.ai h8)).app (zs:= [rsA (gp gs x)]) (by rw [uR]; decide) (by simp only [go_sem,ne_eq,not_false_eq_true]) (fun k hk=>hk) (by rw [uR]; exact xI _) (by rw [uR]; intro z hz; rw [List.mem_singleton.1 hz]; rfl) (by simp only [go_sem,Ug,List.length_take,List.length_cons,List.length_nil]; omega) fun y' H' hy' kp=> ?_
    simp only [go_sem,r21,w1];refine ⟨_, ?_,i+1,y',by rw [hsn]; exact hy',by omega,rfl, ?_, ?_, ?_, ?_, ?_, ?_, ?_, ?_⟩
    ·omega
    all_goals simp only [go_sem,r1,r2,r4,r5,r19,r20]
   ·have hge:i=rules.length:=by have:=Uj e; omega
    subst hge;have htl:(rules.map (gp gs)).take rules.length=rules.map (gp gs):=List.take_of_length_le (by simp)
    rw [htl] at hy r6;have k2:=hy.1 _ _ g2;simp only [go_sem,r2,k2,Ug];refine .intro (fun m ρ H=>∃(i:Nat) (y:AV),Acc U 85 H0 H y ((rules.map (gp gs)++(kids.map (dX gs)).take i).map rsA)∧i≤kids.length∧m=kids.length - i∧lk ρ 1=some (.sl (gs.map jh) .no)∧lk ρ 2=some (.ptr i2 0)∧lk ρ 4=some (.ptr i4 0)∧lk ρ 5=some (.v (.int .i64 t))∧lk ρ 6=some y∧lk ρ 33=some (.sl (kids.map aJ) .no)∧lk ρ 34=some (.v (.int .i64 kids.length))∧lk ρ 35=some (.v (.int .i64 i))) kids.length ?_ ?_
    ·refine ⟨0,_,by rw [List.take_zero,List.append_nil]; exact hy,by omega,rfl, ?_, ?_, ?_, ?_, ?_, ?_, ?_, ?_⟩<;>simp only [go_sem,r1,r2,r4,r5,r6]
    ·rintro m ρ2 H2 ⟨i,y,hy,hi,rfl,s1,s2,s4,s5,s6,s33,s34,s35⟩
     obtain ⟨qy,eqy⟩:=hy.row;subst eqy;simp only [go_sem,s34,s35];refine .intro (fun e=> ?_) (fun e=> ?_)
     ·have hlt:i<kids.length:=Un e
      have w1:=Um i (by omega)
      have hsn:(rules.map (gp gs)++(kids.map (dX gs)).take (i+1)).map rsA=(rules.map (gp gs)++(kids.map (dX gs)).take i).map rsA++ [rsA (dX gs kids[i])]:=by
       rw [List.take_succ_eq_append_getElem (by simpa using hlt),←List.append_assoc,List.map_append,Uh]; rfl
      have ix:=fun k=>fu.eq (xs:=kids.map aJ) (sz:=7) i (by simpa using hlt) (by rw [Uh,iu]) k
      rw [Uh] at ix;have hke:=hKE _ (Ul hlt);obtain ⟨x,ex⟩:∃x,kids[i]=x:=⟨_,rfl⟩;rw [ex] at ix hsn hke;have hr1:=ih x hke gs hf;obtain ⟨kid,kset,kalg,ktgt,krules,kkids,kobls⟩:=x;simp only [aJ,aR,ax,bw,aW] at ix hr1;simp only [go_sem,s33,s35,ix];intro i10 h10;simp only [go_sem,s1,s6];refine (hr1 _).pthen ?_;simp only [go_sem,rsA,aO,ax];refine (hy.sub (.ai h10)).app (zs:= [rsA (dX gs (.mk kid kset kalg ktgt krules kkids kobls))]) (by rw [uR]; decide) (by simp only [go_sem,ne_eq,not_false_eq_true]) (fun k hk=>hk) (by rw [uR]; exact xI _) (by rw [uR]; intro z hz; rw [List.mem_singleton.1 hz]; rfl) (by simp only [go_sem,Ug,List.length_take,List.length_cons,List.length_nil,Uk]; omega) fun y' H' hy' kp=> ?_
      simp only [go_sem,s35,w1];refine ⟨_, ?_,i+1,y',by rw [hsn]; exact hy',by omega,rfl, ?_, ?_, ?_, ?_, ?_, ?_, ?_, ?_⟩
      ·omega
      all_goals simp only [go_sem,s1,s2,s4,s5,s33,s34]
     ·have hge:i=kids.length:=by have:=Uj e; omega
      subst hge;have htl:(kids.map (dX gs)).take kids.length=kids.map (dX gs):=List.take_of_length_le (by simp)
      rw [htl] at hy s6;have k2:=hy.1 _ _ g2;have k4:=hy.1 _ _ g4;have hj:=fun G=>hjo ht12 qy G
      rw [←hev] at hj;obtain ⟨z,ez⟩:∃z,dX gs (.mk id set alg tgt rules kids obls)=z:=⟨_,rfl⟩;rw [ez] at hj;simp only [go_sem,s2,s5,s6,k2];refine (hj _).pthen ?_;simp only [go_sem,s4,rsA,aO,ax,k4];exact .mk (rsA z) (.refl _) ((hH0.trans hy.1).put n4' _) ⟨by rw [ez]; rfl,rfl⟩
theorem zC (p:bB) (hp:fK p=0) (gs:List bf) (hf:oL gs) (h:Heap):ak Tryz.prog 40 [aJ p,bw gs] h fun r h' =>r= .tup [rsA (dX gs p), .v (.int .i64 0)]∧h' =h:=by
 have hd:=fun G=>wV 4 1 rfl p (od hp) gs hf G
 have hr:=fun G=>qQ p G
 rw [hp] at hr;obtain ⟨z,ez⟩:∃z,dX gs p=z:=⟨_,rfl⟩;rw [ez] at hd⊢;obtain ⟨id,set,alg,tgt,rules,kids,obls⟩:=p;simp only [aJ,aR,ax,bw] at hd hr;refine ak.body hU hm Tryz.func40 rfl (by kernel_rfl) 13 rfl [.cell 4 85, .tmp 5] rfl (Uf rfl) (fun hwf=> ?_)
 simp only [go_sem,aJ,bw,aR,ax];intro i2 h2;simp only [go_sem];intro i4 h4;have n42:=aH h4;have n4:=aE h4;have hs:∀x y,Ab.Sub h (upd (upd h i2 x) i4 y):=fun x y=>((Sub.refl h).put h2 x).put n4 y
 simp only [go_sem,aj,n42.symm];refine (hr _).pthen ?_;simp only [go_sem,aj,n42.symm];refine (hd _).pthen ?_;simp only [go_sem,rsA,aO,ax];exact .mk _ (.refl _) (hs _ _) ⟨rfl,rfl⟩
end Go.Proofs.YtmlhcdeamjkpjaaGreatDoor
