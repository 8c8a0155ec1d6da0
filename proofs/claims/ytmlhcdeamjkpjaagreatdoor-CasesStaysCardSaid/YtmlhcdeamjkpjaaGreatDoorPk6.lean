/- The law CasesStays: pack 6 of its texts. -/
import Derived.Test.YtmlhcdeamjkpjaaGreatDoorPk1
import Derived.Test.YtmlhcdeamjkpjaaGreatDoorPk2
import Derived.Test.YtmlhcdeamjkpjaaGreatDoorPk3
import Derived.Test.YtmlhcdeamjkpjaaGreatDoorPk4
import Derived.Test.YtmlhcdeamjkpjaaGreatDoorPk5
set_option linter.unusedSimpArgs false
set_option linter.unusedVariables false
namespace Go.Bf
open Go Go.Ab Go.Proofs.YtmlhcdeamjkpjaaGreatDoor
def eqCaseD (a b:CaseD):Bool:=a.id==b.id && (a.owner==b.owner && (a.state==b.state && (eqL eqFieldD a.fields b.fields && eqL eqHapD a.log b.log)))
def opsD (l:List OpD) (n:Nat):List OpD:=(l.take n).map opkD
theorem IdxE.eq {xs:List AV} {sz:Nat} (j:Nat) (hj:j<xs.length) (hz:xs[j].cells.length=sz) (k:AV→Prop):IdxE xs (j:Int) sz k=k (.pe xs[j] 0):=propext ⟨fun h=>by
 obtain ⟨_,b,hb,_,hk⟩:=h
 have:xs[j]? =some xs[j]:=by simp [hj]
 rw [show ((j:Int).toNat)=j by simp,this] at hb
 cases hb
 exact hk,fun h=>IdxE.at j hj hz h⟩
end Go.Bf
namespace Go.Proofs.YtmlhcdeamjkpjaaGreatDoor
open Go Go.Ab Go.Bf
def CRow (x:AV) (c:CaseD):Prop:=∃qf ql,x= .agg [.s c.id, .s c.owner, .s c.state, .sl (c.fields.map fieldA) qf, .sl (c.log.map hapA) ql]
def CRows (xs:List AV) (cs:List CaseD):Prop:=xs.length=cs.length∧∀i (h1:i<xs.length) (h2:i<cs.length),CRow xs[i] cs[i]
theorem crows (cs:List CaseD):CRows (cs.map caseA) cs:=⟨by simp,fun i h1 h2=>by rw [List.getElem_map]; exact ⟨_,_,rfl⟩⟩
set_option maxRecDepth 100000 in
theorem cases_ok {xs ys:List AV} {cs ds:List CaseD} (h1:CRows xs cs) (h2:CRows ys ds) (q1 q2:Perm) (h:Heap):FnOK Tryz.prog 28 [.sl xs q1, .sl ys q2] h fun r h' =>r= .v (.bool (eqL eqCaseD cs ds))∧h' =h:=by
 refine FnOK.body hU hm Tryz.func28 rfl (by kernel_rfl) 82 rfl [.tmp 4] rfl (Nat.le_of_ble_eq_true rfl) (fun hwf=> ?_)
 cases d1:((xs.length:Int) !=(ys.length:Int))
 ·have e1:xs.length=ys.length:=by have:(xs.length:Int)=ys.length:=(by simpa using d1); omega
  have e2:cs.length=ds.length:=by rw [←h1.1,←h2.1,e1]
  simp -implicitDefEqProofs only [go_sem,d1]
  refine LoopC.wf fun hw=> ?_
  have hxl:=hw 11 (.sl xs q1) (by simp -implicitDefEqProofs only [go_sem])
  simp only [wfA,wf1,lim] at hxl
  refine .intro (fun m ρ h' =>h' =h∧∃i:Nat,i≤xs.length∧m=xs.length - i∧(∀j (a:j<cs.length) (b:j<ds.length),j<i→eqCaseD cs[j] ds[j]=true)∧lk ρ 0=some (.sl xs q1)∧lk ρ 1=some (.sl ys q2)∧lk ρ 12=some (.v (.int .i64 xs.length))∧lk ρ 13=some (.v (.int .i64 i))) xs.length ?_ ?_
  ·refine ⟨rfl,0,by omega,rfl,fun j _ _ hj=>(by omega), ?_, ?_, ?_, ?_⟩<;>simp -implicitDefEqProofs only [go_sem]
  ·rintro m ρ h' ⟨rfl,i,hi,rfl,hc,r0,r1,r12,r13⟩
   cases e3:decide ((i:Int)<(xs.length:Int))
   ·have hge:i=xs.length:=by have:=of_decide_eq_false e3; omega
    simp -implicitDefEqProofs only [go_sem,r0,r1,r12,r13,e3]
    exact .same (.refl _) ⟨by rw [eqL_true e2 fun j a b=>hc j a b (by rw [hge,h1.1]; exact a)]; rfl,rfl⟩
   ·have hlt:i<xs.length:=Int.ofNat_lt.1 (of_decide_eq_true e3)
    have hlt2:i<ys.length:=by omega
    have hlt3:i<cs.length:=by rw [←h1.1]; exact hlt
    have hlt4:i<ds.length:=by rw [←h2.1]; exact hlt2
    have w1:IntKind.i64.wrap ((i:Int)+1)=((i+1:Nat):Int):=by rw [wr64 _ (by omega)]; omega
    obtain ⟨qf,ql,ex⟩:=h1.2 i hlt hlt3
    obtain ⟨qf',ql',ey⟩:=h2.2 i hlt2 hlt4
    have ix:=fun k=>IdxE.eq (sz:=5) i hlt (by rw [ex]; rfl) k
    have iy:=fun k=>IdxE.eq (sz:=5) i hlt2 (by rw [ey]; rfl) k
    rw [ex] at ix
    rw [ey] at iy
    have hno:eqCaseD cs[i] ds[i]=false→eqL eqCaseD cs ds=false:=fun e=>eqL_at i hlt3 hlt4 e
    have hdef:eqCaseD cs[i] ds[i]=(cs[i].id==ds[i].id && (cs[i].owner==ds[i].owner && (cs[i].state==ds[i].state && (eqL eqFieldD cs[i].fields ds[i].fields && eqL eqHapD cs[i].log ds[i].log)))):=rfl
    have hst:=hc
    obtain ⟨c,ec⟩:∃c,cs[i]=c:=⟨_,rfl⟩
    obtain ⟨d,ed⟩:∃d,ds[i]=d:=⟨_,rfl⟩
    rw [ec,ed] at hdef hno
    rw [ec] at ix
    rw [ed] at iy
    simp -implicitDefEqProofs only [go_sem,r0,r1,r12,r13,e3,ix,iy,and_self,if_false]
    simp only [List.append]
    simp -implicitDefEqProofs only [go_sem,r0,r1,r12,r13,ix,iy,and_self,if_false]
    refine .quiet (by kernel_rfl) ?_
    simp -implicitDefEqProofs only [go_sem,r0,r1,r12,r13,ix,iy,and_self,if_false]
    cases a1:(c.id==d.id)
    case false=>
     simp -implicitDefEqProofs only [go_sem,r0,r1,r12,r13,a1]
     exact .same (.refl _) ⟨by rw [hno (by rw [hdef,a1]; rfl)]; rfl,rfl⟩
    simp -implicitDefEqProofs only [go_sem,r0,r1,r12,r13,a1,ix,iy,and_self,if_false]
    cases a2:(c.owner==d.owner)
    case false=>
     simp -implicitDefEqProofs only [go_sem,r0,r1,r12,r13,a1,a2]
     exact .same (.refl _) ⟨by rw [hno (by rw [hdef,a1,a2]; rfl)]; rfl,rfl⟩
    simp -implicitDefEqProofs only [go_sem,r0,r1,r12,r13,a1,a2,ix,iy,and_self,if_false]
    cases a3:(c.state==d.state)
    case false=>
     simp -implicitDefEqProofs only [go_sem,r0,r1,r12,r13,a1,a2,a3]
     exact .same (.refl _) ⟨by rw [hno (by rw [hdef,a1,a2,a3]; rfl)]; rfl,rfl⟩
    simp -implicitDefEqProofs only [go_sem,r0,r1,r12,r13,a1,a2,a3,ix,iy,and_self,if_false]
    refine ⟨_,sameField_ok c.fields d.fields qf qf' _, ?_⟩
    cases a4:eqL eqFieldD c.fields d.fields
    ·simp -implicitDefEqProofs only [go_sem,r0,r1,r12,r13,a1,a2,a3,a4]
     exact .same (.refl _) ⟨by rw [hno (by rw [hdef,a1,a2,a3,a4]; rfl)]; rfl,rfl⟩
    simp -implicitDefEqProofs only [go_sem,r0,r1,r12,r13,a1,a2,a3,a4,ix,iy,and_self,if_false]
    refine ⟨_,sameHap_ok c.log d.log ql ql' _, ?_⟩
    cases a5:eqL eqHapD c.log d.log
    ·simp -implicitDefEqProofs only [go_sem,r0,r1,r12,r13,a1,a2,a3,a4,a5]
     exact .same (.refl _) ⟨by rw [hno (by rw [hdef,a1,a2,a3,a4,a5]; rfl)]; rfl,rfl⟩
    simp -implicitDefEqProofs only [go_sem,r0,r1,r12,r13,a1,a2,a3,a4,a5,w1]
    refine ⟨_, ?_,rfl,i+1,by omega,rfl,fun j a b hj=> ?_, ?_, ?_, ?_, ?_⟩
    ·omega
    ·by_cases hji:j=i
     ·subst hji; rw [ec,ed,hdef,a1,a2,a3,a4,a5]; rfl
     ·exact hc j a b (by omega)
    all_goals simp -implicitDefEqProofs only [go_sem,r0,r1,r12,r13,w1]
 ·have e2:cs.length≠ds.length:=by
   rw [←h1.1,←h2.1]
   intro e; rw [e] at d1; simp at d1
  simp -implicitDefEqProofs only [go_sem,d1]
  exact .same (.refl _) ⟨by rw [eqL_len e2]; rfl,rfl⟩
theorem ops_ok (l:List OpD) (n:Nat) (hn:n≤1000) (h:Heap):FnOK Tryz.prog 15 [.sl (l.map opA) .no, .v (.int .i64 n)] h fun r h' =>r= .sl ((opsD l n).map opA) .no∧h' =h:=by
 refine FnOK.body hU hm Tryz.func15 rfl (by kernel_rfl) 27 rfl [.tmp 4] rfl (Nat.le_of_ble_eq_true rfl) (fun hwf=> ?_)
 simp -implicitDefEqProofs only [go_sem]
 have hsz:(U 44).sz=12:=by simp only [go_sem]
 refine LoopC.wf fun hw=> ?_
 refine .intro (fun m ρ H=>∃(i:Nat) (y:AV),Acc U 44 h H y ((opsD (l.take i) n).map opA)∧i≤l.length∧i≤n∧m=l.length - i∧lk ρ 0=some (.sl (l.map opA) .no)∧lk ρ 1=some (.v (.int .i64 n))∧lk ρ 5=some y∧lk ρ 6=some (.v (.int .i64 i))) l.length ?_ ?_
 ·refine ⟨0, .sl [] .full,by simpa [opsD] using Acc.full (.refl _),by omega,by omega,rfl, ?_, ?_, ?_, ?_⟩<;>simp -implicitDefEqProofs only [go_sem]
 ·rintro m ρ H ⟨i,y,hy,hi,hin,rfl,r0,r1,r5,r6⟩
  obtain ⟨q,eq⟩:=hy.row
  subst eq
  by_cases hgo:i<l.length∧i<n
  ·have d1:decide ((i:Int)<(l.length:Int))=true:=decide_eq_true (by omega)
   have d2:decide ((i:Int)<(n:Int))=true:=decide_eq_true (by omega)
   have w1:IntKind.i64.wrap ((i:Int)+1)=((i+1:Nat):Int):=by rw [wr64 _ (by omega)]; omega
   have hsn:opsD (l.take (i+1)) n=opsD (l.take i) n++ [opkD l[i]]:=by
    unfold opsD
    rw [List.take_take,List.take_take,Nat.min_eq_right (by omega),Nat.min_eq_right (by omega),←List.take_append_getElem hgo.1]
    simp only [List.map_append,List.map_cons,List.map_nil]
   simp -implicitDefEqProofs only [go_sem,r0,r1,r5,r6,List.length_map,d1,d2]
   refine .at i (by simpa using hgo.1) (by rw [List.getElem_map]; rfl) ?_
   have hok:=fun (G:Heap)=>opk_ok l[i] G
   simp only [opA,opC] at hok
   simp -implicitDefEqProofs only [go_sem,r0,r1,r5,r6,List.getElem_map,opA,opC]
   refine (hok _).pthen ?_
   simp -implicitDefEqProofs only [go_sem,r0,r1,r5,r6]
   refine Acc.app hy (zs:= [opA (opkD l[i])]) (by rw [hsz]; decide) (by simp only [go_sem,ne_eq,not_false_eq_true]) (fun k hk=>hk) (by rw [hsz]; exact sized_map (f:=opA) (fun _=>rfl) _) (by rw [hsz]; intro z hz; rw [List.mem_singleton.1 hz]; rfl) (by simp only [go_sem,opsD,List.length_append,List.length_map,List.length_take,List.length_cons,List.length_nil]<;>omega) fun yz Gz hyz kpz=> ?_
   simp -implicitDefEqProofs only [go_sem,r0,r1,r5,r6,w1]
   refine ⟨_, ?_,i+1,yz,by rw [hsn,List.map_append]; exact hyz,by omega,by omega,rfl, ?_, ?_, ?_, ?_⟩
   ·omega
   all_goals simp -implicitDefEqProofs only [go_sem,r0,r1,r5,r6,w1]
  ·have hall:opsD (l.take i) n=opsD l n:=by
    unfold opsD
    rcases Nat.lt_or_ge i l.length with hlt|hge
    ·have:i=n:=by
      rcases Nat.lt_or_ge i n with h2|h2
      ·exact (hgo ⟨hlt,h2⟩).elim
      ·omega
     subst this
     rw [List.take_take,Nat.min_self]
    ·rw [List.take_of_length_le (l:=l) hge]
   rw [hall] at hy
   cases d1:decide ((i:Int)<(l.length:Int))
   ·simp -implicitDefEqProofs only [go_sem,r0,r1,r5,r6,List.length_map,d1]
    exact .mk _ (by rw [hall]; exact .sl _ _) hy.1 ⟨rfl,rfl⟩
   ·have d2:decide ((i:Int)<(n:Int))=false:=decide_eq_false fun h3=>hgo ⟨by have:=of_decide_eq_true d1; omega,by omega⟩
    simp -implicitDefEqProofs only [go_sem,r0,r1,r5,r6,List.length_map,d1,d2]
    exact .mk _ (by rw [hall]; exact .sl _ _) hy.1 ⟨rfl,rfl⟩
end Go.Proofs.YtmlhcdeamjkpjaaGreatDoor

set_option linter.unusedSimpArgs false
set_option linter.unusedVariables false
namespace Go.Bf
open Go Go.Ab Go.Proofs.YtmlhcdeamjkpjaaGreatDoor
def BagOK (l:List ValD):Prop:=l.length≤16∧∀v∈l,valOK v=true∧∀w∈l.head?,v.kind=w.kind
structure AskOK (gs:List GivD):Prop where
 len:gs.length≤64
 each:∀g∈gs,1≤g.cat∧g.cat≤4∧nameOK g.name=true∧BagOK g.bag
 dist:gs.Pairwise fun a b=>isGiv b.cat b.name a=false
end Go.Bf
namespace Go.Proofs.YtmlhcdeamjkpjaaGreatDoor
open Go Go.Ab Go.Bf
end Go.Proofs.YtmlhcdeamjkpjaaGreatDoor

set_option linter.unusedSimpArgs false
set_option linter.unusedVariables false
namespace Go.Bf
open Go Go.Ab Go.Proofs.YtmlhcdeamjkpjaaGreatDoor
end Go.Bf
namespace Go.Proofs.YtmlhcdeamjkpjaaGreatDoor
open Go Go.Ab Go.Bf
end Go.Proofs.YtmlhcdeamjkpjaaGreatDoor

set_option linter.unusedSimpArgs false
set_option linter.unusedVariables false
namespace Go.Bf
open Go Go.Ab Go.Proofs.YtmlhcdeamjkpjaaGreatDoor
def sL:StoreD→List AV
 |⟨tick,cs,rv,nt,ro, .mk pid set alg tgt rules kids obls,ver⟩=> [.v (.int .i64 tick),casesA cs,revsA rv,notsA nt,rolesA ro, .s pid, .v (.bool set), .v (.int .i64 alg),tgtA tgt, .sl (rules.map ruleA) .no, .sl (kidsA kids) .no,oblsA obls, .v (.int .i64 ver)]
theorem storeA_sL (s:StoreD):storeA s= .agg (sL s):=by
 obtain ⟨tick,cs,rv,nt,ro,⟨pid,set,alg,tgt,rules,kids,obls⟩,ver⟩:=s
 simp [storeA,polC,sL]
theorem eqCase_refl (c:CaseD):eqCaseD c c=true:=by
 have h1:eqL eqFieldD c.fields c.fields=true:=eqL_true rfl fun j _ _=>by simp [eqFieldD]
 have h2:eqL eqHapD c.log c.log=true:=eqL_true rfl fun j _ _=>by simp [eqHapD]
 simp [eqCaseD,h1,h2]
theorem cases_refl (cs:List CaseD):eqL eqCaseD cs cs=true:=eqL_true rfl fun j _ _=>eqCase_refl _
end Go.Bf
namespace Go.Proofs.YtmlhcdeamjkpjaaGreatDoor
open Go Go.Ab Go.Bf
theorem dat_ops {x:AV} (h:Dat U 22 x):∃l:List OpD,x= .sl (l.map opA) .no∧l.length≤maxLen∧∀o∈l,Op64 o:=h.list (by simp only [go_sem]) fun y hy=>dat_op hy
theorem ops64 {l:List OpD} {n:Nat} (h:∀o∈l,Op64 o):∀o∈opsD l n,Op64 o:=fun o ho=>by
 obtain ⟨a,ha,rfl⟩:=List.mem_map.1 ho
 exact h a (List.mem_of_mem_take ha)
end Go.Proofs.YtmlhcdeamjkpjaaGreatDoor

set_option linter.unusedSimpArgs false
set_option linter.unusedVariables false
namespace Go.Bf
open Go Go.Ab Go.Proofs.YtmlhcdeamjkpjaaGreatDoor
theorem case_of {cs:List CaseD} (ha:Asc cs) {c:CaseD} (hc:c∈cs):thereD cs c.id=true∧caseD cs c.id=c:=by
 have ht:thereD cs c.id=true:=by
  rw [there_iff ha]; exact List.any_eq_true.2 ⟨c,hc,by simp⟩
 refine ⟨ht, ?_⟩
 obtain ⟨hm,hid⟩:=case_mem ha ht
 obtain ⟨i,hi,ei⟩:=List.mem_iff_getElem.1 hm
 obtain ⟨j,hj,ej⟩:=List.mem_iff_getElem.1 hc
 rcases Nat.lt_trichotomy i j with h|h|h
 ·have:=List.pairwise_iff_getElem.1 ha i j hi hj h
  rw [ei,ej,hid] at this
  exact (lt_irrefl _ this).elim
 ·subst h; rw [←ei,←ej]
 ·have:=List.pairwise_iff_getElem.1 ha j i hj hi h
  rw [ei,ej,hid] at this
  exact (lt_irrefl _ this).elim
theorem find_there {cs:List CaseD} {id:Txt} (h:thereD cs id=true):∃hi:findD cs id<cs.length,cs[findD cs id].id=id:=by
 have hlt:=thereD_lt h
 refine ⟨hlt, ?_⟩
 unfold thereD at h
 rw [List.getElem?_eq_getElem hlt] at h
 simpa using h
structure Stays (cs cs' :List CaseD) (id:Txt):Prop where
 len:cs'.length≤cs.length+1
 ids:∀c∈cs,∃d∈cs',d.id=c.id
 rest:∀c∈cs,c.id≠id→c∈cs'
theorem Stays.refl (cs:List CaseD) (id:Txt):Stays cs cs id:=⟨by omega,fun c hc=>⟨c,hc,rfl⟩,fun c hc _=>hc⟩
theorem Stays.modify {cs:List CaseD} {id:Txt} (ht:thereD cs id=true) {f:CaseD→CaseD} (hf:∀c,(f c).id=c.id):Stays cs (cs.modify (findD cs id) f) id:=by
 obtain ⟨hlt,hid⟩:=find_there ht
 refine ⟨by simp,fun c hc=> ?_,fun c hc hne=> ?_⟩
 ·have:c.id∈(cs.modify (findD cs id) f).map (·.id):=by
   rw [map_modify hf]; exact List.mem_map.2 ⟨c,hc,rfl⟩
  obtain ⟨d,hd,he⟩:=List.mem_map.1 this
  exact ⟨d,hd,he⟩
 ·obtain ⟨j,hj,ej⟩:=List.mem_iff_getElem.1 hc
  have hji:findD cs id≠j:=fun e=>by
   subst e
   rw [ej] at hid
   exact hne hid
  refine List.mem_iff_getElem.2 ⟨j,by simpa using hj, ?_⟩
  rw [List.getElem_modify,if_neg hji,ej]
theorem stays_done {k:Nat} {s:StoreD} (o:OpD) (hs:StoreOK k s):Stays s.cases (doneD parseD s o).cases o.case:=by
 unfold doneD
 by_cases hr:readyD s o=0
 ·rw [if_pos hr]
  have hf:formD o=true:=by
   unfold readyD at hr
   cases h:formD o with
   |true=>rfl
   |false=>rw [h] at hr; simp at hr
  unfold readyD at hr
  rw [hf] at hr
  simp only [Bool.true_eq_false,if_false] at hr
  have hth:2≤o.kind∧o.kind≤4→thereD s.cases o.case=true:=fun hk=>by
   by_cases k1:o.kind=1
   ·omega
   ·rw [if_neg k1,if_pos hk] at hr
    unfold readyCaseD at hr
    cases h:thereD s.cases o.case with
    |true=>rfl
    |false=>rw [h] at hr; simp at hr
  unfold doD
  by_cases k1:o.kind=1
  ·simp only [k1,if_true]
   refine ⟨?_,fun c hc=>⟨c, ?_,rfl⟩,fun c hc _=> ?_⟩
   ·have:findD s.cases o.case≤s.cases.length:=List.findIdx_le_length
    simp; omega
   all_goals
    have:c∈s.cases.take (findD s.cases o.case)∨c∈s.cases.drop (findD s.cases o.case):=by
     rw [←List.mem_append,List.take_append_drop]; exact hc
    simp only [List.mem_append,List.mem_singleton]
    rcases this with h|h
    ·exact .inl (.inl h)
    ·exact .inr h
  ·simp only [k1,if_false]
   by_cases k3:o.kind=3
   ·simp only [k3,if_true]
    exact .modify (hth (by omega)) fun c=>rfl
   ·simp only [k3,if_false]
    by_cases k4:o.kind=4
    ·simp only [k4,if_true]
     exact .modify (hth (by omega)) fun c=>rfl
    ·simp only [k4,if_false]
     split
     ·exact .refl _ _
     ·split
      ·split<;>exact .refl _ _
      ·split
       ·split<;>exact .refl _ _
       ·split<;>exact .refl _ _
 ·rw [if_neg hr]; exact .refl _ _
theorem stays_there {k:Nat} {s:StoreD} {o:OpD} (hs:StoreOK k s) {c:CaseD} (hc:c∈s.cases):thereD (doneD parseD s o).cases c.id=true:=by
 have ha:=(store_done o hs).asc
 obtain ⟨d,hd,he⟩:=(stays_done o hs).ids c hc
 rw [←he]
 exact (case_of ha hd).1
theorem stays_case {k:Nat} {s:StoreD} {o:OpD} (hs:StoreOK k s) {c:CaseD} (hc:c∈s.cases) (hne:c.id≠o.case):caseD (doneD parseD s o).cases c.id=c:=(case_of (store_done o hs).asc ((stays_done o hs).rest c hc hne)).2
end Go.Bf
namespace Go.Proofs.YtmlhcdeamjkpjaaGreatDoor
open Go Go.Ab Go.Bf
end Go.Proofs.YtmlhcdeamjkpjaaGreatDoor

set_option linter.unusedSimpArgs false
set_option linter.unusedVariables false
namespace Go.Proofs.YtmlhcdeamjkpjaaGreatDoor
open Go Go.Ab Go.Bf
theorem crows_sized {xs:List AV} {cs:List CaseD} (h:CRows xs cs):Sized 5 xs:=fun z hz=>by
 obtain ⟨i,hi,rfl⟩:=List.mem_iff_getElem.1 hz
 obtain ⟨q1,q2,e⟩:=h.2 i hi (by rw [←h.1]; exact hi)
 rw [e]; rfl
theorem crows_snoc {xs:List AV} {cs:List CaseD} {j:Nat} {x:AV} (h:CRows xs (cs.take j)) (hj:j<cs.length) (hx:CRow x cs[j]):CRows (xs++ [x]) (cs.take (j+1)):=by
 have hl:xs.length=j:=by rw [h.1,List.length_take]; omega
 refine ⟨by simp [hl]; omega,fun i h1 h2=> ?_⟩
 by_cases e:i<j
 ·have:=h.2 i (by omega) (by simp; omega)
  rw [List.getElem_append_left (by omega)]
  simpa using this
 ·have:i=j:=by simp at h1; omega
  subst this
  rw [List.getElem_append_right (by omega)]
  simpa [hl] using hx
set_option maxRecDepth 100000 in
theorem casesStays_ok (x y:AV) (dx:Dat U 22 x) (dy:Dat U 44 y) (h:Heap) (he:ErrT h):FnOK Tryz.prog 4 [x,y] h fun r h' =>r= .v (.bool true)∧h' =h:=by
 obtain ⟨l0,rfl,hl0,h640⟩:=dat_ops dx
 obtain ⟨o0,rfl,ho0⟩:=dat_op dy
 have hop:=fun (G:Heap)=>ops_ok l0 25 (by decide) G
 have hoq:=fun (G:Heap)=>opk_ok o0 G
 have h64:∀o∈opsD l0 25,Op64 o:=ops64 h640
 have ho64:Op64 (opkD o0):=ho0
 have hll:(opsD l0 25).length≤25:=by simp [opsD]; omega
 obtain ⟨l,el⟩:∃l,opsD l0 25=l:=⟨_,rfl⟩
 obtain ⟨o,eo⟩:∃o,opkD o0=o:=⟨_,rfl⟩
 rw [el] at hop h64 hll
 rw [eo] at hoq ho64
 simp only [opA,opC] at hoq
 have hfin:∀(G:Heap),Ab.Sub h G→FnOK Tryz.prog 35 [] G fun r h' =>r= .v (.bool true)∧h' =G:=fun G hG=>casesRuns_ok _ (he.sub hG)
 refine FnOK.body hU hm Tryz.func4 rfl (by kernel_rfl) 132 rfl [.tmp 4] rfl (Nat.le_of_ble_eq_true rfl) (fun hwf=> ?_)
 simp -implicitDefEqProofs only [go_sem,opA,opC]
 intro i3 h3
 simp -implicitDefEqProofs only [go_sem]
 refine .last (hm1 i3 _) [0,2,1,3,4] (.hm1 (upd_same ..)) (by kernel_rfl) rfl (by kernel_rfl) rfl ?_
 simp -implicitDefEqProofs only [go_sem,hm1_same]
 refine (hop _).mono fun r h' ⟨e1,e2⟩=> ?_
 subst e1; subst e2
 refine ⟨.hm1 (upd_same ..), ?_⟩
 simp -implicitDefEqProofs only [go_sem,hm1_same,opA,opC]
 refine (hoq _).mono fun r h' ⟨e1,e2⟩=> ?_
 subst e1; subst e2
 refine ⟨.hm1 (upd_same ..), ?_⟩
 simp -implicitDefEqProofs only [go_sem,hm1_same,opA,opC]
 refine inH fun H1 e1=> ?_
 have hs1:Ab.Sub h H1:=by rw [e1]; exact .upd_new h3
 have g3:H1 i3=some (.obj (opC o) 44):=by rw [e1,upd_same]; rfl
 clear e1
 refine (new_ok H1 (he.sub hs1)).pthen ?_
 rw [storeA_sL]
 simp -implicitDefEqProofs only [go_sem,show sL newD= [.v (.int .i64 0), .sl [] .no, .sl [] .no, .sl [] .no, .sl [] .no, .s [111,112,101,110], .v (.bool false), .v (.int .i64 6), .sl [] .no, .sl [] .no, .sl [] .no, .sl [] .no, .v (.int .i64 0)] from rfl]
 intro i5 h5
 have n53:i5≠i3:=fun e=>by rw [e,g3] at h5; cases h5
 simp -implicitDefEqProofs only [go_sem,upd_ne,n53,n53.symm,List.length_map]
 have h5' :h i5=none:=hs1.none h5
 have hpn:pick H1 [i3] i5=none:=by simp [pick,n53]
 refine .intro (fun m ρ H=>∃(i:Nat) (s:StoreD),H i5=some (.obj (sL s) 36)∧Ab.Sub (pick H1 [i3]) H∧Ab.Sub h H∧StoreOK i s∧i≤l.length∧m=l.length - i∧lk ρ 3=some (.ptr i3 0)∧lk ρ 5=some (.ptr i5 0)∧lk ρ 24=some (.sl (l.map opA) .no)∧lk ρ 25=some (.v (.int .i64 l.length))∧lk ρ 26=some (.v (.int .i64 i))) l.length ?_ ?_
 ·refine ⟨0,newD,upd_same .., ?_,hs1.trans (.upd_new h5),store_new,by omega,rfl, ?_, ?_, ?_, ?_, ?_⟩
  ·exact fun j b hj=>pick_sub.trans (.upd_new h5) j b hj
  all_goals simp -implicitDefEqProofs only [go_sem,List.length_map]
 ·rintro m ρ H ⟨i,s,g5,hp3,hs,hS,hi,rfl,r3,r5,r24,r25,r26⟩
  have g3:=hp3 i3 _ (by rw [pick_at (show i3∈ [i3] by simp),g3])
  cases e1:decide ((i:Int)<(l.length:Int))
  ·have hsr:=storeA_sL s
   have hver:=hS.ver
   have hdn:=fun (G:Heap) (hG:Ab.Sub h G)=>done_ok (rdS G s) o hS.few hS.polE ho64.2.2.2 hS.tick64 ⟨hver.1,by omega⟩ (he.sub hG)
   have hS' :=store_done o hS
   have hStays:=stays_done o hS
   have hth:=fun {c:CaseD} (hc:c∈s.cases)=>stays_there (o:=o) hS hc
   have hcase:=fun {c:CaseD} (hc:c∈s.cases) (hne:c.id≠o.case)=>stays_case hS hc hne
   obtain ⟨s',es'⟩:∃s',doneD parseD s o=s' :=⟨_,rfl⟩
   rw [es'] at hdn hS' hStays
   simp only [es'] at hth hcase
   have hsr' :=storeA_sL s'
   obtain ⟨tick,cs,rv,nt,ro,⟨pid,pset,palg,ptgt,prules,pkids,pobls⟩,ver⟩:=s
   simp only [sL,casesA] at g5 hsr
   obtain ⟨tick',cs',rv',nt',ro',⟨pid',pset',palg',ptgt',prules',pkids',pobls'⟩,ver'⟩:=s'
   rw [hsr] at hdn
   rw [hsr'] at hdn
   simp only [opA,opC,sL,casesA] at hdn g3
   simp -implicitDefEqProofs only [go_sem,r3,r5,r24,r25,r26,e1,g5,List.length_map]
   have hcz:(U 57).sz=5:=by simp only [go_sem]
   have hfz:(U 131).sz=4:=by simp only [go_sem]
   have hgz:(U 96).sz=3:=by simp only [go_sem]
   have h64c:cs.length≤64:=hS.ncases
   refine .intro (fun m ρ2 H2=>∃(j:Nat) (y:AV) (xs:List AV),Acc U 57 H H2 y xs∧CRows xs (cs.take j)∧j≤cs.length∧m=cs.length - j∧lk ρ2 3=some (.ptr i3 0)∧lk ρ2 5=some (.ptr i5 0)∧lk ρ2 8=some y∧lk ρ2 35=some (.sl (cs.map caseA) .no)∧lk ρ2 36=some (.v (.int .i64 cs.length))∧lk ρ2 37=some (.v (.int .i64 j))) cs.length ?_ ?_
   ·refine ⟨0, .sl [] .full,[], .full (.refl _),⟨rfl,fun i h1=>(by cases h1)⟩,by omega,rfl, ?_, ?_, ?_, ?_, ?_, ?_⟩<;>simp -implicitDefEqProofs only [go_sem,r3,r5,List.length_map]
   ·rintro m2 ρ2 H2 ⟨j,y,xs,hy,hx,hj,rfl,s3,s5,s8,s35,s36,s37⟩
    have k5:=hy.1 i5 _ g5
    have k3:=hy.1 i3 _ g3
    have hs2:=hs.trans hy.1
    obtain ⟨qy,eqy⟩:=hy.row
    subst eqy
    cases e2:decide ((j:Int)<(cs.length:Int))
    ·have hje:j=cs.length:=by have:=of_decide_eq_false e2; omega
     rw [hje,List.take_length] at hx
     simp -implicitDefEqProofs only [go_sem,s3,s5,s8,s35,s36,s37,e2,k3,k5]
     refine .calls (hm1 i5 _) [0,1,2,3,4,5,6,7,8,9,10] (.hm1 k5) (by kernel_rfl) rfl ?_
     simp -implicitDefEqProofs only [go_sem,s3,s5,s8,s35,s36,s37,hm1_same,rolesA]
     refine ⟨sized_map (f:=roleA) (fun _=>rfl) _,by have:=hS.roles; simp only at this; simp only [List.length_map]; omega, .acc fun y3 G3 hy3 kp3=> ?_⟩
     rw [List.nil_append] at hy3
     have z5:=kp3 i5 _ _ k5
     have z3:=kp3 i3 _ _ k3
     obtain ⟨q3,e3'⟩:=hy3.row
     subst e3'
     refine ⟨.hm1 z5, ?_⟩
     simp -implicitDefEqProofs only [go_sem,s3,s5,s8,s35,s36,s37,hm1_same]
     have hs3:=hs2.trans hy3.1
     simp -implicitDefEqProofs only [go_sem,s3,s5,s8,s35,s36,s37,z5,z3,casesA]
     refine (hdn _ hs3).pthen ?_
     simp -implicitDefEqProofs only [go_sem,s3,s5,s8,s35,s36,s37]
     intro i14 h14
     have n145:i14≠i5:=fun e=>by rw [e,z5] at h14; cases h14
     have n143:i14≠i3:=fun e=>by rw [e,z3] at h14; cases h14
     simp -implicitDefEqProofs only [go_sem,upd_ne,n145,n145.symm,n143,n143.symm,s3,s5,s8,s35,s36,s37,z5,z3]
     refine (cases_ok (crows cs) hx .no qy _).pthen ?_
     rw [cases_refl]
     simp -implicitDefEqProofs only [go_sem,upd_ne,n145,n145.symm,n143,n143.symm,s3,s5,s8,s35,s36,s37,z5,z3,bne_self_eq_false,rolesA]
     refine (sameRole_ok ro ro .no q3 _).pthen ?_
     rw [role_refl]
     simp -implicitDefEqProofs only [go_sem,upd_ne,n145,n145.symm,n143,n143.symm,s3,s5,s8,s35,s36,s37,z5,z3]
     refine .intro (fun m ρ4 H4=>∃(k:Nat),H4 i14=some (.obj (sL ⟨tick',cs',rv',nt',ro',⟨pid',pset',palg',ptgt',prules',pkids',pobls'⟩,ver'⟩) 36)∧H4 i3=some (.obj (opC o) 44)∧Ab.Sub h H4∧k≤xs.length∧m=xs.length - k∧lk ρ4 3=some (.ptr i3 0)∧lk ρ4 8=some (.sl xs qy)∧lk ρ4 14=some (.ptr i14 0)∧lk ρ4 91=some (.sl xs qy)∧lk ρ4 92=some (.v (.int .i64 xs.length))∧lk ρ4 93=some (.v (.int .i64 k))) xs.length ?_ ?_
     ·refine ⟨0,by rw [upd_same]; rfl,by rw [upd_other _ _ n143.symm,z3]; rfl,hs3.trans (.upd_new h14),by omega,rfl, ?_, ?_, ?_, ?_, ?_, ?_⟩<;>simp -implicitDefEqProofs only [go_sem,s3,s8]
     ·rintro m4 ρ4 H4 ⟨k,g14,g3',hs4,hk,rfl,u3,u8,u14,u91,u92,u93⟩
      simp only [opC,sL,casesA] at g14 g3'
      have hxl:xs.length=cs.length:=hx.1
      cases e4:decide ((k:Int)<(xs.length:Int))
      ·have dl:decide ((cs'.length:Int)≤IntKind.i64.wrap ((xs.length:Int)+1))=true:=by
        rw [wr64 _ (by omega)]
        have:=hStays.len
        exact decide_eq_true (by simp only at this; omega)
       simp -implicitDefEqProofs only [go_sem,u3,u8,u14,u91,u92,u93,e4,g14,g3',List.length_map,dl]
       refine (hfin _ hs4).pthen ?_
       simp -implicitDefEqProofs only [go_sem,u3,u8,u14]
       exact .mk _ (.refl _) hs4 ⟨rfl,rfl⟩
      ·have hkl:k<xs.length:=Int.ofNat_lt.1 (of_decide_eq_true e4)
       have hkl2:k<cs.length:=by omega
       have w4:IntKind.i64.wrap ((k:Int)+1)=((k+1:Nat):Int):=by rw [wr64 _ (by omega)]; omega
       obtain ⟨qf,ql,ex⟩:=hx.2 k hkl hkl2
       obtain ⟨c,ec⟩:∃c,cs[k]=c:=⟨_,rfl⟩
       have hcm:c∈cs:=by rw [←ec]; exact List.getElem_mem _
       have hth' :thereD cs' c.id=true:=hth hcm
       have iy:=fun x=>IdxE.eq (sz:=5) k hkl (by rw [ex]; rfl) x
       rw [ex,ec] at iy
       have hca:=fun (G:Heap)=>case_ok (rdS G ⟨tick',cs',rv',nt',ro',⟨pid',pset',palg',ptgt',prules',pkids',pobls'⟩,ver'⟩) c.id hS'.few
       rw [hsr',show thereD (⟨tick',cs',rv',nt',ro',⟨pid',pset',palg',ptgt',prules',pkids',pobls'⟩,ver'⟩:StoreD).cases c.id=true from hth'] at hca
       simp only [sL,casesA] at hca
       obtain ⟨d,ed⟩:∃d,caseD cs' c.id=d:=⟨_,rfl⟩
       simp -implicitDefEqProofs only [go_sem,u3,u8,u14,u91,u92,u93,e4,iy]
       intro i16 h16
       have n164:i16≠i14:=fun e=>by rw [e,g14] at h16; cases h16
       have n163:i16≠i3:=fun e=>by rw [e,g3'] at h16; cases h16
       simp -implicitDefEqProofs only [go_sem,upd_ne,n164,n164.symm,n163,n163.symm,u3,u8,u14,u91,u92,u93,g14,g3']
       refine (hca _).pthen ?_
       rw [ed]
       simp -implicitDefEqProofs only [go_sem,upd_ne,n164,n164.symm,n163,n163.symm,u3,u8,u14,u91,u92,u93,g14,g3',caseA,caseC,fieldsA,logA]
       intro i17 h17
       have n176:=ne_upd h17
       have h17a:=upd_none h17
       have n174:i17≠i14:=fun e=>by rw [e,g14] at h17a; cases h17a
       have n173:i17≠i3:=fun e=>by rw [e,g3'] at h17a; cases h17a
       simp -implicitDefEqProofs only [go_sem,upd_ne,n164,n164.symm,n163,n163.symm,n176,n176.symm,n174,n174.symm,n173,n173.symm,u3,u8,u14,u91,u92,u93,g14,g3']
       by_cases hce:c.id=o.case
       ·have dc:(c.id==o.case)=true:=by simp [hce]
        simp -implicitDefEqProofs only [go_sem,upd_ne,n164,n164.symm,n163,n163.symm,n176,n176.symm,n174,n174.symm,n173,n173.symm,u3,u8,u14,u91,u92,u93,g14,g3',dc,w4]
        refine ⟨_, ?_,k+1,by rw [upd_other _ _ n174.symm,upd_other _ _ n164.symm,g14]; rfl,by rw [upd_other _ _ n173.symm,upd_other _ _ n163.symm,g3']; rfl,(hs4.trans (.upd_new h16)).trans (.upd_new h17),by omega,rfl, ?_, ?_, ?_, ?_, ?_, ?_⟩
        ·omega
        all_goals simp -implicitDefEqProofs only [go_sem,u3,u8,u14,u91,u92,u93,w4]
       ·have dc:(c.id==o.case)=false:=by simp [hce]
        have hdc:d=c:=by rw [←ed]; exact hcase hcm hce
        subst hdc
        simp -implicitDefEqProofs only [go_sem,upd_ne,n164,n164.symm,n163,n163.symm,n176,n176.symm,n174,n174.symm,n173,n173.symm,u3,u8,u14,u91,u92,u93,g14,g3',dc]
        refine (cases_ok (cs:= [d]) (ds:= [d]) ⟨rfl,fun i h1 h2=> ?_⟩ ⟨rfl,fun i h1 h2=> ?_⟩ .full .full _).pthen ?_
        ·have:i=0:=by simpa using h1
         subst this
         exact ⟨qf,ql,rfl⟩
        ·have:i=0:=by simpa using h1
         subst this
         exact ⟨_,_,rfl⟩
        rw [cases_refl]
        simp -implicitDefEqProofs only [go_sem,upd_ne,n164,n164.symm,n163,n163.symm,n176,n176.symm,n174,n174.symm,n173,n173.symm,u3,u8,u14,u91,u92,u93,g14,g3',dc,w4]
        refine ⟨_, ?_,k+1,by rw [upd_other _ _ n174.symm,upd_other _ _ n164.symm,g14]; rfl,by rw [upd_other _ _ n173.symm,upd_other _ _ n163.symm,g3']; rfl,(hs4.trans (.upd_new h16)).trans (.upd_new h17),by omega,rfl, ?_, ?_, ?_, ?_, ?_, ?_⟩
        ·omega
        all_goals simp -implicitDefEqProofs only [go_sem,u3,u8,u14,u91,u92,u93,w4]
    ·have hjl:j<cs.length:=Int.ofNat_lt.1 (of_decide_eq_true e2)
     have w2:IntKind.i64.wrap ((j:Int)+1)=((j+1:Nat):Int):=by rw [wr64 _ (by omega)]; omega
     obtain ⟨c,ec⟩:∃c,cs[j]=c:=⟨_,rfl⟩
     have hC:CaseOK c:=hS.case c (by rw [←ec]; exact List.getElem_mem _)
     have hnf:=hC.nfields
     have hnl:=hC.log2
     have ix:=fun k=>IdxE.eq (xs:=cs.map caseA) (sz:=5) j (by simpa using hjl) (by rw [List.getElem_map]; rfl) k
     rw [List.getElem_map,ec] at ix
     simp only [caseA,caseC,fieldsA,logA] at ix
     simp -implicitDefEqProofs only [go_sem,s3,s5,s8,s35,s36,s37,e2,ix]
     intro i10 h10
     simp -implicitDefEqProofs only [go_sem,s3,s5,s8,s35,s36,s37]
     refine .stage (hm1 i10 _) [0,1,2,4,5,6,3,8,7] [9,10,11] (.hm1 (upd_same ..)) (by kernel_rfl) ?_
     simp -implicitDefEqProofs only [go_sem,s3,s5,s8,s35,s36,s37,hm1_same]
     refine ⟨sized_map (f:=fieldA) (fun _=>rfl) _,by simp only [List.length_map]; omega, .acc fun y1 G1 hy1 kp1=> ?_⟩
     rw [List.nil_append] at hy1
     have m10:=kp1 i10 _ _ (upd_same ..)
     obtain ⟨q1,e1'⟩:=hy1.row
     subst e1'
     refine ⟨.hm1 m10, ?_⟩
     simp -implicitDefEqProofs only [go_sem,s3,s5,s8,s35,s36,s37,hm1_same]
     refine ⟨sized_map (f:=hapA) (fun _=>rfl) _,by simp only [List.length_map]; omega, .acc fun y2 G2 hy2 kp2=> ?_⟩
     rw [List.nil_append] at hy2
     have k10:=kp2 i10 _ _ m10
     obtain ⟨q2,e2'⟩:=hy2.row
     subst e2'
     refine ⟨.hm1 k10,noHeap,(fun _ _ e=>by cases e), ?_⟩
     simp -implicitDefEqProofs only [go_sem,s3,s5,s8,s35,s36,s37,k10]
     refine ⟨fun _ _ e=>(by cases e),fun _ _ e=>(by cases e), ?_⟩
     have hxl:xs.length≤64:=by rw [hx.1,List.length_take]; omega
     refine Acc.app (acc_put (((hy.sub (.upd_new h10)).sub hy1.1).sub hy2.1) (hy.1.none h10) k10 _) (zs:= [.agg [.s c.id, .s c.owner, .s c.state, .sl (c.fields.map fieldA) q1, .sl (c.log.map hapA) q2]]) (by rw [hcz]; decide) (by simp only [go_sem,ne_eq,not_false_eq_true]) (fun k hk=>by exact hk) (by rw [hcz]; exact crows_sized hx) (by rw [hcz]; intro z hz; rw [List.mem_singleton.1 hz]; rfl) (by simp only [go_sem,List.length_cons,List.length_nil]<;>omega) fun yz Gz hyz kpz=> ?_
     simp -implicitDefEqProofs only [go_sem,s3,s5,s8,s35,s36,s37,w2]
     refine ⟨_, ?_,j+1,yz,_,hyz,crows_snoc hx hjl (by rw [ec]; exact ⟨_,_,rfl⟩),by omega,rfl, ?_, ?_, ?_, ?_, ?_, ?_⟩
     ·omega
     all_goals simp -implicitDefEqProofs only [go_sem,s3,s5,s8,s35,s36,s37,w2]
  ·have hlt:i<l.length:=Int.ofNat_lt.1 (of_decide_eq_true e1)
   have w1:IntKind.i64.wrap ((i:Int)+1)=((i+1:Nat):Int):=by rw [wr64 _ (by omega)]; omega
   obtain ⟨p,ep⟩:∃p,l[i]=p:=⟨_,rfl⟩
   have p64:=h64 p (by rw [←ep]; exact List.getElem_mem _)
   have ix:=fun k=>IdxE.eq (xs:=l.map opA) (sz:=12) i (by simpa using hlt) (by rw [List.getElem_map]; rfl) k
   rw [List.getElem_map,ep] at ix
   simp only [opA,opC] at ix
   have hver:=hS.ver
   have hdn:=fun (G:Heap) (hG:Ab.Sub h G)=>done_ok (rdS G s) p hS.few hS.polE p64.2.2.2 hS.tick64 ⟨hver.1,by omega⟩ (he.sub hG)
   have hS' :=store_done p hS
   obtain ⟨s',es'⟩:∃s',doneD parseD s p=s' :=⟨_,rfl⟩
   rw [es'] at hdn hS'
   have hsr:=storeA_sL s
   have hsr' :=storeA_sL s'
   obtain ⟨tick,cs,rv,nt,ro,⟨pid,pset,palg,ptgt,prules,pkids,pobls⟩,ver⟩:=s
   obtain ⟨tick',cs',rv',nt',ro',⟨pid',pset',palg',ptgt',prules',pkids',pobls'⟩,ver'⟩:=s'
   simp only [sL] at g5 hsr hsr'
   rw [hsr] at hdn
   rw [hsr'] at hdn
   simp only [opA,opC] at hdn
   simp -implicitDefEqProofs only [go_sem,r3,r5,r24,r25,r26,e1,ix]
   intro i7 h7
   have n75:i7≠i5:=fun e=>by rw [e,g5] at h7; cases h7
   simp -implicitDefEqProofs only [go_sem,upd_ne,n75,n75.symm,r3,r5,r24,r25,r26,g5]
   refine (hdn _ (hs.trans (.upd_new h7))).pthen ?_
   simp -implicitDefEqProofs only [go_sem,upd_ne,n75,n75.symm,r3,r5,r24,r25,r26,g5,w1]
   refine ⟨_, ?_,i+1,⟨tick',cs',rv',nt',ro',⟨pid',pset',palg',ptgt',prules',pkids',pobls'⟩,ver'⟩,by rw [upd_same]; rfl, ?_,(hs.trans (.upd_new h7)).put h5' _,hS',by omega,rfl, ?_, ?_, ?_, ?_, ?_⟩
   ·omega
   ·exact (hp3.trans (.upd_new h7)).put hpn _
   all_goals simp -implicitDefEqProofs only [go_sem,r3,r5,r24,r25,r26,w1]
theorem casesStays_law (ev:Value) (hev:ev= .nilIface∨∃te pe,ev= .iface te pe) (x y:AV) (dx:Dat U 22 x) (dy:Dat U 44 y):FnOK Tryz.prog 4 [x,y] (tabH [(3,pow10V),(2,[ev])]) fun r _=>r= .v (.bool true):=(casesStays_ok x y dx dy _ (start_err hev)).mono fun _ _ h=>h.1
end Go.Proofs.YtmlhcdeamjkpjaaGreatDoor
