/- The law CasesStays: pack 5 of its texts. -/
import Derived.Lib.ItoaLen
import Derived.Test.YtmlhcdeamjkpjaaGreatDoorPk1
import Derived.Test.YtmlhcdeamjkpjaaGreatDoorPk2
import Derived.Test.YtmlhcdeamjkpjaaGreatDoorPk3
import Derived.Test.YtmlhcdeamjkpjaaGreatDoorPk4
set_option linter.unusedSimpArgs false
set_option linter.unusedVariables false
namespace Go.Proofs.YtmlhcdeamjkpjaaGreatDoor
open Go Go.Ab Go.Bf
theorem uz_k:(U 34).sz=7:=by simp only [go_sem]
theorem ub_k:(U 34).bytes=128:=by simp only [go_sem]
theorem sized_k (l:List PolD):Sized 7 (l.map polA):=fun z hz=>by
 obtain ⟨c,_,rfl⟩:=List.mem_map.1 hz
 cases c; rfl
set_option maxRecDepth 20000 in
theorem kids_p (pol:PoF) (d:Nat) (hd5:d≤5) (hp:∀st,WfP st→st.rules≤64→d≤4→PC 105 [.v (.int .i64 d)] st (polA (pol st).1) (pol st).2) (hpa:∀st,WfP st→Ah st (pol st).2) (hpr:∀st,RchR st (pol st).2)
  (st:PS) (hw:WfP st) (hr:st.rules≤64):PC 155 [.v (.int .i64 d)] st (.sl ((kidsF pol (decide ((4:Int)<(d:Int))) 17 st []).1.map polA) .no) (kidsF pol (decide ((4:Int)<(d:Int))) 17 st []).2:= .of fun G id=>by
 obtain ⟨M,eM⟩:∃M,kidsF pol (decide ((4:Int)<(d:Int))) 17 st []=M:=⟨_,rfl⟩
 rw [eM]
 refine FnOK.body hU hm Tryz.func155 rfl (by kernel_rfl) 33 rfl [.tmp 4] rfl (Nat.le_of_ble_eq_true rfl) (fun hwf=> ?_)
 simp -implicitDefEqProofs only [go_sem]
 have hB:upd G id none id=none:=upd_same ..
 refine .intro (fun m ρ H=>∃(f:Nat) (st' :PS) (l:List PolD) (y:AV),H id=some (PO st')∧Acc U 34 (upd G id none) H y (l.map polA)∧Ah st st'∧st'.rules≤64∧kidsF pol (decide ((4:Int)<(d:Int))) f st' l=M∧f+l.length=17∧l.length≤16∧m=f∧lk ρ 0=some (.ptr id 0)∧lk ρ 1=some (.v (.int .i64 d))∧lk ρ 5=some y) 17 ?_ ?_
 ·refine ⟨17,st,[], .sl ([].map polA) .full,upd_same .., .full (base_start G id _), .refl hw,hr,eM,by simp,by simp,rfl, ?_, ?_, ?_⟩<;>simp -implicitDefEqProofs only [go_sem]<;>rfl
 ·rintro m ρ H ⟨f,st',l,y,hH,hy,ha,hru,hfin,hf,hll,rfl,r0,r1,r5⟩
  have hlen:=ha.1.2.2
  have hpos:=ha.1.1
  obtain ⟨g,rfl⟩:∃g,m=g+1:=⟨m - 1,by omega⟩
  simp -implicitDefEqProofs only [go_sem,r0,r1,r5]
  refine (is_ok st' policyT ha.1).go hH ?_
  rw [upd_self hH]
  have fin:isD st' policyT=false→isD st' setT=false→(l,st')=M:=fun d1 d2=>by
   rw [←hfin]; simp [kidsF,d1,d2]
  cases d1:isD st' policyT
  ·simp -implicitDefEqProofs only [go_sem,r0,r1,r5]
   refine (is_ok st' setT ha.1).go hH ?_
   rw [upd_self hH]
   cases d2:isD st' setT
   ·simp -implicitDefEqProofs only [go_sem,r0,r1,r5]
    have e:=fin d1 d2
    exact .mk (h' :=upd G id (some (PO M.2))) (.sl (M.1.map polA) .no) (by rw [←e]; exact hy.weak) (by rw [←e]; exact base_end hy.1 hH) ⟨rfl,rfl⟩
   ·have hd:isD st' policyT=true∨isD st' setT=true:=by first|exact .inl d1|exact .inr d2
    have eb:=(isD_or hd).1
    have ek:=(isD_or hd).2
    have db:(st'.bad !=0)=false:=by simp [eb]
    have gP:=hH
    unfold PO at gP
    have lim:l.length=16∨decide ((4:Int)<(d:Int))=true→(l,limitD st' true)=M:=fun h=>by
     rw [←hfin]; simp only [kidsF,if_pos hd,if_pos h]
    have hdl:limitD st' true=wrongD st' 6 (hereD st').pos:=rfl
    have hlb:((limitD st' true).bad !=0)=true:=by rw [hdl]; simp [wrongD,eb]
    cases dA:((l.length:Int)==16)
    ·cases dB:decide ((4:Int)<(d:Int))
     ·have nA:l.length≠16:=fun e=>by rw [e] at dA; simp at dA
      have hno:¬(l.length=16∨decide ((4:Int)<(d:Int))=true):=fun h=>h.elim nA (fun e=>by rw [dB] at e; cases e)
      simp only [kidsF,if_pos hd,if_neg hno] at hfin
      rw [dB] at hfin
      have hd4:d≤4:=by have:=of_decide_eq_false dB; omega
      simp -implicitDefEqProofs only [go_sem,r0,r1,r5,hy.len,List.length_map,dA,gP,dB]
      refine (limit_ok st' false ha.1).go hH ?_
      rw [show limitD st' false=st' from rfl,upd_self hH]
      have h3:=hpa st' ha.1
      have hrp:=hp st' ha.1 hru hd4
      have hr3:=rules_pol (hpr st') hru
      obtain ⟨x,st2,e2⟩:∃x st2,pol st' =(x,st2):=⟨_,_,rfl⟩
      rw [e2] at hfin hrp h3 hr3
      obtain ⟨pid,pset,palg,ptgt,prules,pkids,pobls⟩:=x
      simp only [polA] at hrp hfin h3 hr3
      simp -implicitDefEqProofs only [go_sem,r0,r1,r5,gP,db]
      refine hrp.go hH ?_
      simp -implicitDefEqProofs only [go_sem,r0,r1,r5]
      refine (hy.put hB hH _).app (zs:= [polA ⟨pid,pset,palg,ptgt,prules,pkids,pobls⟩]) (by rw [uz_k]; decide) (by rw [ub_k]; decide) (fun k hk=>hk) (by rw [uz_k]; exact sized_k l) (by rw [uz_k]; exact sized_k [⟨pid,pset,palg,ptgt,prules,pkids,pobls⟩]) (by rw [ub_k]; simp; omega) fun y' H2 hy' hk2=> ?_
      have hH2:H2 id=some (PO st2):=hk2 _ _ _ (upd_same ..)
      simp -implicitDefEqProofs only [go_sem,r0,r1,r5]
      refine ⟨_, ?_,g,st2,l++ [⟨pid,pset,palg,ptgt,prules,pkids,pobls⟩],y',hH2,by rw [List.map_append]; exact hy',ha.trans h3,hr3,hfin,by simp; omega,by simp; omega,rfl, ?_, ?_, ?_⟩
      ·omega
      all_goals simp -implicitDefEqProofs only [go_sem,r0,r1,r5]
     ·have e:=lim (.inr dB)
      simp -implicitDefEqProofs only [go_sem,r0,r1,r5,hy.len,List.length_map,dA,gP,dB]
      refine (limit_ok st' true ha.1).go hH ?_
      have g3:upd H id (some (PO (limitD st' true))) id=some (PO (limitD st' true)):=upd_same ..
      unfold PO at g3
      simp -implicitDefEqProofs only [go_sem,r0,r1,r5,g3,hlb,PO]
      exact .mk (h' :=upd G id (some (PO M.2))) (.sl (M.1.map polA) .no) (by rw [←e]; exact hy.weak) (by rw [←e]; exact base_end (hy.put hB hH _).1 (upd_same ..)) ⟨rfl,rfl⟩
    ·have nA:l.length=16:=by have:(l.length:Int)=16:=(by simpa using dA); omega
     have e:=lim (.inl nA)
     simp -implicitDefEqProofs only [go_sem,r0,r1,r5,hy.len,List.length_map,dA,gP]
     refine (limit_ok st' true ha.1).go hH ?_
     have g3:upd H id (some (PO (limitD st' true))) id=some (PO (limitD st' true)):=upd_same ..
     unfold PO at g3
     simp -implicitDefEqProofs only [go_sem,r0,r1,r5,g3,hlb,PO]
     exact .mk (h' :=upd G id (some (PO M.2))) (.sl (M.1.map polA) .no) (by rw [←e]; exact hy.weak) (by rw [←e]; exact base_end (hy.put hB hH _).1 (upd_same ..)) ⟨rfl,rfl⟩
  ·have hd:isD st' policyT=true∨isD st' setT=true:=by first|exact .inl d1|exact .inr d2
   have eb:=(isD_or hd).1
   have ek:=(isD_or hd).2
   have db:(st'.bad !=0)=false:=by simp [eb]
   have gP:=hH
   unfold PO at gP
   have lim:l.length=16∨decide ((4:Int)<(d:Int))=true→(l,limitD st' true)=M:=fun h=>by
    rw [←hfin]; simp only [kidsF,if_pos hd,if_pos h]
   have hdl:limitD st' true=wrongD st' 6 (hereD st').pos:=rfl
   have hlb:((limitD st' true).bad !=0)=true:=by rw [hdl]; simp [wrongD,eb]
   cases dA:((l.length:Int)==16)
   ·cases dB:decide ((4:Int)<(d:Int))
    ·have nA:l.length≠16:=fun e=>by rw [e] at dA; simp at dA
     have hno:¬(l.length=16∨decide ((4:Int)<(d:Int))=true):=fun h=>h.elim nA (fun e=>by rw [dB] at e; cases e)
     simp only [kidsF,if_pos hd,if_neg hno] at hfin
     rw [dB] at hfin
     have hd4:d≤4:=by have:=of_decide_eq_false dB; omega
     simp -implicitDefEqProofs only [go_sem,r0,r1,r5,hy.len,List.length_map,dA,gP,dB]
     refine (limit_ok st' false ha.1).go hH ?_
     rw [show limitD st' false=st' from rfl,upd_self hH]
     have h3:=hpa st' ha.1
     have hrp:=hp st' ha.1 hru hd4
     have hr3:=rules_pol (hpr st') hru
     obtain ⟨x,st2,e2⟩:∃x st2,pol st' =(x,st2):=⟨_,_,rfl⟩
     rw [e2] at hfin hrp h3 hr3
     obtain ⟨pid,pset,palg,ptgt,prules,pkids,pobls⟩:=x
     simp only [polA] at hrp hfin h3 hr3
     simp -implicitDefEqProofs only [go_sem,r0,r1,r5,gP,db]
     refine hrp.go hH ?_
     simp -implicitDefEqProofs only [go_sem,r0,r1,r5]
     refine (hy.put hB hH _).app (zs:= [polA ⟨pid,pset,palg,ptgt,prules,pkids,pobls⟩]) (by rw [uz_k]; decide) (by rw [ub_k]; decide) (fun k hk=>hk) (by rw [uz_k]; exact sized_k l) (by rw [uz_k]; exact sized_k [⟨pid,pset,palg,ptgt,prules,pkids,pobls⟩]) (by rw [ub_k]; simp; omega) fun y' H2 hy' hk2=> ?_
     have hH2:H2 id=some (PO st2):=hk2 _ _ _ (upd_same ..)
     simp -implicitDefEqProofs only [go_sem,r0,r1,r5]
     refine ⟨_, ?_,g,st2,l++ [⟨pid,pset,palg,ptgt,prules,pkids,pobls⟩],y',hH2,by rw [List.map_append]; exact hy',ha.trans h3,hr3,hfin,by simp; omega,by simp; omega,rfl, ?_, ?_, ?_⟩
     ·omega
     all_goals simp -implicitDefEqProofs only [go_sem,r0,r1,r5]
    ·have e:=lim (.inr dB)
     simp -implicitDefEqProofs only [go_sem,r0,r1,r5,hy.len,List.length_map,dA,gP,dB]
     refine (limit_ok st' true ha.1).go hH ?_
     have g3:upd H id (some (PO (limitD st' true))) id=some (PO (limitD st' true)):=upd_same ..
     unfold PO at g3
     simp -implicitDefEqProofs only [go_sem,r0,r1,r5,g3,hlb,PO]
     exact .mk (h' :=upd G id (some (PO M.2))) (.sl (M.1.map polA) .no) (by rw [←e]; exact hy.weak) (by rw [←e]; exact base_end (hy.put hB hH _).1 (upd_same ..)) ⟨rfl,rfl⟩
   ·have nA:l.length=16:=by have:(l.length:Int)=16:=(by simpa using dA); omega
    have e:=lim (.inl nA)
    simp -implicitDefEqProofs only [go_sem,r0,r1,r5,hy.len,List.length_map,dA,gP]
    refine (limit_ok st' true ha.1).go hH ?_
    have g3:upd H id (some (PO (limitD st' true))) id=some (PO (limitD st' true)):=upd_same ..
    unfold PO at g3
    simp -implicitDefEqProofs only [go_sem,r0,r1,r5,g3,hlb,PO]
    exact .mk (h' :=upd G id (some (PO M.2))) (.sl (M.1.map polA) .no) (by rw [←e]; exact hy.weak) (by rw [←e]; exact base_end (hy.put hB hH _).1 (upd_same ..)) ⟨rfl,rfl⟩
end Go.Proofs.YtmlhcdeamjkpjaaGreatDoor

set_option linter.unusedSimpArgs false
set_option linter.unusedVariables false
namespace Go.Proofs.YtmlhcdeamjkpjaaGreatDoor
open Go Go.Ab Go.Bf
set_option maxRecDepth 20000 in
theorem policy_s (r:Nat) (d:Nat) (hrd:r+d=4) (hp:∀st,WfP st→st.rules≤64→d+1≤4→PC 105 [.v (.int .i64 (d+1:Nat))] st (polA (polF r st).1) (polF r st).2) (st:PS) (hw:WfP st) (hr:st.rules≤64):
  PC 105 [.v (.int .i64 d)] st (polA (polF (r+1) st).1) (polF (r+1) st).2:= .of fun G id=>by
 have h1:=ah_among kindWs hw
 have h2:=ah_name h1.1
 have h3:=ah_among algWs h2.1
 have h4:=ah_tgt h3.1
 have h5:Ah _ (headP st).2:=ah_must [123] h4.1
 have ht:=tgt_p _ h3.1
 simp only [tgtA] at ht
 have hrh:=rules_pol (rch_head st).big hr
 have hset:(headP st).1.1=((amongD st kindWs).1==2):=rfl
 have w1:IntKind.i64.wrap ((d:Int)+1)=((d+1:Nat):Int):=by rw [wr64 _ (by omega)]; omega
 have hdp:(r==0)=decide ((4:Int)<((d+1:Nat):Int)):=by
  by_cases h:r=0
  ·rw [decide_eq_true (by omega),h]; rfl
  ·rw [decide_eq_false (by omega)]; simpa using h
 have hk:=kids_p (polF r) (d+1) (by omega) hp (fun _ h=>ah_pol r _ h) (rch_pol r) _ h5.1 hrh
 have hs:=some_p _ h5.1 hrh
 refine FnOK.body hU hm Tryz.func105 rfl (by kernel_rfl) 39 rfl [.cell 4 34] rfl (Nat.le_of_ble_eq_true rfl) (fun hwf=> ?_)
 simp -implicitDefEqProofs only [go_sem]
 intro i4 hi4
 have n4:=ne_upd hi4
 have hG4:G i4=none:=by rw [upd_other _ _ n4] at hi4; exact hi4
 have c4:∀(f:Heap) (x y:Option Blk),upd (upd f id x) i4 y=upd (upd f i4 y) id x:=fun f x y=>upd_comm f x y n4.symm
 simp -implicitDefEqProofs only [go_sem,c4]
 intro i5 hi5
 have n5:=ne_upd hi5
 have hi5' :=hi5
 rw [upd_other _ _ n5] at hi5'
 have n54:=ne_upd hi5'
 have m54:¬i5=i4:=n54
 have m45:¬i4=i5:=n54.symm
 have hG5:G i5=none:=by rw [upd_other _ _ n54] at hi5'; exact hi5'
 have c5:∀(f:Heap) (x y:Option Blk),upd (upd f id x) i5 y=upd (upd f i5 y) id x:=fun f x y=>upd_comm f x y n5.symm
 have c45:∀(f:Heap) (x y:Option Blk),upd (upd f i5 x) i4 y=upd (upd f i4 y) i5 x:=fun f x y=>upd_comm f x y n54
 simp -implicitDefEqProofs only [go_sem,c4,c5,c45,upd_ne,n4,n5,m54,m45]
 refine (among_ok st kindWs .full (by decide) hw).run ?_
 simp -implicitDefEqProofs only [go_sem,c4,c5,c45,upd_ne,n4,n5,m54,m45]
 refine (pname_ok _ h1.1).run ?_
 simp -implicitDefEqProofs only [go_sem,c4,c5,c45,upd_ne,n4,n5,m54,m45]
 refine (among_ok _ algWs .full (by decide) h2.1).run ?_
 simp -implicitDefEqProofs only [go_sem,c4,c5,c45,upd_ne,n4,n5,m54,m45]
 refine ht.run ?_
 simp -implicitDefEqProofs only [go_sem,c4,c5,c45,upd_ne,n4,n5,m54,m45]
 refine (must_ok _ [123] h4.1).run ?_
 cases ds:((amongD st kindWs).1==2)
 ·rw [ds] at hset
  simp -implicitDefEqProofs only [go_sem,c4,c5,c45,upd_ne,n4,n5,m54,m45,ds]
  have eb:bodyP (polF r) (r==0) (headP st).1.1 (headP st).2=(((someF 17 (headP st).2 []).1,[]),(someF 17 (headP st).2 []).2):=by simp [bodyP,hset]
  have hb:=ah_body (fun _ h=>ah_pol r _ h) (r==0) (headP st).1.1 h5.1
  obtain ⟨⟨rl,stb⟩,er⟩:∃x,someF 17 (headP st).2 []=x:=⟨_,rfl⟩
  rw [er] at eb hs
  rw [eb] at hb
  have ho:=duties_p _ (ah_must [125] hb.1).1
  simp only [oblsA] at ho hs
  refine hs.run ?_
  simp -implicitDefEqProofs only [go_sem,c4,c5,c45,upd_ne,n4,n5,m54,m45]
  refine (must_ok _ [125] hb.1).run ?_
  simp -implicitDefEqProofs only [go_sem,c4,c5,c45,upd_ne,n4,n5,m54,m45]
  refine ho.run ?_
  simp -implicitDefEqProofs only [go_sem,c4,c5,c45,upd_ne,n4,n5,m54,m45]
  have efin:polF (r+1) st=(.mk (headP st).1.2.1 false (headP st).1.2.2.1 (headP st).1.2.2.2 rl [] (oblsP (mustD stb [125])).1,(oblsP (mustD stb [125])).2):=by simp only [polF,eb]; rw [hset]
  exact .mk (h' :=upd G id (some (PO (oblsP (mustD stb [125])).2))) (polA (.mk (headP st).1.2.1 false (headP st).1.2.2.1 (headP st).1.2.2.2 rl [] (oblsP (mustD stb [125])).1)) (weak_flat _) (Sub.both (by repeat (first|exact .refl _|refine Sub.put ?_ (by assumption) _)) _ _) ⟨by rw [efin],by rw [efin]⟩
 ·rw [ds] at hset
  simp -implicitDefEqProofs only [go_sem,c4,c5,c45,upd_ne,n4,n5,m54,m45,ds,w1]
  have eb:bodyP (polF r) (r==0) (headP st).1.1 (headP st).2=(([],(kidsF (polF r) (r==0) 17 (headP st).2 []).1),(kidsF (polF r) (r==0) 17 (headP st).2 []).2):=by simp [bodyP,hset]
  have hb:=ah_body (fun _ h=>ah_pol r _ h) (r==0) (headP st).1.1 h5.1
  rw [←hdp] at hk
  obtain ⟨⟨kl,stb⟩,er⟩:∃x,kidsF (polF r) (r==0) 17 (headP st).2 []=x:=⟨_,rfl⟩
  rw [er] at eb hk
  rw [eb] at hb
  have ho:=duties_p _ (ah_must [125] hb.1).1
  simp only [oblsA] at ho hk
  refine hk.run ?_
  simp -implicitDefEqProofs only [go_sem,c4,c5,c45,upd_ne,n4,n5,m54,m45]
  refine (must_ok _ [125] hb.1).run ?_
  simp -implicitDefEqProofs only [go_sem,c4,c5,c45,upd_ne,n4,n5,m54,m45]
  refine ho.run ?_
  simp -implicitDefEqProofs only [go_sem,c4,c5,c45,upd_ne,n4,n5,m54,m45]
  have efin:polF (r+1) st=(.mk (headP st).1.2.1 true (headP st).1.2.2.1 (headP st).1.2.2.2 [] kl (oblsP (mustD stb [125])).1,(oblsP (mustD stb [125])).2):=by simp only [polF,eb]; rw [hset]
  exact .mk (h' :=upd G id (some (PO (oblsP (mustD stb [125])).2))) (polA (.mk (headP st).1.2.1 true (headP st).1.2.2.1 (headP st).1.2.2.2 [] kl (oblsP (mustD stb [125])).1)) (by simp only [polA,kidsA_eq]; exact weak_flat _) (Sub.both (by repeat (first|exact .refl _|refine Sub.put ?_ (by assumption) _)) _ _) ⟨by rw [efin],by rw [efin]⟩
theorem policy_p:∀(r d:Nat),r+d=4→∀st,WfP st→st.rules≤64→PC 105 [.v (.int .i64 d)] st (polA (polF (r+1) st).1) (polF (r+1) st).2
 |0,d,hrd=>fun st hw hr=>policy_s 0 d hrd (fun _ _ _ h=>absurd h (by omega)) st hw hr
 |r+1,d,hrd=>fun st hw hr=>policy_s (r+1) d hrd (fun st hw hr _=>policy_p r (d+1) (by omega) st hw hr) st hw hr
end Go.Proofs.YtmlhcdeamjkpjaaGreatDoor

set_option linter.unusedSimpArgs false
set_option linter.unusedVariables false
namespace Go.Proofs.YtmlhcdeamjkpjaaGreatDoor
open Go Go.Ab Go.Bf
theorem anyOf_ok (l:List (List MatchD)) (h:Heap):FnOK Tryz.prog 258 [anyA l] h fun r h' =>r= .v (.int .i64 (anyE l))∧h' =h:=by
 refine FnOK.body hU hm Tryz.func258 rfl (by kernel_rfl) 25 rfl [.tmp 2] rfl (Nat.le_of_ble_eq_true rfl) (fun hwf=> ?_)
 simp -implicitDefEqProofs only [go_sem,anyA,List.length_map]
 refine (many_ok _ _).pthen ?_
 cases d1:(manyE l.length !=0)
 case true=>
  have e1:manyE l.length≠0:=by simpa using d1
  simp -implicitDefEqProofs only [go_sem,d1]
  exact .same (.refl _) ⟨by simp [anyE,e1,oneOr],rfl⟩
 have e1:manyE l.length=0:=by simpa using d1
 have hlen:=manyE_le e1
 simp -implicitDefEqProofs only [go_sem,d1,List.length_map]
 refine .intro (fun m ρ h' =>Ab.Sub h h'∧∃i:Nat,i≤l.length∧m=l.length - i∧firstE allE (l.take i)=0∧lk ρ 13=some (anyA l)∧lk ρ 14=some (.v (.int .i64 l.length))∧lk ρ 15=some (.v (.int .i64 i))) l.length ?_ ?_
 ·refine ⟨.refl _,0,by omega,rfl,rfl, ?_, ?_, ?_⟩<;>simp -implicitDefEqProofs only [go_sem,anyA]
 ·rintro m ρ h' ⟨hs,i,hi,rfl,hc,r12,r13,r14⟩
  simp -implicitDefEqProofs only [go_sem,r12,r13,r14]
  refine .intro (fun e=> ?_) (fun e=> ?_)
  ·have hlt:i<l.length:=Int.ofNat_lt.1 (of_decide_eq_true e)
   have w1:IntKind.i64.wrap ((i:Int)+1)=((i+1:Nat):Int):=by rw [wr64 _ (by omega)]; omega
   simp -implicitDefEqProofs only [go_sem,r12,r13,r14,anyA]
   refine .at i (by simpa using hlt) (by rw [List.getElem_map]; rfl) ?_
   simp -implicitDefEqProofs only [go_sem,r12,r13,r14,List.getElem_map,allA]
   refine (allOf_ok l[i] _).pthen ?_
   cases d2:(allE l[i] !=0)
   ·have e2:allE l[i]=0:=by simpa using d2
    simp -implicitDefEqProofs only [go_sem,r12,r13,r14,d2,w1]
    refine ⟨_, ?_,hs,i+1,by omega,rfl,firstE_take hlt hc e2, ?_, ?_, ?_⟩
    ·omega
    all_goals simp -implicitDefEqProofs only [go_sem,r12,r13,r14,w1,anyA]
   ·have e2:allE l[i]≠0:=by simpa using d2
    simp -implicitDefEqProofs only [go_sem,r12,r13,r14,d2]
    refine .mk _ (.refl _) hs ⟨?_,rfl⟩
    simp [anyE,e1,firstE_at hlt hc e2,oneOr]
  ·have hge:i=l.length:=by have:=of_decide_eq_false e; omega
   subst hge
   rw [List.take_length] at hc
   simp -implicitDefEqProofs only [go_sem,r12,r13,r14]
   exact .mk _ (.refl _) hs ⟨by simp [anyE,e1,hc,oneOr],rfl⟩
theorem target_ok (l:TgtD) (h:Heap):FnOK Tryz.prog 230 [tgtA l] h fun r h' =>r= .v (.int .i64 (tgtE l))∧h' =h:=by
 refine FnOK.body hU hm Tryz.func230 rfl (by kernel_rfl) 21 rfl [.tmp 2] rfl (Nat.le_of_ble_eq_true rfl) (fun hwf=> ?_)
 cases d1:decide (8<(l.length:Int))
 case true=>
  have e1:8<l.length:=by have:=of_decide_eq_true d1; omega
  simp -implicitDefEqProofs only [go_sem,tgtA,List.length_map,d1]
  exact .same (.refl _) ⟨by simp [tgtE,e1,oneOr],rfl⟩
 have e1:¬8<l.length:=by have:=of_decide_eq_false d1; omega
 simp -implicitDefEqProofs only [go_sem,d1,tgtA,List.length_map]
 refine .intro (fun m ρ h' =>Ab.Sub h h'∧∃i:Nat,i≤l.length∧m=l.length - i∧firstE anyE (l.take i)=0∧lk ρ 9=some (tgtA l)∧lk ρ 10=some (.v (.int .i64 l.length))∧lk ρ 11=some (.v (.int .i64 i))) l.length ?_ ?_
 ·refine ⟨.refl _,0,by omega,rfl,rfl, ?_, ?_, ?_⟩<;>simp -implicitDefEqProofs only [go_sem,tgtA]
 ·rintro m ρ h' ⟨hs,i,hi,rfl,hc,r12,r13,r14⟩
  simp -implicitDefEqProofs only [go_sem,r12,r13,r14]
  refine .intro (fun e=> ?_) (fun e=> ?_)
  ·have hlt:i<l.length:=Int.ofNat_lt.1 (of_decide_eq_true e)
   have w1:IntKind.i64.wrap ((i:Int)+1)=((i+1:Nat):Int):=by rw [wr64 _ (by omega)]; omega
   simp -implicitDefEqProofs only [go_sem,r12,r13,r14,tgtA]
   refine .at i (by simpa using hlt) (by rw [List.getElem_map]; rfl) ?_
   simp -implicitDefEqProofs only [go_sem,r12,r13,r14,List.getElem_map,anyA]
   refine (anyOf_ok l[i] _).pthen ?_
   cases d2:(anyE l[i] !=0)
   ·have e2:anyE l[i]=0:=by simpa using d2
    simp -implicitDefEqProofs only [go_sem,r12,r13,r14,d2,w1]
    refine ⟨_, ?_,hs,i+1,by omega,rfl,firstE_take hlt hc e2, ?_, ?_, ?_⟩
    ·omega
    all_goals simp -implicitDefEqProofs only [go_sem,r12,r13,r14,w1,tgtA]
   ·have e2:anyE l[i]≠0:=by simpa using d2
    simp -implicitDefEqProofs only [go_sem,r12,r13,r14,d2]
    refine .mk _ (.refl _) hs ⟨?_,rfl⟩
    simp [tgtE,e1,firstE_at hlt hc e2,oneOr]
  ·have hge:i=l.length:=by have:=of_decide_eq_false e; omega
   subst hge
   rw [List.take_length] at hc
   simp -implicitDefEqProofs only [go_sem,r12,r13,r14]
   exact .mk _ (.refl _) hs ⟨by simp [tgtE,e1,hc,oneOr],rfl⟩
theorem obls_ok (l:List OblD) (h:Heap):FnOK Tryz.prog 231 [oblsA l] h fun r h' =>r= .v (.int .i64 (oblsE l))∧h' =h:=by
 refine FnOK.body hU hm Tryz.func231 rfl (by kernel_rfl) 39 rfl [.tmp 2] rfl (Nat.le_of_ble_eq_true rfl) (fun hwf=> ?_)
 cases d1:decide (8<(l.length:Int))
 case true=>
  have e1:8<l.length:=by have:=of_decide_eq_true d1; omega
  simp -implicitDefEqProofs only [go_sem,oblsA,List.length_map,d1]
  exact .same (.refl _) ⟨by simp [oblsE,e1,oneOr],rfl⟩
 have e1:¬8<l.length:=by have:=of_decide_eq_false d1; omega
 simp -implicitDefEqProofs only [go_sem,d1,oblsA,List.length_map]
 refine .intro (fun m ρ h' =>Ab.Sub h h'∧∃i:Nat,i≤l.length∧m=l.length - i∧(l.take i).all oblOK=true∧lk ρ 8=some (oblsA l)∧lk ρ 9=some (.v (.int .i64 l.length))∧lk ρ 10=some (.v (.int .i64 i))) l.length ?_ ?_
 ·refine ⟨.refl _,0,by omega,rfl,rfl, ?_, ?_, ?_⟩<;>simp -implicitDefEqProofs only [go_sem,oblsA]
 ·rintro m ρ h' ⟨hs,i,hi,rfl,hc,r12,r13,r14⟩
  simp -implicitDefEqProofs only [go_sem,r12,r13,r14]
  refine .intro (fun e=> ?_) (fun e=> ?_)
  ·have hlt:i<l.length:=Int.ofNat_lt.1 (of_decide_eq_true e)
   have w1:IntKind.i64.wrap ((i:Int)+1)=((i+1:Nat):Int):=by rw [wr64 _ (by omega)]; omega
   simp -implicitDefEqProofs only [go_sem,r12,r13,r14,oblsA]
   refine .at i (by simpa using hlt) (by rw [List.getElem_map]; rfl) ?_
   simp -implicitDefEqProofs only [go_sem,r12,r13,r14,List.getElem_map,oblA]
   intro id hid
   have bad:oblOK l[i]=false→oblsE l=1:=fun hb=>by
    have:l.all oblOK=false:=List.all_eq_false.2 ⟨_,List.getElem_mem hlt,by simp [hb]⟩
    simp [oblsE,e1,this]
   cases c1:decide (l[i].on<1)
   case true=>
    simp -implicitDefEqProofs only [go_sem,r12,r13,r14,c1]
    exact .mk _ (.refl _) (hs.new hid _) ⟨by rw [bad (by have:=of_decide_eq_true c1; simp [oblOK]; omega)]; rfl,rfl⟩
   cases c2:decide (2<l[i].on)
   case true=>
    simp -implicitDefEqProofs only [go_sem,r12,r13,r14,c1,c2]
    exact .mk _ (.refl _) (hs.new hid _) ⟨by rw [bad (by have:=of_decide_eq_true c2; simp [oblOK]; omega)]; rfl,rfl⟩
   cases c3:decide (l[i].kind<1)
   case true=>
    simp -implicitDefEqProofs only [go_sem,r12,r13,r14,c1,c2,c3]
    exact .mk _ (.refl _) (hs.new hid _) ⟨by rw [bad (by have:=of_decide_eq_true c3; simp [oblOK]; omega)]; rfl,rfl⟩
   cases c4:decide (4<l[i].kind)
   case true=>
    simp -implicitDefEqProofs only [go_sem,r12,r13,r14,c1,c2,c3,c4]
    exact .mk _ (.refl _) (hs.new hid _) ⟨by rw [bad (by have:=of_decide_eq_true c4; simp [oblOK]; omega)]; rfl,rfl⟩
   simp -implicitDefEqProofs only [go_sem,r12,r13,r14,c1,c2,c3,c4]
   refine (name_ok _ _).pthen ?_
   cases d2:nameOK l[i].arg
   ·simp -implicitDefEqProofs only [go_sem,r12,r13,r14,d2]
    exact .mk _ (.refl _) (hs.new hid _) ⟨by rw [bad (by simp [oblOK,d2])]; rfl,rfl⟩
   ·simp -implicitDefEqProofs only [go_sem,r12,r13,r14,d2,w1]
    refine ⟨_, ?_,hs.new hid _,i+1,by omega,rfl, ?_, ?_, ?_, ?_⟩
    ·omega
    ·have f1:=of_decide_eq_false c1
     have f2:=of_decide_eq_false c2
     have f3:=of_decide_eq_false c3
     have f4:=of_decide_eq_false c4
     rw [List.take_succ_eq_append_getElem hlt,List.all_append,hc]; simp [oblOK,d2]; omega
    all_goals simp -implicitDefEqProofs only [go_sem,r12,r13,r14,w1,oblsA]
  ·have hge:i=l.length:=by have:=of_decide_eq_false e; omega
   subst hge
   rw [List.take_length] at hc
   simp -implicitDefEqProofs only [go_sem,r12,r13,r14]
   exact .mk _ (.refl _) hs ⟨by simp [oblsE,e1,hc,oneOr],rfl⟩
end Go.Proofs.YtmlhcdeamjkpjaaGreatDoor

set_option linter.unusedSimpArgs false
set_option linter.unusedVariables false
namespace Go.Proofs.YtmlhcdeamjkpjaaGreatDoor
open Go Go.Ab Go.Bf
theorem wants_ok (op:Int) (h:Heap):FnOK Tryz.prog 282 [.v (.int .i64 op)] h fun r h' =>r=(match wantsD op with
  |none=> .tup [.sl [] .no, .v (.bool false)]
  |some w=> .tup [.sl (w.map boolA) .no, .v (.bool true)])∧h' =h:=by
 refine FnOK.body hU hm Tryz.func282 rfl (by kernel_rfl) 35 rfl [.tmp 2, .tmp 3] rfl (Nat.le_of_ble_eq_true rfl) (fun hwf=> ?_)
 cases k1:(op==1)
 case true=>
  have e1:op=1:=by simpa using k1
  simp -implicitDefEqProofs only [go_sem,k1]
  exact .mk _ (weak_strip _) (.refl _) ⟨by simp [wantsD,e1,oneOr,strip,stripL,boolA],rfl⟩
 have n1:op≠1:=by simpa using k1
 cases k2:(op==2)
 case true=>
  have e1:op=2:=by simpa using k2
  simp -implicitDefEqProofs only [go_sem,k1,k2]
  exact .mk _ (weak_strip _) (.refl _) ⟨by simp [wantsD,e1,oneOr,strip,stripL,boolA],rfl⟩
 have n2:op≠2:=by simpa using k2
 cases k3:(op==3)
 case true=>
  have e1:op=3:=by simpa using k3
  simp -implicitDefEqProofs only [go_sem,k1,k2,k3]
  exact .mk _ (weak_strip _) (.refl _) ⟨by simp [wantsD,e1,oneOr,strip,stripL,boolA],rfl⟩
 have n3:op≠3:=by simpa using k3
 cases k4:(op==4)
 case true=>
  have e1:op=4:=by simpa using k4
  simp -implicitDefEqProofs only [go_sem,k1,k2,k3,k4]
  exact .mk _ (weak_strip _) (.refl _) ⟨by simp [wantsD,e1,oneOr,strip,stripL,boolA],rfl⟩
 have n4:op≠4:=by simpa using k4
 cases k5:(op==5)
 case true=>
  have e1:op=5:=by simpa using k5
  simp -implicitDefEqProofs only [go_sem,k1,k2,k3,k4,k5]
  exact .mk _ (weak_strip _) (.refl _) ⟨by simp [wantsD,e1,oneOr,strip,stripL,boolA],rfl⟩
 have n5:op≠5:=by simpa using k5
 cases k11:(op==11)
 case true=>
  have e1:op=11:=by simpa using k11
  simp -implicitDefEqProofs only [go_sem,k1,k2,k3,k4,k5,k11]
  exact .mk _ (weak_strip _) (.refl _) ⟨by simp [wantsD,e1,oneOr,strip,stripL,boolA],rfl⟩
 have n11:op≠11:=by simpa using k11
 cases k6:decide (6≤op)
 ·have n6:=of_decide_eq_false k6
  simp -implicitDefEqProofs only [go_sem,k1,k2,k3,k4,k5,k11,k6]
  exact .mk _ (weak_strip _) (.refl _) ⟨by simp [wantsD,n1,n2,n3,n4,n5,n11,n6,oneOr,strip,stripL,boolA],rfl⟩
 cases k13:decide (op≤13)
 ·have n13:=of_decide_eq_false k13
  simp -implicitDefEqProofs only [go_sem,k1,k2,k3,k4,k5,k11,k6,k13]
  exact .mk _ (weak_strip _) (.refl _) ⟨by simp [wantsD,n1,n2,n3,n4,n5,n11,n13,oneOr,strip,stripL,boolA],rfl⟩
 have n6:=of_decide_eq_true k6
 have n13:=of_decide_eq_true k13
 simp -implicitDefEqProofs only [go_sem,k1,k2,k3,k4,k5,k11,k6,k13]
 exact .mk _ (weak_strip _) (.refl _) ⟨by simp [wantsD,n1,n2,n3,n4,n5,n11,n6,n13,oneOr,strip,stripL,boolA],rfl⟩
theorem fields_ok (n:NodeD) (h:Heap):FnOK Tryz.prog 283 [nodeA n] h fun r h' =>r= .v (.bool (fieldsOK n))∧h' =h:=by
 refine FnOK.body hU hm Tryz.func283 rfl (by kernel_rfl) 37 rfl [.tmp 2] rfl (Nat.le_of_ble_eq_true rfl) (fun hwf=> ?_)
 simp -implicitDefEqProofs only [go_sem,nodeA]
 intro id hid
 have fa:∀x y z:Bool,(x && (y && (z && true)))=(x && (y && (z && true))):=fun _ _ _=>rfl
 cases k1:(n.op==1)
 case true=>
  have e1:n.op=1:=by simpa using k1
  simp -implicitDefEqProofs only [go_sem,k1]
  refine (valRight_ok n.val _).pthen ?_
  cases d0:valOK n.val
  ·simp -implicitDefEqProofs only [go_sem,d0]
   exact .mk _ (.refl _) (.upd_new hid) ⟨by simp [fieldsOK,e1,d0,oneOr],rfl⟩
  ·simp -implicitDefEqProofs only [go_sem,d0]
   exact .mk _ (.refl _) (.upd_new hid) ⟨by simp [fieldsOK,e1,d0,oneOr,zeroAt],rfl⟩
 have n1:n.op≠1:=by simpa using k1
 cases k2:(n.op==2)
 case true=>
  have e1:n.op=2:=by simpa using k2
  simp -implicitDefEqProofs only [go_sem,k1,k2]
  refine (attr_ok n.attr _).pthen ?_
  cases d0:attrOK n.attr
  ·simp -implicitDefEqProofs only [go_sem,d0]
   exact .mk _ (.refl _) (.upd_new hid) ⟨by simp [fieldsOK,e1,d0,oneOr],rfl⟩
  ·simp -implicitDefEqProofs only [go_sem,d0]
   exact .mk _ (.refl _) (.upd_new hid) ⟨by simp [fieldsOK,e1,d0,oneOr,zeroV],rfl⟩
 have n2:n.op≠2:=by simpa using k2
 cases d0:zeroV n.val
 ·have d1:=d0
  unfold zeroV at d1
  simp -implicitDefEqProofs only [go_sem,k1,k2,d1]
  exact .mk _ (.refl _) (.upd_new hid) ⟨by simp [fieldsOK,n1,n2,d0,oneOr],rfl⟩
 ·have d1:=d0
  unfold zeroV at d1
  simp -implicitDefEqProofs only [go_sem,k1,k2,d1]
  exact .mk _ (.refl _) (.upd_new hid) ⟨by simp [fieldsOK,n1,n2,d0,oneOr,zeroAt],rfl⟩
end Go.Proofs.YtmlhcdeamjkpjaaGreatDoor

set_option linter.unusedSimpArgs false
set_option linter.unusedVariables false
namespace Go.Proofs.YtmlhcdeamjkpjaaGreatDoor
open Go Go.Ab Go.Bf
theorem u4:(U 4).sz=1:=by simp only [go_sem]
theorem u4a:(U 4).k.agg=false:=by simp only [go_sem]
theorem u4b:(U 4).bytes=1:=by simp only [go_sem]
theorem u4f:fit (U 4).zero 1:=by simp only [go_sem]
theorem u4n:isAggA (U 4).zero=false:=by simp only [go_sem]
theorem b_one (l:List Bool):One (l.map boolA):=One.map (fun _=>rfl) l
theorem step_ok (y:AV) (st:List Bool) (n:NodeD) (h0 h:Heap) (hy:WrA 4 h0 h y (st.map boolA)) (hl:st.length≤1000000):
  FnOK Tryz.prog 259 [y,nodeA n] h fun r h' =>∃z,r= .tup [z, .v (.bool (stepD st n).isSome)]∧match stepD st n with
   |none=>Ab.Sub h0 h'
   |some st' =>WrA 4 h0 h' z (st'.map boolA):=by
 refine FnOK.body hU hm Tryz.func259 rfl (by kernel_rfl) 60 rfl [.tmp 4, .tmp 5] rfl (Nat.le_of_ble_eq_true rfl) (fun hwf=> ?_)
 simp -implicitDefEqProofs only [go_sem,nodeA]
 intro id hid
 simp -implicitDefEqProofs only [go_sem]
 have hyb:=hy.base hid (some (.obj [.v (.int .i64 n.op), .v (.int .i64 n.val.kind), .v (.int .i64 n.val.n), .s n.val.s, .v (.int .i64 n.attr.cat), .s n.attr.name, .v (.bool n.attr.must)] 186))
 have hw:=wants_ok n.op (upd h id (some (.obj [.v (.int .i64 n.op), .v (.int .i64 n.val.kind), .v (.int .i64 n.val.n), .s n.val.s, .v (.int .i64 n.attr.cat), .s n.attr.name, .v (.bool n.attr.must)] 186)))
 cases hwd:wantsD n.op with
 |none=>
  rw [hwd] at hw
  have hst:stepD st n=none:=by simp [stepD,hwd]
  refine hw.pthen ?_
  simp -implicitDefEqProofs only [go_sem]
  exact .mk _ (.refl _) (.upd_new hid) ⟨_,by rw [hst]; rfl,by rw [hst]; exact hy.1⟩
 |some w=>
  rw [hwd] at hw
  have hwl:w.length≤2:=by
   unfold wantsD at hwd
   repeat' split at hwd
   all_goals first|(cases hwd; simp; done)|(cases hwd)
  refine hw.pthen ?_
  simp -implicitDefEqProofs only [go_sem]
  refine (fields_ok n _).pthen ?_
  cases d1:fieldsOK n
  ·have hst:stepD st n=none:=by simp [stepD,hwd,d1]
   simp -implicitDefEqProofs only [go_sem,d1]
   exact .mk _ (.refl _) (.upd_new hid) ⟨_,by rw [hst]; rfl,by rw [hst]; exact hy.1⟩
  cases d2:decide ((st.length:Int)<(w.length:Int))
  case true=>
   have e2:¬w.length≤st.length:=by have:=of_decide_eq_true d2; omega
   have hst:stepD st n=none:=by simp [stepD,hwd,d1,e2]
   simp -implicitDefEqProofs only [go_sem,d1,hyb.len,List.length_map,d2]
   exact .mk _ (.refl _) (.upd_new hid) ⟨_,by rw [hst]; rfl,by rw [hst]; exact hy.1⟩
  have e2:w.length≤st.length:=by have:=of_decide_eq_false d2; omega
  have w1:IntKind.i64.wrap ((st.length:Int) - (w.length:Int))=((st.length - w.length:Nat):Int):=by rw [wr64 _ (by omega)]; omega
  obtain ⟨hb,ehb⟩:∃hb,upd h id (some (.obj [.v (.int .i64 n.op), .v (.int .i64 n.val.kind), .v (.int .i64 n.val.n), .s n.val.s, .v (.int .i64 n.attr.cat), .s n.attr.name, .v (.bool n.attr.must)] 186))=hb:=⟨_,rfl⟩
  have hbid:hb id=some (.obj [.v (.int .i64 n.op), .v (.int .i64 n.val.kind), .v (.int .i64 n.val.n), .s n.val.s, .v (.int .i64 n.attr.cat), .s n.attr.name, .v (.bool n.attr.must)] 186):=by rw [←ehb]; exact upd_same ..
  have hsub:Ab.Sub h hb:=by rw [←ehb]; exact .upd_new hid
  rw [ehb] at hyb⊢
  simp -implicitDefEqProofs only [go_sem,d1,hyb.len,List.length_map,d2,w1]
  refine .intro (fun m ρ h' =>h' =hb∧∃i:Nat,i≤w.length∧m=w.length - i∧(∀j,j<i→st[st.length - w.length+j]? =w[j]?)∧lk ρ 0=some y∧lk ρ 3=some (.ptr id 0)∧lk ρ 8=some (.v (.int .i64 ((st.length - w.length:Nat):Int)))∧lk ρ 36=some (.sl (w.map boolA) .no)∧lk ρ 37=some (.v (.int .i64 w.length))∧lk ρ 38=some (.v (.int .i64 i))) w.length ?_ ?_
  ·refine ⟨rfl,0,by omega,rfl,fun j hj=>(by omega), ?_, ?_, ?_, ?_, ?_, ?_⟩<;>simp -implicitDefEqProofs only [go_sem]
  ·rintro m ρ h' ⟨rfl,i,hi,rfl,hc,r0,r3,r8,r36,r37,r38⟩
   simp -implicitDefEqProofs only [go_sem,r0,r3,r8,r36,r37,r38]
   refine .intro (fun e=> ?_) (fun e=> ?_)
   ·have hlt:i<w.length:=Int.ofNat_lt.1 (of_decide_eq_true e)
    have w2:IntKind.i64.wrap ((i:Int)+1)=((i+1:Nat):Int):=by rw [wr64 _ (by omega)]; omega
    have w3:IntKind.i64.wrap (((st.length - w.length:Nat):Int)+(i:Int))=((st.length - w.length+i:Nat):Int):=by rw [wr64 _ (by omega)]; omega
    have hlt2:st.length - w.length+i<st.length:=by omega
    simp -implicitDefEqProofs only [go_sem,r0,r3,r8,r36,r37,r38]
    refine .at i (by simpa using hlt) (by rw [List.getElem_map]; rfl) ?_
    simp -implicitDefEqProofs only [go_sem,r0,r3,r8,r36,r37,r38,List.getElem_map,boolA,w3]
    refine hyb.idx (b_one st) (st.length - w.length+i) rfl (by simpa using hlt2) u4 u4a fun p hp=> ?_
    simp -implicitDefEqProofs only [go_sem,r0,r3,r8,r36,r37,r38,hp _,List.getElem_map,boolA]
    cases d3:(st[st.length - w.length+i]==w[i])
    ·have hst:stepD st n=none:=by
      have:st.drop (st.length - w.length)≠w:=fun hh=>by
       have:=congrArg (fun q=>q[i]?) hh
       simp only [List.getElem?_drop,List.getElem?_eq_getElem hlt,List.getElem?_eq_getElem hlt2,Option.some.injEq] at this
       rw [this] at d3; simp at d3
      simp [stepD,hwd,this]
     simp -implicitDefEqProofs only [go_sem,r0,r3,r8,r36,r37,r38,d3]
     exact .mk _ (.refl _) hsub ⟨_,by rw [hst]; rfl,by rw [hst]; exact hy.1⟩
    ·simp -implicitDefEqProofs only [go_sem,r0,r3,r8,r36,r37,r38,d3,w2]
     refine ⟨_, ?_,rfl,i+1,by omega,rfl,fun j hj=> ?_, ?_, ?_, ?_, ?_, ?_, ?_⟩
     ·omega
     ·by_cases hji:j=i
      ·subst hji
       rw [List.getElem?_eq_getElem hlt2,List.getElem?_eq_getElem hlt]
       simpa using d3
      ·exact hc j (by omega)
     all_goals simp -implicitDefEqProofs only [go_sem,r0,r3,r8,r36,r37,r38,w2]
   ·have hge:i=w.length:=by have:=of_decide_eq_false e; omega
    subst hge
    have hdrop:st.drop (st.length - w.length)=w:=by
     apply List.ext_getElem?
     intro j
     rw [List.getElem?_drop]
     by_cases hj:j<w.length
     ·exact hc j hj
     ·rw [List.getElem?_eq_none (by omega),List.getElem?_eq_none (by omega)]
    have hst:stepD st n=some (st.take (st.length - w.length)++ [n.op==2]):=by
     simp [stepD,hwd,d1,e2,hdrop]
    simp -implicitDefEqProofs only [go_sem,r0,r3,r8,r36,r37,r38]
    refine .calls (hm1 id _) [0,1,2,3,4,5,6,7,8,9] (.hm1 hbid) (by kernel_rfl) rfl ?_
    simp -implicitDefEqProofs only [go_sem,r0,r3,r8,r36,r37,r38]
    refine hyb.cut (x:= .i64) (st.length - w.length) (by simp -implicitDefEqProofs only [go_sem,r0,r3,r8]) rfl (by simp) u4 fun z hz=> ?_
    rw [←List.map_take] at hz
    simp -implicitDefEqProofs only [go_sem,r0,r3,r8,r36,r37,r38,hm1_same]
    refine hz.app (zs:= [.v (.bool (n.op==2))]) (b_one _) (b_one [n.op==2]) u4 (by rw [u4b]; decide) u4f u4n (fun k hk=>hk) (by rw [u4b]; simp; omega) fun z' h2 hz' => ?_
    refine ⟨fun j b hj=>((Sub.hm1 (upd_same ..)).trans hz'.1) j b hj, ?_⟩
    simp -implicitDefEqProofs only [go_sem,r0,r3,r8]
    have hz2:=hz'.less (Sub.upd_new (hy.1.none hid))
    refine .same (.refl _) ⟨z',by rw [hst]; rfl, ?_⟩
    rw [hst]
    simp only [List.map_append]
    exact hz2
theorem condE_none {l:List NodeD} (h:l.length≤32) (hs:stepsD [] l=none):exprE l=1:=by
 simp [exprE,hs,Nat.not_lt.2 h]
theorem stepsD_split (st:List Bool):∀(l:List NodeD) (i:Nat),stepsD st l=(match stepsD st (l.take i) with
  |none=>none
  |some st' =>stepsD st' (l.drop i))
 | [],i=>by simp [stepsD]
 |n::r,0=>by simp [stepsD]
 |n::r,i+1=>by
  simp only [List.take_succ_cons,List.drop_succ_cons,stepsD]
  cases stepD st n with
  |none=>rfl
  |some st' =>simp only; exact stepsD_split st' r i
theorem stepsD_length (st st' :List Bool) (l:List NodeD) (h:stepsD st l=some st'):st'.length≤st.length+l.length:=by
 induction l generalizing st with
 |nil=>simp only [stepsD,Option.some.injEq] at h; subst h; simp
 |cons n r ih=>
  simp only [stepsD] at h
  cases hs:stepD st n with
  |none=>rw [hs] at h; cases h
  |some s2=>
   rw [hs] at h
   have:=ih s2 h
   unfold stepD at hs
   split at hs
   ·cases hs
   ·split at hs
    ·cases hs
     simp at this⊢
     omega
    ·cases hs
theorem expr_ok (l:List NodeD) (h:Heap):FnOK Tryz.prog 232 [condA l] h fun r h' =>r= .v (.int .i64 (exprE l))∧h' =h:=by
 refine FnOK.body hU hm Tryz.func232 rfl (by kernel_rfl) 38 rfl [.tmp 2] rfl (Nat.le_of_ble_eq_true rfl) (fun hwf=> ?_)
 cases d1:decide (32<(l.length:Int))
 case true=>
  have e1:32<l.length:=by have:=of_decide_eq_true d1; omega
  simp -implicitDefEqProofs only [go_sem,condA,List.length_map,d1]
  exact .same (.refl _) ⟨by simp [exprE,e1,oneOr],rfl⟩
 have e1:l.length≤32:=by have:=of_decide_eq_false d1; omega
 simp -implicitDefEqProofs only [go_sem,condA,List.length_map,d1]
 refine .intro (fun m ρ h' =>∃(i:Nat) (y:AV) (st:List Bool),WrA 4 h h' y (st.map boolA)∧stepsD [] (l.take i)=some st∧i≤l.length∧m=l.length - i∧
  lk ρ 0=some (condA l)∧lk ρ 3=some y∧lk ρ 10=some (condA l)∧lk ρ 11=some (.v (.int .i64 l.length))∧lk ρ 12=some (.v (.int .i64 i))) l.length ?_ ?_
 ·refine ⟨0,_,[], .nil (.refl _),rfl,by omega,rfl, ?_, ?_, ?_, ?_, ?_⟩<;>simp -implicitDefEqProofs only [go_sem,condA]
 ·rintro m ρ h' ⟨i,y,st,hy,hst,hi,rfl,r0,r3,r10,r11,r12⟩
  have hsl:=stepsD_length _ _ _ hst
  have hsl:st.length≤i:=by simpa [Nat.min_eq_left hi] using hsl
  simp -implicitDefEqProofs only [go_sem,r0,r3,r10,r11,r12]
  refine .intro (fun e=> ?_) (fun e=> ?_)
  ·have hlt:i<l.length:=Int.ofNat_lt.1 (of_decide_eq_true e)
   have w1:IntKind.i64.wrap ((i:Int)+1)=((i+1:Nat):Int):=by rw [wr64 _ (by omega)]; omega
   have hnx:stepsD [] (l.take (i+1))=stepD st l[i]:=by
    rw [stepsD_split [] _ i,List.take_take,Nat.min_eq_left (by omega),hst,List.take_succ_eq_append_getElem hlt,List.drop_append_of_le_length (by simp; omega),List.drop_of_length_le (by simp; omega)]
    simp only [List.nil_append,stepsD]
    cases stepD st l[i]<;>rfl
   simp -implicitDefEqProofs only [go_sem,r0,r3,r10,r11,r12,condA]
   refine .at i (by simpa using hlt) (by rw [List.getElem_map]; rfl) ?_
   simp -implicitDefEqProofs only [go_sem,r0,r3,r10,r11,r12,List.getElem_map,nodeA]
   intro id hid
   simp -implicitDefEqProofs only [go_sem,r0,r3,r10,r11,r12]
   have hyb:=hy.sub (Sub.upd_new (k:=some (.obj [.v (.int .i64 l[i].op), .v (.int .i64 l[i].val.kind), .v (.int .i64 l[i].val.n), .s l[i].val.s, .v (.int .i64 l[i].attr.cat), .s l[i].attr.name, .v (.bool l[i].attr.must)] 186)) hid)
   refine (step_ok y st l[i] h _ hyb (by omega)).mono fun r h2 ⟨z,e2,hz⟩=> ?_
   subst e2
   cases hsd:stepD st l[i] with
   |none=>
    rw [hsd] at hz
    simp -implicitDefEqProofs only [go_sem,r0,r3,r10,r11,r12,Option.isSome_none]
    refine .mk _ (.refl _) hz ⟨?_,rfl⟩
    rw [condE_none e1 (by rw [stepsD_split [] l (i+1),hnx,hsd])]; rfl
   |some st' =>
    rw [hsd] at hz hnx
    simp -implicitDefEqProofs only [go_sem,r0,r3,r10,r11,r12,Option.isSome_some,w1]
    refine ⟨_, ?_,i+1,z,st',hz,hnx,by omega,rfl, ?_, ?_, ?_, ?_, ?_⟩
    ·omega
    all_goals simp -implicitDefEqProofs only [go_sem,r0,r3,r10,r11,r12,w1,condA]
  ·have hge:i=l.length:=by have:=of_decide_eq_false e; omega
   subst hge
   rw [List.take_length] at hst
   have he:exprE l=if l= []∨st= [false] then 0 else 1:=by
    simp only [exprE,hst]
    rw [if_neg (by omega)]
   cases d2:decide (0<(l.length:Int))
   ·have e2:l= []:=by have:=of_decide_eq_false d2; exact List.length_eq_zero_iff.1 (by omega)
    simp -implicitDefEqProofs only [go_sem,r0,r3,r10,r11,r12,condA,List.length_map,d2]
    exact .mk _ (.refl _) hy.1 ⟨by rw [he,if_pos (.inl e2)]; rfl,rfl⟩
   have e2:l≠ []:=by rintro rfl; simp at d2
   cases d3:((st.length:Int) !=1)
   case true=>
    have e3:st≠ [false]:=by rintro rfl; simp at d3
    simp -implicitDefEqProofs only [go_sem,r0,r3,r10,r11,r12,condA,List.length_map,d2,hy.len,d3]
    exact .mk _ (.refl _) hy.1 ⟨by rw [he,if_neg (by simp [e2,e3])]; rfl,rfl⟩
   have e3:st.length=1:=by
    have:(st.length:Int)=1:=by simpa using d3
    omega
   obtain ⟨b,rfl⟩:=List.length_eq_one_iff.1 e3
   simp -implicitDefEqProofs only [go_sem,r0,r3,r10,r11,r12,condA,List.length_map,d2,hy.len,d3]
   refine hy.idx (b_one [b]) 0 rfl (by simp) u4 u4a fun p hp=> ?_
   simp -implicitDefEqProofs only [go_sem,r0,r3,r10,r11,r12,hp _,List.getElem_map,boolA,List.getElem_cons_zero]
   cases b
   ·simp -implicitDefEqProofs only [go_sem,r0,r3,r10,r11,r12]
    exact .mk _ (.refl _) hy.1 ⟨by rw [he,if_pos (.inr rfl)]; rfl,rfl⟩
   ·simp -implicitDefEqProofs only [go_sem,r0,r3,r10,r11,r12]
    exact .mk _ (.refl _) hy.1 ⟨by rw [he,if_neg (by simp [e2])]; rfl,rfl⟩
end Go.Proofs.YtmlhcdeamjkpjaaGreatDoor

set_option linter.unusedSimpArgs false
set_option linter.unusedVariables false
namespace Go.Proofs.YtmlhcdeamjkpjaaGreatDoor
open Go Go.Ab Go.Bf
def Keeps (S:List Nat) (h h' :Heap):Prop:=∀j k,j∉S→h j=some k→h' j=some k
theorem Keeps.refl (S:List Nat) (h:Heap):Keeps S h h:=fun _ _ _ e=>e
theorem Keeps.trans {S:List Nat} {a b c:Heap} (x:Keeps S a b) (y:Keeps S b c):Keeps S a c:=fun j k hj e=>y j k hj (x j k hj e)
theorem Keeps.of {S:List Nat} {a b:Heap} (x:Ab.Sub a b):Keeps S a b:=fun j k _ e=>x j k e
theorem Keeps.upd {S:List Nat} {a:Heap} {i:Nat} {b:Option Blk} (hi:i∈S):Keeps S a (Ab.upd a i b):=fun j k hj e=>by
 rw [upd_other _ _ (fun e=>hj (by rw [e]; exact hi))]; exact e
def WalkAt (h:Heap) (idw mid:Nat) (m:MetD):Prop:=h idw=some (.obj [.mp mid, .v (.int .i64 m.rules)] 208)∧h mid=some (.mp (setA m.met))∧(∀l∈m.met,l.length≤16)∧m.rules≤64
theorem WalkAt.ne {h:Heap} {idw mid:Nat} {m:MetD} (hw:WalkAt h idw mid m):idw≠mid:=fun e=>by
 have h1:=hw.1; have h2:=hw.2.1
 rw [e,h2] at h1; cases h1
theorem WalkAt.keep {h h' :Heap} {idw mid:Nat} {m:MetD} (hw:WalkAt h idw mid m) (hs:Ab.Sub h h'):WalkAt h' idw mid m:=⟨hs _ _ hw.1,hs _ _ hw.2.1,hw.2.2⟩
theorem u158:(U 323).sz=0:=by simp only [go_sem]
theorem nameOK_len {s:Txt} (h:nameOK s=true):s.length≤16:=by
 simp [nameOK] at h; exact h.2
theorem meetD_none {m:MetD} {s:Txt} (h:s∈m.met∨nameOK s=false):meetD m s=none:=by
 unfold meetD
 rw [if_neg]
 rintro ⟨h1,h2⟩
 rcases h with h|h
 ·exact h1 h
 ·rw [h] at h2; cases h2
theorem wname_ok (idw mid:Nat) (m:MetD) (s:Txt) (h:Heap) (hw:WalkAt h idw mid m):FnOK Tryz.prog 229 [.ptr idw 0, .s s] h fun r h' =>match meetD m s with
  |none=>r= .v (.bool false)∧Ab.Sub h h'
  |some m' =>r= .v (.bool true)∧Keeps [idw,mid] h h'∧WalkAt h' idw mid m' :=by
 refine FnOK.body hU hm Tryz.func229 rfl (by kernel_rfl) 28 rfl [.tmp 4] rfl (Nat.le_of_ble_eq_true rfl) (fun hwf=> ?_)
 obtain ⟨w1,w2,w3,w4⟩:=hw
 have hlen:s.length≤maxLen:=by
  have:=hwf (.s s) (by simp)
  simp only [wfA,wf1,lim] at this
  unfold maxLen; omega
 have hkeys:KeysA .str (setA m.met):=keysA_set fun l hl=>by have:=w3 l hl; unfold maxLen; omega
 simp -implicitDefEqProofs only [go_sem,w1,w2,u158]
 refine ⟨hlen, .inr (by simp only [go_sem]),hkeys, ?_⟩
 rw [lookM_set _ _ u158]
 simp -implicitDefEqProofs only [go_sem,w1,w2]
 intro idv hidv
 simp -implicitDefEqProofs only [go_sem]
 cases d1:decide (s∈m.met)
 case true=>
  have hm:=meetD_none (.inl (of_decide_eq_true d1))
  simp -implicitDefEqProofs only [go_sem,d1]
  rw [hm]
  exact .mk _ (.refl _) (.upd_new hidv) ⟨rfl, .refl _⟩
 have e1:=of_decide_eq_false d1
 simp -implicitDefEqProofs only [go_sem,d1]
 refine (name_ok _ _).pthen ?_
 cases d2:nameOK s
 ·have hm:=meetD_none (m:=m) (.inr d2)
  simp -implicitDefEqProofs only [go_sem,d1,d2]
  rw [hm]
  exact .mk _ (.refl _) (.upd_new hidv) ⟨rfl, .refl _⟩
 have hm:meetD m s=some ⟨m.met++ [s],m.rules⟩:=by simp [meetD,e1,d2]
 have hne:=WalkAt.ne ⟨w1,w2,w3,w4⟩
 have n1:idw≠idv:=fun e=>by rw [e,hidv] at w1; cases w1
 have n2:mid≠idv:=fun e=>by rw [e,hidv] at w2; cases w2
 have w1' :upd h idv (some (.obj [] 323)) idw=some (.obj [.mp mid, .v (.int .i64 m.rules)] 208):=by rw [upd_other _ _ n1]; exact w1
 have w2' :upd h idv (some (.obj [] 323)) mid=some (.mp (setA m.met)):=by rw [upd_other _ _ n2]; exact w2
 simp -implicitDefEqProofs only [go_sem,d1,d2,w1',w2']
 refine ⟨hlen,hkeys, ?_⟩
 rw [setM_new e1]
 rw [hm]
 refine .same (.refl _) ⟨rfl,(Keeps.of (.upd_new hidv)).trans (.upd (by simp)), ?_, ?_, ?_,w4⟩
 ·rw [upd_other _ _ hne]; exact w1'
 ·rw [upd_same]
 ·intro l hl
  rcases List.mem_append.1 hl with hl|hl
  ·exact w3 l hl
  ·rw [List.mem_singleton.1 hl]; exact nameOK_len d2
theorem wrule_ok (idw mid:Nat) (m:MetD) (r:RuleD) (h:Heap) (hw:WalkAt h idw mid m):FnOK Tryz.prog 187 [.ptr idw 0,ruleA r] h fun x h' =>x= .v (.int .i64 (ruleW m r).err)∧Keeps [idw,mid] h h'∧∀m',ruleW m r= .ok m'→WalkAt h' idw mid m' :=by
 refine FnOK.body hU hm Tryz.func187 rfl (by kernel_rfl) 39 rfl [.tmp 4] rfl (Nat.le_of_ble_eq_true rfl) (fun hwf=> ?_)
 simp -implicitDefEqProofs only [go_sem,ruleA,tgtA,condA,oblsA]
 intro id hid
 have n1:idw≠id:=fun e=>by have:=hw.1; rw [e,hid] at this; cases this
 have n2:mid≠id:=fun e=>by have:=hw.2.1; rw [e,hid] at this; cases this
 have hwb:=hw.keep (Sub.upd_new (k:=some (.obj [.s r.id, .v (.bool r.deny), .sl (r.tgt.map anyA) .no, .sl (r.cond.map nodeA) .no, .sl (r.obls.map oblA) .no] 181)) hid)
 have hk0:Keeps [idw,mid] h (upd h id (some (.obj [.s r.id, .v (.bool r.deny), .sl (r.tgt.map anyA) .no, .sl (r.cond.map nodeA) .no, .sl (r.obls.map oblA) .no] 181))):= .of (.upd_new hid)
 simp -implicitDefEqProofs only [go_sem]
 obtain ⟨hb,ehb⟩:∃hb,upd h id (some (.obj [.s r.id, .v (.bool r.deny), .sl (r.tgt.map anyA) .no, .sl (r.cond.map nodeA) .no, .sl (r.obls.map oblA) .no] 181))=hb:=⟨_,rfl⟩
 have hbid:hb id=some (.obj [.s r.id, .v (.bool r.deny), .sl (r.tgt.map anyA) .no, .sl (r.cond.map nodeA) .no, .sl (r.obls.map oblA) .no] 181):=by rw [←ehb]; exact upd_same ..
 rw [ehb] at hwb hk0⊢
 refine (wname_ok idw mid m r.id hb hwb).mono fun x h2 hx=> ?_
 cases hm:meetD m r.id with
 |none=>
  rw [hm] at hx
  obtain ⟨rfl,hs⟩:=hx
  have hr:ruleW m r= .bad 1:=by simp [ruleW,hm]
  simp -implicitDefEqProofs only [go_sem]
  exact .same (.refl _) ⟨by rw [hr]; rfl,hk0.trans (.of hs),fun m' h' =>by rw [hr] at h'; cases h'⟩
 |some m1=>
  rw [hm] at hx
  obtain ⟨rfl,hk,hw2⟩:=hx
  have g2:=hw2.1
  have hle:=hw2.2.2.2
  have hid2:h2 id=some (.obj [.s r.id, .v (.bool r.deny), .sl (r.tgt.map anyA) .no, .sl (r.cond.map nodeA) .no, .sl (r.obls.map oblA) .no] 181):=hk id _ (by simp [n1.symm,n2.symm]) hbid
  have w1:IntKind.i64.wrap ((m1.rules:Int)+1)=((m1.rules+1:Nat):Int):=by rw [wr64 _ (by omega)]; omega
  have hk3:Keeps [idw,mid] h (upd h2 idw (some (.obj [.mp mid, .v (.int .i64 ((m1.rules+1:Nat):Int))] 208))):=(hk0.trans hk).trans (.upd (by simp))
  have hid3:upd h2 idw (some (.obj [.mp mid, .v (.int .i64 ((m1.rules+1:Nat):Int))] 208)) id=some (.obj [.s r.id, .v (.bool r.deny), .sl (r.tgt.map anyA) .no, .sl (r.cond.map nodeA) .no, .sl (r.obls.map oblA) .no] 181):=by
   rw [upd_other _ _ n1.symm]; exact hid2
  cases d1:decide (64<((m1.rules+1:Nat):Int))
  case true=>
   have e1:m1.rules+1>64:=by have:=of_decide_eq_true d1; omega
   have hr:ruleW m r= .bad 6:=by simp [ruleW,hm,e1]
   simp -implicitDefEqProofs only [go_sem,g2,w1,d1]
   exact .same (.refl _) ⟨by rw [hr]; rfl,hk3,fun m' h' =>by rw [hr] at h'; cases h'⟩
  have e1:¬m1.rules+1>64:=by have:=of_decide_eq_false d1; omega
  have hr:ruleW m r=need (tgtE r.tgt) (need (exprE r.cond) (need (oblsE r.obls) (.ok ⟨m1.met,m1.rules+1⟩))):=by simp [ruleW,hm,e1]
  simp -implicitDefEqProofs only [go_sem,g2,w1,d1,hid3]
  refine (target_ok r.tgt _).pthen ?_
  cases d2:(tgtE r.tgt !=0)
  case true=>
   have e2:tgtE r.tgt≠0:=by simpa using d2
   have hr:ruleW m r= .bad (tgtE r.tgt):=by rw [hr]; simp [need,e2]
   simp -implicitDefEqProofs only [go_sem,d2]
   exact .same (.refl _) ⟨by rw [hr]; rfl,hk3,fun m' h' =>by rw [hr] at h'; cases h'⟩
  have e2:tgtE r.tgt=0:=by simpa using d2
  rw [need,if_pos e2] at hr
  simp -implicitDefEqProofs only [go_sem,d2,hid3]
  refine (expr_ok r.cond _).pthen ?_
  cases d3:(exprE r.cond !=0)
  case true=>
   have e3:exprE r.cond≠0:=by simpa using d3
   have hr:ruleW m r= .bad (exprE r.cond):=by rw [hr]; simp [need,e3]
   simp -implicitDefEqProofs only [go_sem,d3]
   exact .same (.refl _) ⟨by rw [hr]; rfl,hk3,fun m' h' =>by rw [hr] at h'; cases h'⟩
  have e3:exprE r.cond=0:=by simpa using d3
  rw [need,if_pos e3] at hr
  simp -implicitDefEqProofs only [go_sem,d3,hid3]
  refine (obls_ok r.obls _).pthen ?_
  simp -implicitDefEqProofs only [go_sem]
  by_cases e4:oblsE r.obls=0
  ·rw [need,if_pos e4] at hr
   refine .same (.refl _) ⟨by rw [hr,e4]; rfl,hk3,fun m' h' => ?_⟩
   rw [hr] at h'
   cases h'
   refine ⟨upd_same .., ?_,hw2.2.2.1,by show m1.rules+1≤64; omega⟩
   rw [upd_other _ _ hw2.ne.symm]; exact hw2.2.1
  ·rw [need,if_neg e4] at hr
   exact .same (.refl _) ⟨by rw [hr]; rfl,hk3,fun m' h' =>by rw [hr] at h'; cases h'⟩
end Go.Proofs.YtmlhcdeamjkpjaaGreatDoor

set_option linter.unusedSimpArgs false
set_option linter.unusedVariables false
namespace Go.Proofs.YtmlhcdeamjkpjaaGreatDoor
open Go Go.Ab Go.Bf
theorem headW_none {m:MetD} {id:Txt} {set:Bool} {alg:Int} {tgt:TgtD} {nr nk:Nat} {obls:List OblD} (h:meetD m id=none):headW m id set alg tgt nr nk obls= .bad 1:=by
 simp [headW,h]
theorem whead_ok (idw mid:Nat) (m:MetD) (id:Txt) (set:Bool) (alg:Int) (tgt:TgtD) (rules:List RuleD) (kids:List PolD) (obls:List OblD) (h:Heap) (hw:WalkAt h idw mid m):
  FnOK Tryz.prog 186 [.ptr idw 0,polA (.mk id set alg tgt rules kids obls)] h fun x h' =>x= .v (.int .i64 (headW m id set alg tgt rules.length kids.length obls).err)∧Keeps [idw,mid] h h'∧∀m',headW m id set alg tgt rules.length kids.length obls= .ok m'→WalkAt h' idw mid m' :=by
 refine FnOK.body hU hm Tryz.func186 rfl (by kernel_rfl) 68 rfl [.tmp 4] rfl (Nat.le_of_ble_eq_true rfl) (fun hwf=> ?_)
 simp -implicitDefEqProofs only [go_sem,polA,tgtA,oblsA]
 intro ip hip
 have n1:idw≠ip:=fun e=>by have:=hw.1; rw [e,hip] at this; cases this
 have n2:mid≠ip:=fun e=>by have:=hw.2.1; rw [e,hip] at this; cases this
 have hwb:=hw.keep (Sub.upd_new (k:=some (.obj [.s id, .v (.bool set), .v (.int .i64 alg), .sl (tgt.map anyA) .no, .sl (rules.map ruleA) .no, .sl (kidsA kids) .no, .sl (obls.map oblA) .no] 34)) hip)
 have hk0:Keeps [idw,mid] h (upd h ip (some (.obj [.s id, .v (.bool set), .v (.int .i64 alg), .sl (tgt.map anyA) .no, .sl (rules.map ruleA) .no, .sl (kidsA kids) .no, .sl (obls.map oblA) .no] 34))):= .of (.upd_new hip)
 simp -implicitDefEqProofs only [go_sem]
 obtain ⟨hb,ehb⟩:∃hb,upd h ip (some (.obj [.s id, .v (.bool set), .v (.int .i64 alg), .sl (tgt.map anyA) .no, .sl (rules.map ruleA) .no, .sl (kidsA kids) .no, .sl (obls.map oblA) .no] 34))=hb:=⟨_,rfl⟩
 have hbip:hb ip=some (.obj [.s id, .v (.bool set), .v (.int .i64 alg), .sl (tgt.map anyA) .no, .sl (rules.map ruleA) .no, .sl (kidsA kids) .no, .sl (obls.map oblA) .no] 34):=by rw [←ehb]; exact upd_same ..
 rw [ehb] at hwb hk0⊢
 refine (wname_ok idw mid m id hb hwb).mono fun x h2 hx=> ?_
 cases hm:meetD m id with
 |none=>
  rw [hm] at hx
  obtain ⟨rfl,hs⟩:=hx
  simp -implicitDefEqProofs only [go_sem]
  exact .same (.refl _) ⟨by rw [headW_none hm]; rfl,hk0.trans (.of hs),fun m' h' =>by rw [headW_none hm] at h'; cases h'⟩
 |some m1=>
  rw [hm] at hx
  obtain ⟨rfl,hk,hw2⟩:=hx
  have hip2:h2 ip=some (.obj [.s id, .v (.bool set), .v (.int .i64 alg), .sl (tgt.map anyA) .no, .sl (rules.map ruleA) .no, .sl (kidsA kids) .no, .sl (obls.map oblA) .no] 34):=hk ip _ (by simp [n1.symm,n2.symm]) hbip
  have hkk:=hk0.trans hk
  have bad:∀e,headW m id set alg tgt rules.length kids.length obls= .bad e→(.v (.int .i64 e):AV)= .v (.int .i64 (headW m id set alg tgt rules.length kids.length obls).err)∧Keeps [idw,mid] h h2∧∀m',headW m id set alg tgt rules.length kids.length obls= .ok m'→WalkAt h2 idw mid m' :=
   fun e he=>⟨by rw [he]; rfl,hkk,fun m' h' =>by rw [he] at h'; cases h'⟩
  cases d1:decide (alg<1)
  case true=>
   have e1:=of_decide_eq_true d1
   simp -implicitDefEqProofs only [go_sem,d1,hip2]
   exact .same (.refl _) (bad 1 (by simp [headW,hm,e1]))
  cases d2:decide (6<alg)
  case true=>
   have e2:=of_decide_eq_true d2
   simp -implicitDefEqProofs only [go_sem,d1,d2,hip2]
   exact .same (.refl _) (bad 1 (by simp [headW,hm,e2]))
  have e1:¬(alg<1∨alg>6):=by have:=of_decide_eq_false d1; have:=of_decide_eq_false d2; omega
  have tail:∀(z:Unit),¬(set=true∧rules.length>0∨set=false∧(kids.length>0∨alg=4))→headW m id set alg tgt rules.length kids.length obls=need (tgtE tgt) (need (oblsE obls) (if rules.length>16∨kids.length>16 then .bad 6 else .ok m1)):=fun _ hh=>by
   simp only [headW,hm]
   rw [if_neg e1,if_neg hh]
  cases set
  ·cases d4:decide (0<(kids.length:Int))
   case true=>
    have f4:0<kids.length:=by have:=of_decide_eq_true d4; omega
    simp -implicitDefEqProofs only [go_sem,d1,d2,hip2,kidsA_eq,List.length_map,d4]
    exact .same (.refl _) (bad 1 (by simp [headW,hm,e1,f4]))
   have g4:¬0<kids.length:=by have:=of_decide_eq_false d4; omega
   cases d5:(alg==4)
   case true=>
    have f5:alg=4:=by simpa using d5
    simp -implicitDefEqProofs only [go_sem,d1,d2,hip2,kidsA_eq,List.length_map,d4,d5]
    exact .same (.refl _) (bad 1 (by simp [headW,hm,f5]))
   have g5:alg≠4:=by simpa using d5
   simp -implicitDefEqProofs only [go_sem,d1,d2,hip2,kidsA_eq,List.length_map,d4,d5]
   have e3:=tail () (by simp [g4,g5])
   refine (target_ok tgt _).pthen ?_
   cases t1:(tgtE tgt !=0)
   case true=>
    have f1:tgtE tgt≠0:=by simpa using t1
    simp -implicitDefEqProofs only [go_sem,t1]
    exact .same (.refl _) (bad _ (by rw [e3]; simp [need,f1]))
   have f1:tgtE tgt=0:=by simpa using t1
   simp -implicitDefEqProofs only [go_sem,t1,hip2]
   refine (obls_ok obls _).pthen ?_
   cases t2:(oblsE obls !=0)
   case true=>
    have f2:oblsE obls≠0:=by simpa using t2
    simp -implicitDefEqProofs only [go_sem,t2]
    exact .same (.refl _) (bad _ (by rw [e3]; simp [need,f1,f2]))
   have f2:oblsE obls=0:=by simpa using t2
   cases t3:decide (16<(rules.length:Int))
   case true=>
    have f3:16<rules.length:=by have:=of_decide_eq_true t3; omega
    simp -implicitDefEqProofs only [go_sem,t2,hip2,List.length_map,t3]
    exact .same (.refl _) (bad _ (by rw [e3]; simp [need,f1,f2,f3]))
   have f3:¬16<rules.length:=by have:=of_decide_eq_false t3; omega
   cases t4:decide (16<(kids.length:Int))
   case true=>
    have f4:16<kids.length:=by have:=of_decide_eq_true t4; omega
    simp -implicitDefEqProofs only [go_sem,t2,hip2,List.length_map,t3,kidsA_eq,t4]
    exact .same (.refl _) (bad _ (by rw [e3]; simp [need,f1,f2,f4]))
   have f4:¬16<kids.length:=by have:=of_decide_eq_false t4; omega
   simp -implicitDefEqProofs only [go_sem,t2,hip2,List.length_map,t3,kidsA_eq,t4]
   have e4:headW m id false alg tgt rules.length kids.length obls= .ok m1:=by rw [e3]; simp [need,f1,f2,f3,f4]
   exact .same (.refl _) ⟨by rw [e4]; rfl,hkk,fun m' h' =>by rw [e4] at h'; cases h'; exact hw2⟩
  ·cases d3:decide (0<(rules.length:Int))
   case true=>
    have f3:0<rules.length:=by have:=of_decide_eq_true d3; omega
    simp -implicitDefEqProofs only [go_sem,d1,d2,hip2,List.length_map,d3]
    exact .same (.refl _) (bad 1 (by simp [headW,hm,e1,f3]))
   have g3:¬0<rules.length:=by have:=of_decide_eq_false d3; omega
   simp -implicitDefEqProofs only [go_sem,d1,d2,hip2,List.length_map,d3]
   have e3:=tail () (by simp [g3])
   refine (target_ok tgt _).pthen ?_
   cases t1:(tgtE tgt !=0)
   case true=>
    have f1:tgtE tgt≠0:=by simpa using t1
    simp -implicitDefEqProofs only [go_sem,t1]
    exact .same (.refl _) (bad _ (by rw [e3]; simp [need,f1]))
   have f1:tgtE tgt=0:=by simpa using t1
   simp -implicitDefEqProofs only [go_sem,t1,hip2]
   refine (obls_ok obls _).pthen ?_
   cases t2:(oblsE obls !=0)
   case true=>
    have f2:oblsE obls≠0:=by simpa using t2
    simp -implicitDefEqProofs only [go_sem,t2]
    exact .same (.refl _) (bad _ (by rw [e3]; simp [need,f1,f2]))
   have f2:oblsE obls=0:=by simpa using t2
   cases t3:decide (16<(rules.length:Int))
   case true=>
    have f3:16<rules.length:=by have:=of_decide_eq_true t3; omega
    simp -implicitDefEqProofs only [go_sem,t2,hip2,List.length_map,t3]
    exact .same (.refl _) (bad _ (by rw [e3]; simp [need,f1,f2,f3]))
   have f3:¬16<rules.length:=by have:=of_decide_eq_false t3; omega
   cases t4:decide (16<(kids.length:Int))
   case true=>
    have f4:16<kids.length:=by have:=of_decide_eq_true t4; omega
    simp -implicitDefEqProofs only [go_sem,t2,hip2,List.length_map,t3,kidsA_eq,t4]
    exact .same (.refl _) (bad _ (by rw [e3]; simp [need,f1,f2,f4]))
   have f4:¬16<kids.length:=by have:=of_decide_eq_false t4; omega
   simp -implicitDefEqProofs only [go_sem,t2,hip2,List.length_map,t3,kidsA_eq,t4]
   have e4:headW m id true alg tgt rules.length kids.length obls= .ok m1:=by rw [e3]; simp [need,f1,f2,f3,f4]
   exact .same (.refl _) ⟨by rw [e4]; rfl,hkk,fun m' h' =>by rw [e4] at h'; cases h'; exact hw2⟩
end Go.Proofs.YtmlhcdeamjkpjaaGreatDoor

set_option linter.unusedSimpArgs false
set_option linter.unusedVariables false
namespace Go.Proofs.YtmlhcdeamjkpjaaGreatDoor
open Go Go.Ab Go.Bf
theorem polA_len (k:PolD):(polA k).cells.length=7:=by
 cases k; simp [polA,AV.cells]
theorem polW_deep {m:MetD} {d:Nat} {p:PolD} (h:4<d):polW m d p= .bad 6:=by
 cases p; simp [polW,h]
theorem polW_head {m:MetD} {d:Nat} {id:Txt} {set:Bool} {alg:Int} {tgt:TgtD} {rules:List RuleD} {kids:List PolD} {obls:List OblD} {e:Int} (h:¬4<d)
  (hh:headW m id set alg tgt rules.length kids.length obls= .bad e):polW m d (.mk id set alg tgt rules kids obls)= .bad e:=by
 simp [polW,h,hh]
theorem polW_rules {m m1:MetD} {d:Nat} {id:Txt} {set:Bool} {alg:Int} {tgt:TgtD} {rules:List RuleD} {kids:List PolD} {obls:List OblD} {e:Int} (h:¬4<d)
  (hh:headW m id set alg tgt rules.length kids.length obls= .ok m1) (hr:rulesW m1 rules= .bad e):polW m d (.mk id set alg tgt rules kids obls)= .bad e:=by
 simp [polW,h,hh,hr]
theorem polW_kids {m m1 m2:MetD} {d:Nat} {id:Txt} {set:Bool} {alg:Int} {tgt:TgtD} {rules:List RuleD} {kids:List PolD} {obls:List OblD} (h:¬4<d)
  (hh:headW m id set alg tgt rules.length kids.length obls= .ok m1) (hr:rulesW m1 rules= .ok m2):polW m d (.mk id set alg tgt rules kids obls)=kidsW m2 (d+1) kids:=by
 simp [polW,h,hh,hr]
theorem polW_bad:∀(n d:Nat) (m:MetD) (p:PolD) (e:Int),d+n=5→polW m d p= .bad e→e≠0
 |0,d,m,p,e,hd,h=>by rw [polW_deep (by omega)] at h; cases h; decide
 |n+1,d,m, .mk id set alg tgt rules kids obls,e,hd,h=>by
  by_cases h4:4<d
  ·rw [polW_deep h4] at h; cases h; decide
  cases hh:headW m id set alg tgt rules.length kids.length obls with
  |bad e' =>rw [polW_head h4 hh] at h; cases h; exact headW_bad hh
  |ok m1=>
   cases hr:rulesW m1 rules with
   |bad e' =>
    rw [polW_rules h4 hh hr] at h; cases h
    clear hh hd
    induction rules generalizing m1 with
    |nil=>cases hr
    |cons r l ih=>
     simp only [rulesW] at hr
     cases hx:ruleW m1 r with
     |bad x=>rw [hx] at hr; cases hr; exact ruleW_bad hx
     |ok m2=>rw [hx] at hr; exact ih m2 hr
   |ok m2=>
    rw [polW_kids h4 hh hr] at h
    have ih:=fun m p e=>polW_bad n (d+1) m p e (by omega)
    clear hh hr
    induction kids generalizing m2 with
    |nil=>cases h
    |cons k l ihk=>
     simp only [kidsW] at h
     cases hx:polW m2 (d+1) k with
     |bad x=>rw [hx] at h; cases h; exact ih _ _ _ hx
     |ok m3=>rw [hx] at h; exact ihk m3 h
theorem need_ok {e:Int} {w:Went} {m:MetD} (h:need e w= .ok m):e=0∧w= .ok m:=by
 unfold need at h
 split at h
 ·exact ⟨by assumption,h⟩
 ·cases h
theorem headW_ok {m m1:MetD} {id:Txt} {set:Bool} {alg:Int} {tgt:TgtD} {nr nk:Nat} {obls:List OblD} (h:headW m id set alg tgt nr nk obls= .ok m1):
  meetD m id=some m1∧1≤alg∧alg≤6∧(set=true→nr=0)∧(set=false→nk=0∧alg≠4)∧tgtE tgt=0∧oblsE obls=0∧nr≤16∧nk≤16:=by
 unfold headW at h
 split at h
 ·cases h
 rename_i m2 hm
 split at h
 ·cases h
 split at h
 ·cases h
 rename_i h1 h2
 obtain ⟨h3,h⟩:=need_ok h
 obtain ⟨h4,h⟩:=need_ok h
 split at h
 ·cases h
 cases h
 have h5:(set=true→nr=0)∧(set=false→nk=0∧alg≠4):=by
  cases set<;>simp at h2⊢<;>omega
 exact ⟨hm,by omega,by omega,h5.1,h5.2,h3,h4,by omega,by omega⟩
theorem wpol_ok:∀(n d:Nat),d+n=5→∀(idw mid:Nat) (m:MetD) (p:PolD) (h:Heap),WalkAt h idw mid m→
  FnOK Tryz.prog 140 [.ptr idw 0,polA p, .v (.int .i64 d)] h fun x h' =>x= .v (.int .i64 (polW m d p).err)∧Keeps [idw,mid] h h'∧∀m',polW m d p= .ok m'→WalkAt h' idw mid m'
 |n,d,hd,idw,mid,m, .mk id set alg tgt rules kids obls,h,hw=>by
  refine FnOK.body hU hm Tryz.func140 rfl (by kernel_rfl) 52 rfl [.tmp 6] rfl (Nat.le_of_ble_eq_true rfl) (fun hwf=> ?_)
  simp -implicitDefEqProofs only [go_sem,polA,tgtA,oblsA]
  intro ip hip
  have n1:idw≠ip:=fun e=>by have:=hw.1; rw [e,hip] at this; cases this
  have n2:mid≠ip:=fun e=>by have:=hw.2.1; rw [e,hip] at this; cases this
  have hwb:=hw.keep (Sub.upd_new (k:=some (.obj [.s id, .v (.bool set), .v (.int .i64 alg), .sl (tgt.map anyA) .no, .sl (rules.map ruleA) .no, .sl (kidsA kids) .no, .sl (obls.map oblA) .no] 34)) hip)
  have hk0:Keeps [idw,mid] h (upd h ip (some (.obj [.s id, .v (.bool set), .v (.int .i64 alg), .sl (tgt.map anyA) .no, .sl (rules.map ruleA) .no, .sl (kidsA kids) .no, .sl (obls.map oblA) .no] 34))):= .of (.upd_new hip)
  obtain ⟨hb,ehb⟩:∃hb,upd h ip (some (.obj [.s id, .v (.bool set), .v (.int .i64 alg), .sl (tgt.map anyA) .no, .sl (rules.map ruleA) .no, .sl (kidsA kids) .no, .sl (obls.map oblA) .no] 34))=hb:=⟨_,rfl⟩
  have hbip:hb ip=some (.obj [.s id, .v (.bool set), .v (.int .i64 alg), .sl (tgt.map anyA) .no, .sl (rules.map ruleA) .no, .sl (kidsA kids) .no, .sl (obls.map oblA) .no] 34):=by rw [←ehb]; exact upd_same ..
  rw [ehb] at hwb hk0⊢
  cases d0:decide (4<(d:Int))
  case true=>
   have e0:4<d:=by have:=of_decide_eq_true d0; omega
   simp -implicitDefEqProofs only [go_sem,d0]
   exact .same (.refl _) ⟨by rw [polW_deep e0]; rfl,hk0,fun m' h' =>by rw [polW_deep e0] at h'; cases h'⟩
  have e0:¬4<d:=by have:=of_decide_eq_false d0; omega
  simp -implicitDefEqProofs only [go_sem,d0,hbip]
  have hhead:=whead_ok idw mid m id set alg tgt rules kids obls hb hwb
  simp only [polA,tgtA,oblsA] at hhead
  refine hhead.mono fun x h2 ⟨ex,hk,hw2⟩=> ?_
  subst ex
  have hk2:=hk0.trans hk
  cases hh:headW m id set alg tgt rules.length kids.length obls with
  |bad e=>
   have hne:=headW_bad hh
   have t1:(e !=0)=true:=by simpa using hne
   simp -implicitDefEqProofs only [go_sem,Went.err,t1]
   exact .same (.refl _) ⟨by rw [polW_head e0 hh]; rfl,hk2,fun m' h' =>by rw [polW_head e0 hh] at h'; cases h'⟩
  |ok m1=>
   have hw2:=hw2 _ hh
   have hle:=(headW_ok hh).2.2.2.2.2.2.2
   have hip2:=hk ip _ (by simp [n1.symm,n2.symm]) hbip
   simp -implicitDefEqProofs only [go_sem,Went.err,hip2,List.length_map]
   refine .intro (fun k ρ h' =>∃(i:Nat) (mi:MetD),i≤rules.length∧k=rules.length - i∧rulesW m1 (rules.take i)= .ok mi∧Keeps [idw,mid] h h'∧WalkAt h' idw mid mi∧
    h' ip=some (.obj [.s id, .v (.bool set), .v (.int .i64 alg), .sl (tgt.map anyA) .no, .sl (rules.map ruleA) .no, .sl (kidsA kids) .no, .sl (obls.map oblA) .no] 34)∧
    lk ρ 0=some (.ptr idw 0)∧lk ρ 2=some (.v (.int .i64 d))∧lk ρ 4=some (.ptr ip 0)∧lk ρ 23=some (.sl (rules.map ruleA) .no)∧lk ρ 24=some (.v (.int .i64 rules.length))∧lk ρ 25=some (.v (.int .i64 i))) rules.length ?_ ?_
   ·refine ⟨0,m1,by omega,rfl,rfl,hk2,hw2,hip2, ?_, ?_, ?_, ?_, ?_, ?_⟩<;>simp -implicitDefEqProofs only [go_sem]
   ·rintro k ρ h' ⟨i,mi,hi,rfl,hri,hki,hwi,hipi,r0,r2,r4,r23,r24,r25⟩
    simp -implicitDefEqProofs only [go_sem,r0,r2,r4,r23,r24,r25]
    refine .intro (fun e=> ?_) (fun e=> ?_)
    ·have hlt:i<rules.length:=Int.ofNat_lt.1 (of_decide_eq_true e)
     have w1:IntKind.i64.wrap ((i:Int)+1)=((i+1:Nat):Int):=by rw [wr64 _ (by omega)]; omega
     simp -implicitDefEqProofs only [go_sem,r0,r2,r4,r23,r24,r25]
     refine .at i (by simpa using hlt) (by rw [List.getElem_map]; rfl) ?_
     simp -implicitDefEqProofs only [go_sem,r0,r2,r4,r23,r24,r25,List.getElem_map,ruleA]
     intro ir hir
     have hrl:=wrule_ok idw mid mi rules[i] _ (hwi.keep (Sub.upd_new (k:=some (.obj [.s rules[i].id, .v (.bool rules[i].deny),tgtA rules[i].tgt,condA rules[i].cond,oblsA rules[i].obls] 181)) hir))
     simp only [ruleA] at hrl
     simp -implicitDefEqProofs only [go_sem,r0,r2,r4,r23,r24,r25]
     refine hrl.mono fun x h3 ⟨ex,hk3,hw3⟩=> ?_
     subst ex
     have hk4:=(hki.trans (.of (Sub.upd_new hir))).trans hk3
     have hip3:=hk3 ip _ (by simp [n1.symm,n2.symm]) ((Sub.upd_new hir) _ _ hipi)
     cases hx:ruleW mi rules[i] with
     |bad x=>
      have t1:(x !=0)=true:=by simpa using ruleW_bad hx
      simp -implicitDefEqProofs only [go_sem,r0,r2,r4,r23,r24,r25,Went.err,t1]
      have hp:=polW_rules (d:=d) (kids:=kids) e0 hh (rulesW_stop hlt hri hx)
      exact .same (.refl _) ⟨by rw [hp]; rfl,hk4,fun m' h' =>by rw [hp] at h'; cases h'⟩
     |ok m3=>
      simp -implicitDefEqProofs only [go_sem,r0,r2,r4,r23,r24,r25,Went.err,w1]
      refine ⟨_, ?_,i+1,m3,by omega,rfl,by rw [rulesW_next hlt hri,hx],hk4,hw3 _ hx,hip3, ?_, ?_, ?_, ?_, ?_, ?_⟩
      ·omega
      all_goals simp -implicitDefEqProofs only [go_sem,r0,r2,r4,r23,r24,r25,w1]
    ·have hge:i=rules.length:=by have:=of_decide_eq_false e; omega
     subst hge
     rw [List.take_length] at hri
     have hpk:=polW_kids (d:=d) (kids:=kids) e0 hh hri
     simp -implicitDefEqProofs only [go_sem,r0,r2,r4,r23,r24,r25,hipi,kidsA_eq,List.length_map]
     refine .intro (fun k ρ h' =>∃(i:Nat) (mj:MetD),i≤kids.length∧k=kids.length - i∧kidsW mi (d+1) (kids.take i)= .ok mj∧Keeps [idw,mid] h h'∧WalkAt h' idw mid mj∧
      lk ρ 0=some (.ptr idw 0)∧lk ρ 2=some (.v (.int .i64 d))∧lk ρ 37=some (.sl (kids.map polA) .no)∧lk ρ 38=some (.v (.int .i64 kids.length))∧lk ρ 39=some (.v (.int .i64 i))) kids.length ?_ ?_
     ·refine ⟨0,mi,by omega,rfl,rfl,hki,hwi, ?_, ?_, ?_, ?_, ?_⟩<;>simp -implicitDefEqProofs only [go_sem,r0,r2,r4]
     ·rintro k ρ h' ⟨i,mj,hi,rfl,hkj,hki,hwi,r0,r2,r37,r38,r39⟩
      simp -implicitDefEqProofs only [go_sem,r0,r2,r37,r38,r39]
      refine .intro (fun e=> ?_) (fun e=> ?_)
      ·have hlt:i<kids.length:=Int.ofNat_lt.1 (of_decide_eq_true e)
       have w1:IntKind.i64.wrap ((i:Int)+1)=((i+1:Nat):Int):=by rw [wr64 _ (by omega)]; omega
       have w2:IntKind.i64.wrap ((d:Int)+1)=((d+1:Nat):Int):=by rw [wr64 _ (by omega)]; omega
       obtain ⟨n',rfl⟩:∃n',n=n' +1:=⟨n - 1,by omega⟩
       have hrec:=wpol_ok n' (d+1) (by omega) idw mid mj kids[i]
       cases hki' :kids[i] with
       |mk kid kset kalg ktgt krules kkids kobls=>
       rw [hki'] at hrec
       simp only [polA,tgtA,oblsA] at hrec
       simp -implicitDefEqProofs only [go_sem,r0,r2,r37,r38,r39]
       refine .at i (by simpa using hlt) (by rw [List.getElem_map]; exact polA_len _) ?_
       simp -implicitDefEqProofs only [go_sem,r0,r2,r37,r38,r39,List.getElem_map,hki',polA,tgtA,oblsA]
       intro ir hir
       simp -implicitDefEqProofs only [go_sem,r0,r2,r37,r38,r39,w2]
       refine (hrec _ (hwi.keep (Sub.upd_new hir))).mono fun x h3 ⟨ex,hk3,hw3⟩=> ?_
       subst ex
       have hk4:=(hki.trans (.of (Sub.upd_new hir))).trans hk3
       cases hx:polW mj (d+1) (.mk kid kset kalg ktgt krules kkids kobls) with
       |bad x=>
        have t1:(x !=0)=true:=by simpa using polW_bad n' (d+1) _ _ _ (by omega) hx
        simp -implicitDefEqProofs only [go_sem,r0,r2,r37,r38,r39,Went.err,t1]
        have hp:=kidsW_stop hlt hkj (by rw [hki']; exact hx)
        exact .same (.refl _) ⟨by rw [hpk,hp]; rfl,hk4,fun m' h' =>by rw [hpk,hp] at h'; cases h'⟩
       |ok m3=>
        simp -implicitDefEqProofs only [go_sem,r0,r2,r37,r38,r39,Went.err,w1]
        refine ⟨_, ?_,i+1,m3,by omega,rfl,by rw [kidsW_next hlt hkj,hki',hx],hk4,hw3 _ hx, ?_, ?_, ?_, ?_, ?_⟩
        ·omega
        all_goals simp -implicitDefEqProofs only [go_sem,r0,r2,r37,r38,r39,w1]
      ·have hge:i=kids.length:=by have:=of_decide_eq_false e; omega
       subst hge
       rw [List.take_length] at hkj
       simp -implicitDefEqProofs only [go_sem,r0,r2,r37,r38,r39]
       exact .same (.refl _) ⟨by rw [hpk,hkj]; rfl,hki,fun m' h' =>by rw [hpk,hkj] at h'; cases h'; exact hwi⟩
theorem ne_new {h:Heap} {i j:Nat} {b:Blk} (e:upd h i (some b) j=none):j≠i:=fun hh=>by
 subst hh; rw [upd_same] at e; cases e
theorem right_ok (p:PolD) (h:Heap):FnOK Tryz.prog 95 [polA p] h fun r h' =>r= .v (.int .i64 (rightE p))∧h' =h:=by
 cases p with
 |mk id set alg tgt rules kids obls=>
 refine FnOK.body hU hm Tryz.func95 rfl (by kernel_rfl) 10 rfl [.tmp 2] rfl (Nat.le_of_ble_eq_true rfl) (fun hwf=> ?_)
 simp -implicitDefEqProofs only [go_sem,polA,tgtA,oblsA]
 intro ip hip
 simp -implicitDefEqProofs only [go_sem]
 intro im him
 simp -implicitDefEqProofs only [go_sem]
 intro iw hiw
 have n1:=ne_new him
 have n2:=ne_new hiw
 have hiw1:=hiw
 rw [upd_other _ _ n2] at hiw1
 have n3:=ne_new hiw1
 have s1:Ab.Sub h (upd (upd (upd h ip (some (.obj [.s id, .v (.bool set), .v (.int .i64 alg), .sl (tgt.map anyA) .no, .sl (rules.map ruleA) .no, .sl (kidsA kids) .no, .sl (obls.map oblA) .no] 34))) im (some (.mp []))) iw (some (.obj [.mp im, .v (.int .i64 0)] 208))):=
  ((Sub.upd_new hip).trans (.upd_new him)).trans (.upd_new hiw)
 obtain ⟨h3,e3⟩:∃h3,upd (upd (upd h ip (some (.obj [.s id, .v (.bool set), .v (.int .i64 alg), .sl (tgt.map anyA) .no, .sl (rules.map ruleA) .no, .sl (kidsA kids) .no, .sl (obls.map oblA) .no] 34))) im (some (.mp []))) iw (some (.obj [.mp im, .v (.int .i64 0)] 208))=h3:=⟨_,rfl⟩
 have g1:h3 ip=some (.obj [.s id, .v (.bool set), .v (.int .i64 alg), .sl (tgt.map anyA) .no, .sl (rules.map ruleA) .no, .sl (kidsA kids) .no, .sl (obls.map oblA) .no] 34):=by
  rw [←e3,upd_other _ _ n3.symm,upd_other _ _ n1.symm,upd_same]
 have g2:WalkAt h3 iw im ⟨[],0⟩:=by
  refine ⟨by rw [←e3,upd_same]; rfl,by rw [←e3,upd_other _ _ n2.symm,upd_same]; rfl,fun l hl=>(by cases hl),by decide⟩
 have hi0:h im=none:=by rw [upd_other _ _ n1] at him; exact him
 have hw0:h iw=none:=by rw [upd_other _ _ n3] at hiw1; exact hiw1
 simp -implicitDefEqProofs only [go_sem]
 rw [e3] at s1⊢
 simp -implicitDefEqProofs only [go_sem,g1]
 have hp:=wpol_ok 4 1 rfl iw im ⟨[],0⟩ (.mk id set alg tgt rules kids obls) h3 g2
 simp only [polA,tgtA,oblsA,Int.ofNat_one,Int.cast_ofNat_Int] at hp
 refine hp.mono fun x h4 ⟨ex,hk,_⟩=> ?_
 subst ex
 simp -implicitDefEqProofs only [go_sem]
 refine .mk _ (.refl _) (fun j k hj=> ?_) ⟨rfl,rfl⟩
 refine hk j k ?_ (s1 _ _ hj)
 simp only [List.mem_cons,List.not_mem_nil,or_false,not_or]
 exact ⟨fun e=>(by rw [e,hw0] at hj; cases hj),fun e=>(by rw [e,hi0] at hj; cases hj)⟩
end Go.Proofs.YtmlhcdeamjkpjaaGreatDoor

set_option linter.unusedSimpArgs false
set_option linter.unusedVariables false
namespace Go.Proofs.YtmlhcdeamjkpjaaGreatDoor
open Go Go.Ab Go.Bf
def parsedA (x:PolD×Int×Int):AV:= .tup [polA x.1, .v (.int .i64 x.2.1), .v (.int .i64 x.2.2)]
theorem weak_flat3 (a b c:AV) (h:Weak a b) (d:AV):Weak (.tup [a,c,d]) (.tup [b,c,d]):= .tup _ _ rfl fun i h1 h2=>by
 rcases i with _|_|_|i
 ·exact h
 ·exact .refl _
 ·exact .refl _
 ·simp at h1; omega
set_option maxRecDepth 20000 in
theorem parse_ok (s:Txt) (h:Heap) (he:ErrT h):FnOK Tryz.prog 53 [.s s] h fun r h' =>r=parsedA (parseD s)∧h' =h:=by
 refine FnOK.body hU hm Tryz.func53 rfl (by kernel_rfl) 61 rfl [.cell 2 34, .tmp 3, .tmp 4] rfl (Nat.le_of_ble_eq_true rfl) (fun hwf=> ?_)
 simp -implicitDefEqProofs only [go_sem]
 intro i2 hi2
 simp -implicitDefEqProofs only [go_sem]
 refine (all_tok_ok s _ (he.sub (.upd_new hi2))).pthen ?_
 cases el:lexD s with
 |bad e a=>
  have e1:=lexD_bad el
  have d1:(e !=0)=true:=by
   have:e≠0:=by rcases e1.1 with h|h<;>rw [h]<;>decide
   simpa using this
  have efin:parseD s=(zeroP,e,a):=by simp only [parseD,el]
  simp -implicitDefEqProofs only [go_sem,lexR,d1]
  rw [efin]
  exact .mk (h' :=h) (parsedA (zeroP,e,a)) (weak_flat3 _ _ _ (weak_flat _) _) (.upd_new hi2) ⟨rfl,rfl⟩
 |ok ts=>
  have efin:parseD s=parseT s ts:=by simp only [parseD,el]
  have hw:=wfP_start el 0 0 0
  have hpol:=policy_p 3 1 rfl ⟨ts,0,0,0,0⟩ hw (Nat.zero_le _)
  have hap:=ah_pol 4 ⟨ts,0,0,0,0⟩ hw
  obtain ⟨⟨⟨pid,pset,palg,ptgt,prules,pkids,pobls⟩,st1⟩,ep⟩:∃x,polF 4 ⟨ts,0,0,0,0⟩=x:=⟨_,rfl⟩
  rw [show 3+1=4 from rfl,ep] at hpol
  rw [ep] at hap
  simp only [polA] at hpol hap
  simp only [parseT,ep] at efin
  simp -implicitDefEqProofs only [go_sem,lexR]
  intro i8 hi8
  have n8:=ne_upd hi8
  have m82:¬i8=i2:=n8
  have m28:¬i2=i8:=fun e=>n8 e.symm
  have hh8:h i8=none:=by rw [upd_other _ _ n8] at hi8; exact hi8
  simp -implicitDefEqProofs only [go_sem,upd_ne,m82,m28]
  refine hpol.go (upd_same ..) ?_
  rw [upd_upd]
  simp -implicitDefEqProofs only [go_sem,upd_ne,m82,m28]
  intro i9 hi9
  have n9:=ne_upd hi9
  have hi9' :=hi9
  rw [upd_other _ _ n9] at hi9'
  have n92:=ne_upd hi9'
  have m92:¬i9=i2:=n92
  have m29:¬i2=i9:=fun e=>n92 e.symm
  have m98:¬i9=i8:=n9
  have m89:¬i8=i9:=fun e=>n9 e.symm
  have hh9:h i9=none:=by rw [upd_other _ _ n92] at hi9'; exact hi9'
  have c9:∀(f:Heap) (x y:Option Blk),upd (upd f i8 x) i9 y=upd (upd f i9 y) i8 x:=fun f x y=>upd_comm f x y n9.symm
  simp -implicitDefEqProofs only [go_sem,c9,upd_ne,m82,m28,m92,m29,m98,m89]
  refine (here_ok st1 hap.1).run ?_
  have subs:∀x y z,Sub h (upd (upd (upd h i2 x) i9 y) i8 z):=fun x y z=>((Sub.upd_new hi2).put hh9 _).put hh8 _
  cases d1:((hereD st1).kind !=7)
  ·have k1:(hereD st1).kind=7:=by simpa using d1
   have e2:(if (hereD st1).kind=7 then st1 else stuckD st1)=st1:=if_pos k1
   simp -implicitDefEqProofs only [go_sem,c9,tokA,d1,upd_ne,m82,m28,m92,m29,m98,m89]
   cases db:((st1).bad==0)
   ·have eb:(st1).bad≠0:=by simpa using db
    simp -implicitDefEqProofs only [go_sem,c9,upd_ne,m82,m28,m92,m29,m98,m89,PO,db]
    have eend:endP s (.mk pid pset palg ptgt prules pkids pobls,st1)=st1:=by
     unfold endP; simp only [e2]; rw [if_neg (fun h=>eb h.1)]
    have hbb:(st1).bad≠0:=eb
    have dn:((st1).bad !=0)=true:=by simpa using hbb
    simp -implicitDefEqProofs only [go_sem,c9,upd_ne,m82,m28,m92,m29,m98,m89,PO,dn]
    refine .calls (hm1 i8 (PO (st1))) [0,1,2,3,4,5,6,7,8,9,10,11] (.hm1 (upd_same ..)) (by kernel_rfl) rfl ?_
    simp -implicitDefEqProofs only [go_sem,c9,upd_ne,m82,m28,m92,m29,m98,m89,PO,hm1_same]
    refine ⟨.hm1 ((upd_other _ _ n8).trans (upd_same ..)), ?_⟩
    have efin2:parseD s=(zeroP,(st1).bad,(st1).place):=by rw [efin,if_neg (by rw [eend]; exact hbb),eend]
    rw [efin2]
    exact .mk (h' :=h) (parsedA (zeroP,(st1).bad,(st1).place)) (weak_flat3 _ _ _ (weak_flat _) _) (Sub.put (subs _ _ _) hi2 _) ⟨rfl,rfl⟩
   ·have eb:(st1).bad=0:=by simpa using db
    simp -implicitDefEqProofs only [go_sem,c9,upd_ne,m82,m28,m92,m29,m98,m89,PO,db]
    refine (right_ok (.mk pid pset palg ptgt prules pkids pobls) _).pthen ?_
    cases dr:(rightE (.mk pid pset palg ptgt prules pkids pobls) !=0)
    ·have er:rightE (.mk pid pset palg ptgt prules pkids pobls)=0:=by simpa using dr
     have dn:((st1).bad !=0)=false:=by simpa using eb
     simp -implicitDefEqProofs only [go_sem,c9,upd_ne,m82,m28,m92,m29,m98,m89,PO,dr,dn]
     have eend:endP s (.mk pid pset palg ptgt prules pkids pobls,st1)=st1:=by
      unfold endP; simp only [e2]; rw [if_neg (fun h=>h.2 er)]
     have efin2:parseD s=(.mk pid pset palg ptgt prules pkids pobls,0,0):=by rw [efin,if_pos (by rw [eend]; exact eb)]
     rw [efin2]
     exact .mk (h' :=h) (parsedA (.mk pid pset palg ptgt prules pkids pobls,0,0)) (weak_flat3 _ _ _ (weak_flat _) _) (Sub.put (subs _ _ _) hi2 _) ⟨rfl,rfl⟩
    ·have er:rightE (.mk pid pset palg ptgt prules pkids pobls)≠0:=by simpa using dr
     simp -implicitDefEqProofs only [go_sem,c9,upd_ne,m82,m28,m92,m29,m98,m89,PO,dr]
     refine (wrong_ok (st1) 5 s.length).run ?_
     have eend:endP s (.mk pid pset palg ptgt prules pkids pobls,st1)=wrongD (st1) 5 s.length:=by
      unfold endP; simp only [e2]; rw [if_pos ⟨eb,er⟩]
     have hwb:wrongD (st1) 5 s.length= {(st1) with bad:=5,place:=s.length}:=by rw [wrongD,if_pos eb]
     have hbb:(wrongD (st1) 5 s.length).bad≠0:=by rw [hwb]; show (5:Int)≠0; decide
     have dn:((wrongD (st1) 5 s.length).bad !=0)=true:=by simpa using hbb
     simp -implicitDefEqProofs only [go_sem,c9,upd_ne,m82,m28,m92,m29,m98,m89,PO,dn]
     refine .calls (hm1 i8 (PO (wrongD (st1) 5 s.length))) [0,1,2,3,4,5,6,7,8,9,10,11] (.hm1 (upd_same ..)) (by kernel_rfl) rfl ?_
     simp -implicitDefEqProofs only [go_sem,c9,upd_ne,m82,m28,m92,m29,m98,m89,PO,hm1_same]
     refine ⟨.hm1 ((upd_other _ _ n8).trans (upd_same ..)), ?_⟩
     have efin2:parseD s=(zeroP,(wrongD (st1) 5 s.length).bad,(wrongD (st1) 5 s.length).place):=by rw [efin,if_neg (by rw [eend]; exact hbb),eend]
     rw [efin2]
     exact .mk (h' :=h) (parsedA (zeroP,(wrongD (st1) 5 s.length).bad,(wrongD (st1) 5 s.length).place)) (weak_flat3 _ _ _ (weak_flat _) _) (Sub.put (subs _ _ _) hi2 _) ⟨rfl,rfl⟩
  ·have k1:(hereD st1).kind≠7:=by simpa using d1
   have e2:(if (hereD st1).kind=7 then st1 else stuckD st1)=stuckD st1:=if_neg k1
   simp -implicitDefEqProofs only [go_sem,c9,tokA,d1,upd_ne,m82,m28,m92,m29,m98,m89]
   refine (stuck_ok st1 hap.1).run ?_
   simp -implicitDefEqProofs only [go_sem,c9,upd_ne,m82,m28,m92,m29,m98,m89]
   cases db:((stuckD st1).bad==0)
   ·have eb:(stuckD st1).bad≠0:=by simpa using db
    simp -implicitDefEqProofs only [go_sem,c9,upd_ne,m82,m28,m92,m29,m98,m89,PO,db]
    have eend:endP s (.mk pid pset palg ptgt prules pkids pobls,st1)=stuckD st1:=by
     unfold endP; simp only [e2]; rw [if_neg (fun h=>eb h.1)]
    have hbb:(stuckD st1).bad≠0:=eb
    have dn:((stuckD st1).bad !=0)=true:=by simpa using hbb
    simp -implicitDefEqProofs only [go_sem,c9,upd_ne,m82,m28,m92,m29,m98,m89,PO,dn]
    refine .calls (hm1 i8 (PO (stuckD st1))) [0,1,2,3,4,5,6,7,8,9,10,11] (.hm1 (upd_same ..)) (by kernel_rfl) rfl ?_
    simp -implicitDefEqProofs only [go_sem,c9,upd_ne,m82,m28,m92,m29,m98,m89,PO,hm1_same]
    refine ⟨.hm1 ((upd_other _ _ n8).trans (upd_same ..)), ?_⟩
    have efin2:parseD s=(zeroP,(stuckD st1).bad,(stuckD st1).place):=by rw [efin,if_neg (by rw [eend]; exact hbb),eend]
    rw [efin2]
    exact .mk (h' :=h) (parsedA (zeroP,(stuckD st1).bad,(stuckD st1).place)) (weak_flat3 _ _ _ (weak_flat _) _) (Sub.put (subs _ _ _) hi2 _) ⟨rfl,rfl⟩
   ·have eb:(stuckD st1).bad=0:=by simpa using db
    simp -implicitDefEqProofs only [go_sem,c9,upd_ne,m82,m28,m92,m29,m98,m89,PO,db]
    refine (right_ok (.mk pid pset palg ptgt prules pkids pobls) _).pthen ?_
    cases dr:(rightE (.mk pid pset palg ptgt prules pkids pobls) !=0)
    ·have er:rightE (.mk pid pset palg ptgt prules pkids pobls)=0:=by simpa using dr
     have dn:((stuckD st1).bad !=0)=false:=by simpa using eb
     simp -implicitDefEqProofs only [go_sem,c9,upd_ne,m82,m28,m92,m29,m98,m89,PO,dr,dn]
     have eend:endP s (.mk pid pset palg ptgt prules pkids pobls,st1)=stuckD st1:=by
      unfold endP; simp only [e2]; rw [if_neg (fun h=>h.2 er)]
     have efin2:parseD s=(.mk pid pset palg ptgt prules pkids pobls,0,0):=by rw [efin,if_pos (by rw [eend]; exact eb)]
     rw [efin2]
     exact .mk (h' :=h) (parsedA (.mk pid pset palg ptgt prules pkids pobls,0,0)) (weak_flat3 _ _ _ (weak_flat _) _) (Sub.put (subs _ _ _) hi2 _) ⟨rfl,rfl⟩
    ·have er:rightE (.mk pid pset palg ptgt prules pkids pobls)≠0:=by simpa using dr
     simp -implicitDefEqProofs only [go_sem,c9,upd_ne,m82,m28,m92,m29,m98,m89,PO,dr]
     refine (wrong_ok (stuckD st1) 5 s.length).run ?_
     have eend:endP s (.mk pid pset palg ptgt prules pkids pobls,st1)=wrongD (stuckD st1) 5 s.length:=by
      unfold endP; simp only [e2]; rw [if_pos ⟨eb,er⟩]
     have hwb:wrongD (stuckD st1) 5 s.length= {(stuckD st1) with bad:=5,place:=s.length}:=by rw [wrongD,if_pos eb]
     have hbb:(wrongD (stuckD st1) 5 s.length).bad≠0:=by rw [hwb]; show (5:Int)≠0; decide
     have dn:((wrongD (stuckD st1) 5 s.length).bad !=0)=true:=by simpa using hbb
     simp -implicitDefEqProofs only [go_sem,c9,upd_ne,m82,m28,m92,m29,m98,m89,PO,dn]
     refine .calls (hm1 i8 (PO (wrongD (stuckD st1) 5 s.length))) [0,1,2,3,4,5,6,7,8,9,10,11] (.hm1 (upd_same ..)) (by kernel_rfl) rfl ?_
     simp -implicitDefEqProofs only [go_sem,c9,upd_ne,m82,m28,m92,m29,m98,m89,PO,hm1_same]
     refine ⟨.hm1 ((upd_other _ _ n8).trans (upd_same ..)), ?_⟩
     have efin2:parseD s=(zeroP,(wrongD (stuckD st1) 5 s.length).bad,(wrongD (stuckD st1) 5 s.length).place):=by rw [efin,if_neg (by rw [eend]; exact hbb),eend]
     rw [efin2]
     exact .mk (h' :=h) (parsedA (zeroP,(wrongD (stuckD st1) 5 s.length).bad,(wrongD (stuckD st1) 5 s.length).place)) (weak_flat3 _ _ _ (weak_flat _) _) (Sub.put (subs _ _ _) hi2 _) ⟨rfl,rfl⟩
end Go.Proofs.YtmlhcdeamjkpjaaGreatDoor

set_option linter.unusedSimpArgs false
set_option linter.unusedVariables false
namespace Go.Ab
open Go
theorem OwE.keepb {tb:TypeId} {h0 h h' :Heap} {sz:Nat} {y:AV} {xs:List AV} (hw:OwE tb h0 h sz y xs) (hk:∀id,h0 id=Option.none→h id≠Option.none→h' id=h id):OwE tb h0 h' sz y xs:=
 hw.keep fun id e=>hk id (hw.nid e).1 (hw.nid e).2.1
end Go.Ab
namespace Go.Proofs.YtmlhcdeamjkpjaaGreatDoor
open Go Go.Ab Go.Bf
theorem MyCase.keepb {h0 h h' :Heap} {ys:List AV} {x:AV} {c:CaseD} (hm:MyCase h0 h ys x c) (hk:∀id,h0 id=none→h id≠none→h' id=h id):MyCase h0 h' ys x c:=by
 obtain ⟨f,l,e,a,b,c,d⟩:=hm
 exact ⟨f,l,e,a.keepb hk,b.keepb hk,c,d⟩
theorem OwnC.keepb {h0 h h' :Heap} {ys:List AV} {y:AV} {cs:List CaseD} {i0:Nat} (ho:OwnC h0 h ys y cs i0) (hk:∀id,h0 id=none→h id≠none→h' id=h id):OwnC h0 h' ys y cs i0:=by
 obtain ⟨xs,a,b,c,d⟩:=ho
 exact ⟨xs,a.keepb hk,b,c,fun h1 h2=>(d h1 h2).keepb hk⟩
theorem OwnS.keepb {h0 h h' :Heap} {x:AV} {s:StoreD} {i0:Nat} (ho:OwnS h0 h x s i0) (hk:∀id,h0 id=none→h id≠none→h' id=h id):OwnS h0 h' x s i0:=by
 obtain ⟨y1,y2,y3,y4,e,a,b,c,d,r⟩:=ho
 exact ⟨y1,y2,y3,y4,e,a.keepb hk,b.keepb hk,c.keepb hk,d.keepb hk,r⟩
theorem OwnC.keepx {h0 h h' :Heap} {ys:List AV} {y z:AV} {cs:List CaseD} {i0:Nat} (ho:OwnC h0 h ys y cs i0) (hz:z∈ys) (hy:apart y z) (hk:∀id,h0 id=none→h id≠none→nid z≠some id→h' id=h id):OwnC h0 h' ys y cs i0:=by
 obtain ⟨xs,a,b,c,d⟩:=ho
 refine ⟨xs,a.keep fun id e=>hk id (a.nid e).1 (a.nid e).2.1 (hy id e),b,c,fun h1 h2=> ?_⟩
 obtain ⟨f,l,e,of,ol,hap,hys⟩:=d h1 h2
 exact ⟨f,l,e,of.keep fun id e=>hk id (of.nid e).1 (of.nid e).2.1 ((hys z hz).1 id e),ol.keep fun id e=>hk id (ol.nid e).1 (ol.nid e).2.1 ((hys z hz).2 id e),hap,hys⟩
theorem MyCase.frz {g h0 h:Heap} {ys:List AV} {x:AV} {c:CaseD} (hm:MyCase h0 h ys x c) (hg:Ab.Sub g h0):Frz g h x (caseA c):=by
 obtain ⟨f,l,rfl,a,b,_⟩:=hm
 refine .agg _ _ rfl fun j h1 h2=> ?_
 rcases j with _|_|_|_|_|j
 ·exact .pure rfl
 ·exact .pure rfl
 ·exact .pure rfl
 ·exact (a.less hg).frz (pureL_map (fun _=>rfl) _)
 ·exact (b.less hg).frz (pureL_map (fun _=>rfl) _)
 ·simp at h1; omega
theorem frz_cases {g h0 h:Heap} {y:AV} {xs:List AV} {cs:List CaseD} (hw:OwE 57 h0 h 5 y xs) (hg:Ab.Sub g h0) (hn:xs.length=cs.length) (hx:∀j (h1:j<xs.length) (h2:j<cs.length),Frz g h xs[j] (caseA cs[j])):Frz g h y (casesA cs):=by
 rcases hw with ⟨rfl,rfl⟩|⟨id,h1,hw⟩
 ·have:cs= []:=List.length_eq_zero_iff.1 hn.symm
  subst this
  exact .sl [] [] .full rfl (fun i h1=>by cases h1) (fun i h1=>by cases h1)
 ·have hsz:∀i (h1:i<xs.length),xs[i].cells.length=5:=fun i h1=>hw.rd.1 _ (List.getElem_mem h1)
  refine hw.frz (hg.none h1) (by simpa using hn) (fun i h1 h2=>by rw [hsz i h1,List.getElem_map]; rfl) fun i h1 h2 j h3 h4=> ?_
  have h2' :i<cs.length:=by simpa using h2
  have hf:=hx i h1 h2'
  have key:∀x y:AV,Frz g h x y→isAggA y=true→pureB y=true→∀j (h3:j<x.cells.length) (h4:j<y.cells.length),Frz g h x.cells[j] y.cells[j]:=by
   intro x y hf ha hp j h3 h4
   cases hf with
   |keep x hx=>exact .pure (pureB_cells hp _ (List.getElem_mem h4))
   |agg xs ys hn hr=>exact hr j h3 h4
   |_=>cases ha
  have e:(cs.map caseA)[i]'h2=caseA cs[i]:=List.getElem_map ..
  simp only [e] at h4⊢
  exact key _ _ hf rfl (by simp only [caseA,caseC,pureB,pureL,fieldsA,logA,Bool.and_true,Bool.true_and,Bool.and_eq_true]; exact ⟨pureL_map (fun _=>rfl) _,pureL_map (fun _=>rfl) _⟩) j h3 h4
theorem OwnC.frz {g h0 h:Heap} {ys:List AV} {y:AV} {cs:List CaseD} {i0:Nat} (ho:OwnC h0 h ys y cs i0) (hg:Ab.Sub g h0):Frz g h y (casesA cs):=by
 obtain ⟨xs,a,b,c,d⟩:=ho
 refine frz_cases a hg b fun j h1 h2=> ?_
 by_cases e:j=i0
 ·subst e; exact (d h1 h2).frz hg
 ·rw [c j h1 h2 e]; exact frz_case _
theorem polC_frz {g h:Heap} (p:PolD):∀x∈polC p,Frz g h x x:=fun x hx=>by
 refine .pure (pureB_cells (x:=polA p) (pure_pol p) x ?_)
 rw [polA_eq]
 exact hx
theorem frz_list {g h:Heap} {xs:List AV} (hx:∀x∈xs,Frz g h x x):∀i (h1:i<xs.length) (h2:i<xs.length),Frz g h xs[i] xs[i]:=fun i h1 _=>hx _ (List.getElem_mem h1)
theorem frz_app {g h:Heap} {ps bs cs ds:List AV} (n1:ps.length=bs.length) (n2:cs.length=ds.length) (h1:∀i (a:i<ps.length) (b:i<bs.length),Frz g h ps[i] bs[i]) (h2:∀i (a:i<cs.length) (b:i<ds.length),Frz g h cs[i] ds[i]):
  ∀i (a:i<(ps++cs).length) (b:i<(bs++ds).length),Frz g h (ps++cs)[i] (bs++ds)[i]:=fun i a b=>by
 by_cases e:i<ps.length
 ·rw [List.getElem_append_left e,List.getElem_append_left (by omega)]; exact h1 i e (by omega)
 ·rw [List.getElem_append_right (by omega),List.getElem_append_right (by omega)]
  simp only [List.length_append] at a b
  have:=h2 (i - ps.length) (by omega) (by omega)
  simp only [n1] at this⊢
  exact this
theorem frz_store {g h:Heap} {s:StoreD} {y1 y2 y3 y4:AV} (a:Frz g h y1 (casesA s.cases)) (b:Frz g h y2 (revsA s.reviews)) (c:Frz g h y3 (notsA s.notices)) (d:Frz g h y4 (rolesA s.roles)):
  Frz g h (.agg ([.v (.int .i64 s.tick),y1,y2,y3,y4]++polC s.policy++ [.v (.int .i64 s.version)])) (storeA s):=by
 refine .agg _ _ (by simp) (frz_app (by simp) rfl (frz_app rfl rfl (fun i h1 h2=> ?_) (frz_list (polC_frz _))) (frz_list fun x hx=>by rw [List.mem_singleton.1 hx]; exact .pure rfl))
 rcases i with _|_|_|_|_|i
 ·exact .pure rfl
 ·exact a
 ·exact b
 ·exact c
 ·exact d
 ·simp at h1; omega
theorem OwnS.frz {g h0 h:Heap} {x:AV} {s:StoreD} {i0:Nat} (ho:OwnS h0 h x s i0) (hg:Ab.Sub g h0):Frz g h x (storeA s):=by
 obtain ⟨y1,y2,y3,y4,rfl,a,b,c,d,r⟩:=ho
 exact frz_store (a.frz hg) ((b.less hg).frz (pureL_map (fun _=>rfl) _)) ((c.less hg).frz (pureL_map (fun _=>rfl) _)) ((d.less hg).frz (pureL_map (fun _=>rfl) _))
theorem OwnC.rd {h0 h:Heap} {ys:List AV} {y:AV} {cs:List CaseD} {i0:Nat} (ho:OwnC h0 h ys y cs i0):RdCs h y cs:=by
 obtain ⟨xs,a,b,c,d⟩:=ho
 refine ⟨xs,a.rd,b,fun j h1 h2=> ?_⟩
 by_cases e:j=i0
 ·subst e
  obtain ⟨f,l,e,a,b,_⟩:=d h1 h2
  exact ⟨f,l,e,a.rd,b.rd⟩
 ·rw [c j h1 h2 e]; exact rdC _ _
theorem OwnS.rd {h0 h:Heap} {x:AV} {s:StoreD} {i0:Nat} (ho:OwnS h0 h x s i0):RdS h x s:=by
 obtain ⟨y1,y2,y3,y4,rfl,a,b,c,d,r⟩:=ho
 exact ⟨y1,y2,y3,y4,rfl,a.rd,b.rd,c.rd,d.rd⟩
end Go.Proofs.YtmlhcdeamjkpjaaGreatDoor

set_option linter.unusedSimpArgs false
set_option linter.unusedVariables false
namespace Go.Ab
open Go
theorem OwE.lessN {tb:TypeId} {h0 h1 h:Heap} {sz:Nat} {y:AV} {xs:List AV} (hw:OwE tb h1 h sz y xs) (hs:∀i,h1 i=Option.none→h0 i=Option.none):OwE tb h0 h sz y xs:=by
 rcases hw with hw|⟨id,e,hw⟩
 ·exact .inl hw
 ·exact .inr ⟨id,hs _ e,hw⟩
end Go.Ab
namespace Go.Proofs.YtmlhcdeamjkpjaaGreatDoor
open Go Go.Ab Go.Bf
theorem MyCase.lessN {g h0 h:Heap} {ys:List AV} {x:AV} {c:CaseD} (hm:MyCase h0 h ys x c) (hg:∀i,h0 i=none→g i=none):MyCase g h ys x c:=by
 obtain ⟨f,l,e,a,b,c⟩:=hm
 exact ⟨f,l,e,a.lessN hg,b.lessN hg,c⟩
theorem OwnC.lessN {g h0 h:Heap} {ys:List AV} {y:AV} {cs:List CaseD} {i0:Nat} (ho:OwnC h0 h ys y cs i0) (hg:∀i,h0 i=none→g i=none):OwnC g h ys y cs i0:=by
 obtain ⟨xs,a,b,c,d⟩:=ho
 exact ⟨xs,a.lessN hg,b,c,fun h1 h2=>(d h1 h2).lessN hg⟩
theorem OwnS.lessN {g h0 h:Heap} {x:AV} {s:StoreD} {i0:Nat} (ho:OwnS h0 h x s i0) (hg:∀i,h0 i=none→g i=none):OwnS g h x s i0:=by
 obtain ⟨y1,y2,y3,y4,e,a,b,c,d,r⟩:=ho
 exact ⟨y1,y2,y3,y4,e,a.lessN hg,b.lessN hg,c.lessN hg,d.lessN hg,r⟩
theorem own_fin {g K:Heap} {S:StoreD} {j:Nat} {y1 y2 y3 y4:AV} {tk ver palg:Int} {pid:Txt} {pset:Bool} {ptgt:TgtD} {prules:List RuleD} {pkids:List PolD} {pobls:List OblD} (h1:S.tick=tk) (h2:S.policy= .mk pid pset palg ptgt prules pkids pobls) (h3:S.version=ver)
  (a:OwnC g K [y1,y2,y3,y4] y1 S.cases j) (b:OwE 82 g K 7 y2 (S.reviews.map revA)) (c:OwE 98 g K 3 y3 (S.notices.map notA)) (d:OwE 71 g K 2 y4 (S.roles.map roleA)) (ap:apart y1 y2∧apart y1 y3∧apart y1 y4∧apart y2 y3∧apart y2 y4∧apart y3 y4):
  OwnS g K (.agg [.v (.int .i64 tk),y1,y2,y3,y4, .s pid, .v (.bool pset), .v (.int .i64 palg),tgtA ptgt, .sl (prules.map ruleA) .no, .sl (pkids.map polA) .no,oblsA pobls, .v (.int .i64 ver)]) S j:=by
 refine ⟨y1,y2,y3,y4, ?_,a,b,c,d,ap⟩
 rw [h1,h2,h3,show polC (.mk pid pset palg ptgt prules pkids pobls)= [.s pid, .v (.bool pset), .v (.int .i64 palg),tgtA ptgt, .sl (prules.map ruleA) .no, .sl (pkids.map polA) .no,oblsA pobls] by simp [polC,kidsA_eq]]
 rfl
theorem OwnC.move {h0 h h' :Heap} {ys ys' :List AV} {y z:AV} {cs:List CaseD} {i0:Nat} (ho:OwnC h0 h ys y cs i0) (hz:z∈ys) (hy:apart y z) (hk:∀id,h0 id=none→h id≠none→nid z≠some id→h' id=h id)
  (hr:∀y'∈ys',∀k,nid y' =some k→h k=none∨∃w∈ys,nid w=some k):OwnC h0 h' ys' y cs i0:=by
 obtain ⟨xs,a,b,c,d⟩:=ho
 refine ⟨xs,a.keep fun id e=>hk id (a.nid e).1 (a.nid e).2.1 (hy id e),b,c,fun h1 h2=> ?_⟩
 obtain ⟨f,l,e,of,ol,hap,hys⟩:=d h1 h2
 refine ⟨f,l,e,of.keep fun id e=>hk id (of.nid e).1 (of.nid e).2.1 ((hys z hz).1 id e),ol.keep fun id e=>hk id (ol.nid e).1 (ol.nid e).2.1 ((hys z hz).2 id e),hap,fun w hw=>⟨fun k e1 e2=> ?_,fun k e1 e2=> ?_⟩⟩
 ·rcases hr w hw k e2 with hn|⟨v,hv,e3⟩
  ·exact (of.nid e1).2.1 hn
  ·exact (hys v hv).1 k e1 e3
 ·rcases hr w hw k e2 with hn|⟨v,hv,e3⟩
  ·exact (ol.nid e1).2.1 hn
  ·exact (hys v hv).2 k e1 e3
theorem own_ins {g K:Heap} {r X:AV} {A B:List CaseD} {C:CaseD} {ys:List AV} {j:Nat} (hj:A.length=j) (hw:OwE 57 g K 5 r (A.map caseA++([X]++B.map caseA))) (hX:MyCase g K ys X C):OwnC g K ys r (A++ [C]++B) j:=by
 subst hj
 refine ⟨_,hw,by simp,fun k h1 h2 hk=> ?_,fun h1 h2=> ?_⟩
 ·by_cases hlt:k<A.length
  ·rw [List.getElem_append_left (by simpa using hlt),List.getElem_map]
   congr 1
   rw [List.getElem_append_left (by simp; omega),List.getElem_append_left hlt]
  ·have e1:(A.map caseA++([X]++B.map caseA))[k]? =(B[k - A.length - 1]?).map caseA:=by
    rw [List.getElem?_append_right (by simp; omega),List.getElem?_append_right (by simp; omega)]
    simp
   have e2:(A++ [C]++B)[k]? =B[k - A.length - 1]? :=by
    rw [List.append_assoc,List.getElem?_append_right (by omega),List.getElem?_append_right (by simp; omega)]
    simp
   rw [←e2,List.getElem?_eq_getElem h2,List.getElem?_eq_getElem h1] at e1
   exact Option.some.inj e1
 ·have e1:(A.map caseA++([X]++B.map caseA))[A.length]'h1=X:=by
   rw [List.getElem_append_right (by simp)]; simp
  have e2:(A++ [C]++B)[A.length]'h2=C:=by
   rw [List.getElem_append_left (by simp),List.getElem_append_right (by simp)]; simp
  rw [e1,e2]
  exact hX
theorem own_mod {g K:Heap} {z:AV} {xs:List AV} {cs:List CaseD} {j:Nat} {X:AV} {F:CaseD→CaseD} {ys:List AV} (hw:OwE 57 g K 5 z (xs.set j X)) (hn:xs.length=cs.length) (hlo:∀k (h1:k<xs.length) (h2:k<cs.length),k≠j→xs[k]=caseA cs[k]) (hX:∀h:j<cs.length,MyCase g K ys X (F cs[j])):OwnC g K ys z (cs.modify j F) j:=by
 refine ⟨_,hw,by simpa using hn,fun k h1 h2 e=> ?_,fun h1 h2=> ?_⟩
 ·rw [List.getElem_set_ne (Ne.symm e),List.getElem_modify,if_neg (Ne.symm e),hlo k (by simpa using h1) (by simpa using h2) e]
 ·rw [List.getElem_set_self,List.getElem_modify_eq]
  exact hX _
theorem flat_set {xs:List AV} {j:Nat} (hj:j<xs.length) (x:AV):flatA (xs.set j x)=flatA (xs.take j)++(x.cells++flatA (xs.drop (j+1))):=by
 rw [List.set_eq_take_append_cons_drop,if_pos hj,flatA_app]
 simp [flatA]
theorem flat_at {xs:List AV} {j:Nat} (hj:j<xs.length):flatA xs=flatA (xs.take j)++(xs[j].cells++flatA (xs.drop (j+1))):=by
 rw [←flat_set hj xs[j],List.set_getElem_self]
theorem ready_case {s:StoreD} {o:OpD} (h:readyD s o=0) (hk:o.kind=3∨o.kind=4):thereD s.cases o.case=true:=by
 cases e:thereD s.cases o.case
 ·exfalso
  unfold readyD readyCaseD at h
  have:2≤o.kind∧o.kind≤4:=by omega
  have:o.kind≠1:=by omega
  split at h
  ·cases h
  ·simp only [e,if_true, *,if_false,and_self] at h
   cases h
 ·rfl
set_option maxRecDepth 100000 in
theorem done_own {g:Heap} {x:AV} {s:StoreD} (hb:RdS g x s) (o:OpD) (hf:Few s) (hp:polE 1 s.policy) (hr:i64 o.review) (ht:i64 s.tick) (hver:0≤s.version∧s.version≤1000000) (he:ErrT g):
  FnOK Tryz.prog 33 [x,opA o] g fun r h' =>Ab.Sub g h'∧∃j,OwnS g h' r (doneD parseD s o) j∧(readyD s o=0→j=findD s.cases o.case):=by
 obtain ⟨i0,ei0⟩:∃i0,(if o.kind=1 then s.cases.length else findD s.cases o.case)=i0:=⟨_,rfl⟩
 have hown:=fun (G:Heap) (hG:Ab.Sub g G)=>own_ok (hb.sub hG) i0 hf hp
 have hrdy:=fun (G:Heap) (hG:Ab.Sub g G)=>ready_ok (hb.sub hG) o hf hr ht
 obtain ⟨y1,y2,y3,y4,rfl,hb'⟩:=hb
 cases hpp:s.policy with
 |mk pid pset palg ptgt prules pkids pobls=>
 have hcC:polC (.mk pid pset palg ptgt prules pkids pobls)= [.s pid, .v (.bool pset), .v (.int .i64 palg),tgtA ptgt, .sl (prules.map ruleA) .no, .sl (pkids.map polA) .no,oblsA pobls]:=by simp [polC,kidsA_eq]
 rw [hpp,hcC] at hown hrdy
 simp only [opA,opC,List.cons_append,List.nil_append] at hown hrdy
 refine FnOK.body hU hm Tryz.func33 rfl (by kernel_rfl) 138 rfl [.cell 4 36] rfl (Nat.le_of_ble_eq_true rfl) (fun hwf=> ?_)
 simp -implicitDefEqProofs only [go_sem,hcC,opA,opC,List.cons_append,List.nil_append]
 intro i2 h2
 simp -implicitDefEqProofs only [go_sem]
 intro i3 h3
 have n32:=ne_upd h3
 have h3' :=upd_none h3
 simp -implicitDefEqProofs only [go_sem,upd_ne,n32,n32.symm]
 intro i4 h4
 have n43:=ne_upd h4
 have h4a:=upd_none h4
 have n42:=ne_upd h4a
 have h4' :=upd_none h4a
 simp -implicitDefEqProofs only [go_sem,upd_ne,n32,n32.symm,n43,n43.symm,n42,n42.symm]
 obtain ⟨H,eH⟩:∃H,upd (upd (upd g i2 (some (.obj [.v (.int .i64 s.tick),y1,y2,y3,y4, .s pid, .v (.bool pset), .v (.int .i64 palg),tgtA ptgt, .sl (prules.map ruleA) .no, .sl (pkids.map polA) .no,oblsA pobls, .v (.int .i64 s.version)] 36))) i3 (some (.obj (opC o) 44))) i4 (some (.obj [.v (.int .i64 0), .sl [] .full, .sl [] .full, .sl [] .full, .sl [] .full, .s [], .v (.bool false), .v (.int .i64 0), .sl [] .full, .sl [] .full, .sl [] .full, .sl [] .full, .v (.int .i64 0)] 36))=H:=⟨_,rfl⟩
 have hH:Ab.Sub g H:=by rw [←eH]; exact (((Sub.refl g).put h2 _).put h3' _).put h4' _
 have g2:H i2=some (.obj [.v (.int .i64 s.tick),y1,y2,y3,y4, .s pid, .v (.bool pset), .v (.int .i64 palg),tgtA ptgt, .sl (prules.map ruleA) .no, .sl (pkids.map polA) .no,oblsA pobls, .v (.int .i64 s.version)] 36):=by rw [←eH,upd_other _ _ n42.symm,upd_other _ _ n32.symm,upd_same]
 have g3:H i3=some (.obj (opC o) 44):=by rw [←eH,upd_other _ _ n43.symm,upd_same]
 have g4:H i4=some (.obj [.v (.int .i64 0), .sl [] .full, .sl [] .full, .sl [] .full, .sl [] .full, .s [], .v (.bool false), .v (.int .i64 0), .sl [] .full, .sl [] .full, .sl [] .full, .sl [] .full, .v (.int .i64 0)] 36):=by rw [←eH,upd_same]
 simp only [opC] at eH g3
 rw [eH]
 clear eH
 refine (hown H hH).mono fun r H1 ⟨hS,s1⟩=> ?_
 obtain ⟨z1,z2,z3,z4,er,hS1⟩:=id hS
 subst er
 rw [hpp,hcC] at hS⊢
 obtain ⟨hC,w2,w3,w4,a12,a13,a14,a23,a24,a34⟩:=hS1
 obtain ⟨xs,w1,hnx,hlo,hmy⟩:=id hC
 simp -implicitDefEqProofs only [go_sem,List.cons_append,List.nil_append]
 intro i5 h5
 simp -implicitDefEqProofs only [go_sem,w1.rd.fit,w1.rd.cells,w2.rd.fit,w2.rd.cells,w3.rd.fit,w3.rd.cells,w4.rd.fit,w4.rd.cells]
 have q2:=s1 _ _ g2
 have q3:=s1 _ _ g3
 have q4:=s1 _ _ g4
 have n52:i2≠i5:=fun e=>by rw [←e,q2] at h5; cases h5
 have n53:i3≠i5:=fun e=>by rw [←e,q3] at h5; cases h5
 have n54:i4≠i5:=fun e=>by rw [←e,q4] at h5; cases h5
 obtain ⟨K,eK⟩:∃K,upd H1 i5 (some (.obj [.v (.int .i64 s.tick),z1,z2,z3,z4, .s pid, .v (.bool pset), .v (.int .i64 palg),tgtA ptgt, .sl (prules.map ruleA) .no, .sl (pkids.map polA) .no,oblsA pobls, .v (.int .i64 s.version)] 36))=K:=⟨_,rfl⟩
 have sK:Ab.Sub H1 K:=by rw [←eK]; exact .upd_new h5
 have k5:K i5=some (.obj [.v (.int .i64 s.tick),z1,z2,z3,z4, .s pid, .v (.bool pset), .v (.int .i64 palg),tgtA ptgt, .sl (prules.map ruleA) .no, .sl (pkids.map polA) .no,oblsA pobls, .v (.int .i64 s.version)] 36):=by rw [←eK,upd_same]
 rw [eK]
 have hz5:∀k,H k=none→H1 k≠none→k≠i5:=fun k _ hk e=>hk (by rw [e]; exact h5)
 have k2:=sK _ _ q2
 have k3:=sK _ _ q3
 have k4:=sK _ _ q4
 clear eK
 have sg:Ab.Sub g K:=hH.trans (s1.trans sK)
 simp -implicitDefEqProofs only [go_sem,k2,k3]
 refine (hrdy K sg).pthen ?_
 have g5:g i5=none:=(hH.trans s1).none h5
 have kK:∀k,H1 k≠none→K k=H1 k:=fun k hk=>by
  cases e:H1 k with
  |none=>exact (hk e).elim
  |some b=>exact sK _ _ e
 have hz4:∀k,H k=none→k≠i4:=fun k hk e=>by rw [e,g4] at hk; cases hk
 by_cases p0:readyD s o=0
 ·have d0:(readyD s o !=0)=false:=by simp [p0]
  simp -implicitDefEqProofs only [go_sem,d0]
  simp -implicitDefEqProofs only [go_sem,k5,k3]
  have hSK:OwnS H K (.agg ([.v (.int .i64 s.tick),z1,z2,z3,z4]++polC s.policy++ [.v (.int .i64 s.version)])) s i0:=by
   rw [hpp,hcC]
   exact hS.keepb fun k _ hk=>kK k hk
  have hfi:=find_ok hSK.rd o.case hf.cases
  rw [hpp,hcC] at hfi
  simp only [List.cons_append,List.nil_append] at hfi
  refine hfi.pthen ?_
  simp -implicitDefEqProofs only [go_sem,k3]
  have hform:formD o=true:=by
   cases e:formD o
   ·simp [readyD,e] at p0
   ·rfl
  have hdone:doneD parseD s o=doD parseD s o:=by simp [doneD,p0]
  rw [hdone]
  by_cases p1:o.kind=1
  ·have k1:(o.kind==1)=true:=by simp [p1]
   simp -implicitDefEqProofs only [go_sem,k1]
   simp -implicitDefEqProofs only [go_sem,k3]
   intro i8 h8
   have n82:i2≠i8:=fun e=>by rw [←e,k2] at h8; cases h8
   have n83:i3≠i8:=fun e=>by rw [←e,k3] at h8; cases h8
   have n84:i4≠i8:=fun e=>by rw [←e,k4] at h8; cases h8
   have n85:i5≠i8:=fun e=>by rw [←e,k5] at h8; cases h8
   simp -implicitDefEqProofs only [go_sem]
   obtain ⟨K2,eK2⟩:∃K2,upd K i8 (some (.obj [.s o.case, .s o.subj, .s [111,112,101,110], .sl [] .full, .sl [] .full] 57))=K2:=⟨_,rfl⟩
   have sK2:Ab.Sub K K2:=by rw [←eK2]; exact .upd_new h8
   have e8:K2 i8=some (.obj [.s o.case, .s o.subj, .s [111,112,101,110], .sl [] .full, .sl [] .full] 57):=by rw [←eK2,upd_same]
   rw [eK2]
   clear eK2
   have m3:=sK2 _ _ k3
   have m4:=sK2 _ _ k4
   have m5:=sK2 _ _ k5
   simp -implicitDefEqProofs only [go_sem,m3,m5]
   have hha:=happens_ok (h0:=H) (s:=s) z1 z2 z3 z4 (k:=i8) (o:=0) (A:= []) (B:= []) (t:=57) (c:=⟨o.case,o.subj,openT,[],[]⟩) (f:= .sl [] .full) (l:= .sl [] .full) rfl e8 (by decide) (.inl ⟨rfl,rfl⟩) (s1.trans (sK.trans sK2)) (Nat.zero_le _) o.subj [110,101,119]
   rw [hpp,hcC] at hha
   simp only [List.cons_append,List.nil_append] at hha
   refine hha.mono fun r K3 ⟨l',ol,e8',fr3,ap3⟩=> ?_
   have kK3:∀k,K2 k≠none→k≠i8→K3 k=K2 k:=fun k hk hk8=>fr3 k hk hk8 (by simp [nid])
   have m3' :K3 i3=_:=(kK3 i3 (by rw [m3]; simp) n83).trans m3
   have m4' :K3 i4=_:=(kK3 i4 (by rw [m4]; simp) n84).trans m4
   have m5' :K3 i5=_:=(kK3 i5 (by rw [m5]; simp) n85).trans m5
   simp only [caseL,List.append_nil,List.nil_append] at e8'
   simp -implicitDefEqProofs only [go_sem]
   simp -implicitDefEqProofs only [go_sem,m5',e8',ol.rd.fit,ol.rd.cells]
   have kk2:∀k,H1 k≠none→K2 k=H1 k:=fun k hk=>by
    have:=kK k hk
    cases e:K k with
    |none=>rw [e] at this; exact (hk this.symm).elim
    |some b=>rw [sK2 _ _ e,←e,this]
   have k8:∀k,H1 k≠none→k≠i8:=fun k hk e=>hk (by have:=kK k hk; rw [e,h8] at this; rw [e]; exact this.symm)
   have kk3:∀k,H1 k≠none→K3 k=H1 k:=fun k hk=>(kK3 k (by rw [kk2 k hk]; exact hk) (k8 k hk)).trans (kk2 k hk)
   have sH3:Ab.Sub H1 K3:=fun k b hk=>by rw [kk3 k (by rw [hk]; simp)]; exact hk
   have hfl:findD s.cases o.case≤s.cases.length:=List.findIdx_le_length
   have hfc:=hf.cases
   refine (insCase_ok z1 xs (.agg [.s o.case, .s o.subj, .s openT, .sl [] .full,l']) (findD s.cases o.case) H K3 (w1.keepb fun k _ hk=>kk3 k hk) (s1.trans sH3) (by omega) (by omega) rfl (by simp [Ab.fit])).mono fun r K4 ⟨ow5,fr4,ap4⟩=> ?_
   have m4'' :K4 i4=_:=(fr4 i4 (by rw [m4']; simp) (fun e=>by have:=(w1.nid e).1; rw [g4] at this; cases this)).trans m4'
   have m5'' :K4 i5=_:=(fr4 i5 (by rw [m5']; simp) (fun e=>(w1.nid e).2.1 h5)).trans m5'
   simp -implicitDefEqProofs only [go_sem,m5'',ow5.rd.fit,ow5.rd.cells]
   simp -implicitDefEqProofs only [go_sem,upd_ne,n54,n54.symm,m4'',ow5.rd.fit,ow5.rd.cells,w2.rd.fit,w2.rd.cells,w3.rd.fit,w3.rd.cells,w4.rd.fit,w4.rd.cells]
   have hi0:i0=s.cases.length:=by rw [←ei0,if_pos p1]
   have hxs:xs=s.cases.map caseA:=List.ext_getElem (by simpa using hnx) fun j a b=>by rw [hlo j a (by omega) (by omega),List.getElem_map]
   have kk4:∀k,H1 k≠none→nid z1≠some k→K4 k=H1 k:=fun k hk hz=>(fr4 k (by rw [kk3 k hk]; exact hk) hz).trans (kk3 k hk)
   obtain ⟨K5,eK5⟩:∃K5,upd (upd K4 i5 (some (.obj [.v (.int .i64 s.tick),r,z2,z3,z4, .s pid, .v (.bool pset), .v (.int .i64 palg),tgtA ptgt, .sl (prules.map ruleA) .no, .sl (pkids.map polA) .no,oblsA pobls, .v (.int .i64 s.version)] 36))) i4 (some (.obj [.v (.int .i64 s.tick),r,z2,z3,z4, .s pid, .v (.bool pset), .v (.int .i64 palg),tgtA ptgt, .sl (prules.map ruleA) .no, .sl (pkids.map polA) .no,oblsA pobls, .v (.int .i64 s.version)] 36))=K5:=⟨_,rfl⟩
   rw [eK5]
   have o5:∀k,k≠i4→k≠i5→K5 k=K4 k:=fun k a b=>by rw [←eK5,upd_other _ _ a,upd_other _ _ b]
   have kk5:∀k,H k=none→H1 k≠none→nid z1≠some k→K5 k=H1 k:=fun k a b c=>(o5 k (hz4 k a) (hz5 k a b)).trans (kk4 k b c)
   have ow:OwE 57 H K5 5 r (List.take (findD s.cases o.case) xs++([.agg [.s o.case, .s o.subj, .s openT, .sl [] .full,l']]++List.drop (findD s.cases o.case) xs)):=ow5.keep fun id e=>o5 id (hz4 id (ow5.nid e).1) fun e5=>by
    subst e5
    rcases ap4 _ e with h|h
    ·rw [m5'] at h; cases h
    ·exact (w1.nid h).2.1 h5
   have ol5:OwE 96 H K5 3 l' _:=ol.keep fun id e=>by
    have h2n:K2 id=none:=(ap3 id e).resolve_right (by simp [nid])
    have hz:nid z1≠some id:=fun e1=>by
     have:=kk2 id (w1.nid e1).2.1
     rw [h2n] at this
     exact (w1.nid e1).2.1 this.symm
    rw [o5 id (hz4 id (ol.nid e).1) (fun e5=>by rw [e5,m5] at h2n; cases h2n),fr4 id (ol.nid e).2.1 hz]
   have hmc:MyCase H K5 [] (.agg [.s o.case, .s o.subj, .s openT, .sl [] .full,l']) (hapD s ⟨o.case,o.subj,openT,[],[]⟩ o.subj [110,101,119]):=⟨.sl [] .full,l',rfl, .inl ⟨rfl,rfl⟩,ol5,(fun i e=>by cases e),fun y hy=>by cases hy⟩
   have sg4:Ab.Sub g K4:=fun k b hk=>by
    have h1:=hH _ _ hk
    have h2:=s1 _ _ h1
    rw [kk4 k (by rw [h2]; simp) (fun e=>by have:=(w1.nid e).1; rw [h1] at this; cases this)]
    exact h2
   have sg5:Ab.Sub g K5:=by rw [←eK5]; exact (sg4.put g5 _).put h4' _
   have hdo:doD parseD s o= {s with cases:=s.cases.take (findD s.cases o.case)++ [hapD s ⟨o.case,o.subj,openT,[],[]⟩ o.subj [110,101,119]]++s.cases.drop (findD s.cases o.case)}:=by simp [doD,p1]
   refine .mk _ (.refl _) (.refl _) ⟨sg5,_, ?_,fun _=>rfl⟩
   rw [hdo]
   have apr:∀k,nid r=some k→H1 k=none∨nid z1=some k:=fun k e=>(ap4 k e).imp (fun h=>sH3.none h) id
   have hro:∀ {w:AV},apart z1 w→(∀k,nid w=some k→H1 k≠none)→apart r w:=fun ha hw k e1 e2=>(apr k e1).elim (fun h=>hw k e2 h) (fun h=>ha k h e2)
   have hl0:∀k,nid l' =some k→H1 k=none:=fun k e=>(sK.trans sK2).none ((ap3 k e).resolve_right (by simp [nid]))
   have hlr:apart l' r:=fun k e1 e2=>(ap4 k e2).elim (fun h=>(ol.nid e1).2.1 h) (fun h=>(w1.nid h).2.1 (hl0 k e1))
   rw [hxs,←List.map_take,←List.map_drop] at ow
   refine own_fin rfl hpp rfl (own_ins (by rw [List.length_take]; omega) (ow.lessN (fun _ e=>hH.none e)) ⟨.sl [] .full,l',rfl, .inl ⟨rfl,rfl⟩,ol5.lessN (fun _ e=>hH.none e),(fun i e=>by cases e),fun y hy=>⟨(fun i e=>by cases e), ?_⟩⟩) ((w2.keep fun id e=>kk5 id (w2.nid e).1 (w2.nid e).2.1 fun e1=>a12 id e1 e).lessN fun _ e=>hH.none e) ((w3.keep fun id e=>kk5 id (w3.nid e).1 (w3.nid e).2.1 fun e1=>a13 id e1 e).lessN fun _ e=>hH.none e) ((w4.keep fun id e=>kk5 id (w4.nid e).1 (w4.nid e).2.1 fun e1=>a14 id e1 e).lessN fun _ e=>hH.none e) ⟨hro a12 fun k e=>(w2.nid e).2.1,hro a13 fun k e=>(w3.nid e).2.1,hro a14 fun k e=>(w4.nid e).2.1,a23,a24,a34⟩
   simp only [List.mem_cons,List.not_mem_nil,or_false] at hy
   rcases hy with rfl|rfl|rfl|rfl
   ·exact hlr
   ·exact fun k e1 e2=>(w2.nid e2).2.1 (hl0 k e1)
   ·exact fun k e1 e2=>(w3.nid e2).2.1 (hl0 k e1)
   ·exact fun k e1 e2=>(w4.nid e2).2.1 (hl0 k e1)
  have k1:(o.kind==1)=false:=by simp [p1]
  have hi0:i0=findD s.cases o.case:=by rw [←ei0,if_neg p1]
  simp -implicitDefEqProofs only [go_sem,k1]
  by_cases p3:o.kind=3
  ·have k3' :(o.kind==3)=true:=by simp [p3]
   simp -implicitDefEqProofs only [go_sem,k1,k3']
   have hth:=ready_case p0 (.inl p3)
   have hlt:=thereD_lt hth
   obtain ⟨j,ej⟩:∃j,findD s.cases o.case=j:=⟨_,rfl⟩
   have hj:j<s.cases.length:=by rw [←ej]; exact hlt
   have hjx:j<xs.length:=by omega
   rw [ej] at hi0
   subst hi0
   obtain ⟨f,l,ex,of,ol,hap,hys⟩:=hmy hjx hj
   obtain ⟨id1,hg1,o1⟩:=w1.ow (by intro e; rw [e] at hjx; cases hjx)
   have o1' :=o1
   obtain ⟨cap,rest,ey,hid,hrl,hcap,hsz⟩:=o1'
   have lA:i0*5=(flatA (xs.take i0)).length:=by rw [flatA_length fun z hz=>hsz z (List.mem_of_mem_take hz),List.length_take]; omega
   have hidK:K id1=some (.obj (flatA (xs.take i0)++(caseL s.cases[i0] f l++(flatA (xs.drop (i0+1))++rest))) 57):=by
    rw [sK _ _ hid,flat_at hjx,ex]
    simp [caseL,AV.cells]
   have n14:id1≠i4:=hz4 id1 hg1
   have n13:id1≠i3:=fun e=>by rw [e,g3] at hg1; cases hg1
   have n15:id1≠i5:=fun e=>o1.none (by rw [e]; exact h5)
   have nf4:∀k,nid f=some k→k≠i3∧k≠i4∧k≠i5∧k≠id1:=fun k e=>⟨(fun e' =>by have:=(of.nid e).1; rw [e',g3] at this; cases this),hz4 k (of.nid e).1,hz5 k (of.nid e).1 (of.nid e).2.1,fun e' =>(hys z1 (by simp)).1 k e (by rw [e']; exact o1.nid)⟩
   have nl4:∀k,nid l=some k→k≠i3∧k≠i4∧k≠i5∧k≠id1:=fun k e=>⟨(fun e' =>by have:=(ol.nid e).1; rw [e',g3] at this; cases this),hz4 k (ol.nid e).1,hz5 k (ol.nid e).1 (ol.nid e).2.1,fun e' =>(hys z1 (by simp)).2 k e (by rw [e']; exact o1.nid)⟩
   have hff:=hf.fields _ (List.getElem_mem hj)
   have hfl:=hf.log _ (List.getElem_mem hj)
   rw [ej]
   refine .calls (pick K [i3,i5]) [0,1,2,3,4,5,6,7,8] pick_sub (by kernel_rfl) rfl ?_
   simp -implicitDefEqProofs only [go_sem,pick_at (show i3∈ [i3,i5] by simp),pick_at (show i5∈ [i3,i5] by simp),k3,k5]
   refine (o1.sub sK).idx (U:=U) (e:=57) i0 rfl hjx uCase (by decide) ?_
   simp -implicitDefEqProofs only [go_sem,pick_at (show i3∈ [i3,i5] by simp),pick_at (show i5∈ [i3,i5] by simp),k3,k5]
   refine (show FnOK Tryz.prog 83 [.ptr id1 (i0*5), .s o.field, .agg [.v (.int .i64 o.val.kind), .v (.int .i64 o.val.n), .s o.val.s]] K _ from write_ok lA hidK (by decide) (of.sub sK) (s1.trans sK) hff o.field o.val).mono fun r K3 ⟨f',of',e1',fr3,ap3⟩=> ?_
   have kk3:∀k,H1 k≠none→k≠id1→nid f≠some k→K3 k=H1 k:=fun k a b c=>(fr3 k (by rw [kK k a]; exact a) b c).trans (kK k a)
   have m3:K3 i3=_:=(fr3 i3 (by rw [k3]; simp) n13.symm fun e=>(nf4 _ e).1 rfl).trans k3
   have m4:K3 i4=_:=(fr3 i4 (by rw [k4]; simp) n14.symm fun e=>(nf4 _ e).2.1 rfl).trans k4
   have m5:K3 i5=_:=(fr3 i5 (by rw [k5]; simp) n15.symm fun e=>(nf4 _ e).2.2.1 rfl).trans k5
   refine ⟨pick_to fun k hk=> ?_, ?_⟩
   ·simp only [List.mem_cons,List.not_mem_nil,or_false] at hk
    rcases hk with rfl|rfl
    ·rw [m3,k3]
    ·rw [m5,k5]
   simp -implicitDefEqProofs only [go_sem]
   have sH3:Ab.Sub H K3:=fun k b hk=>by rw [kk3 k (by rw [s1 _ _ hk]; simp) (fun e=>by rw [e,hg1] at hk; cases hk) (fun e=>by have:=(of.nid e).1; rw [hk] at this; cases this)]; exact s1 _ _ hk
   have ol3:OwE 96 H K3 3 l (s.cases[i0].log.map hapA):=ol.keep fun k e=>kk3 k (ol.nid e).2.1 (nl4 k e).2.2.2 (fun e1=>hap k e1 e)
   have hX5:∀y1 y2:AV,Sized 5 (xs.set i0 (.agg (caseL s.cases[i0] y1 y2))):=fun y1 y2 z hz=>by
    rcases List.mem_or_eq_of_mem_set hz with hz|rfl
    ·exact hsz z hz
    ·rfl
   have mkO:∀ {G:Heap} {y1 y2:AV},G id1=some (.obj (flatA (xs.take i0)++(caseL s.cases[i0] y1 y2++(flatA (xs.drop (i0+1))++rest))) 57)→Ow 57 G 5 id1 z1 (xs.set i0 (.agg (caseL s.cases[i0] y1 y2))):=fun {G y1 y2} hG=>⟨cap,rest,by rw [List.length_set]; exact ey,by rw [hG,flat_set hjx]; simp [AV.cells],by rw [List.length_set]; exact hrl,by rw [List.length_set]; exact hcap,hX5 _ _⟩
   have hjs:∀x:AV,i0<(xs.set i0 x).length:=fun x=>by rw [List.length_set]; exact hjx
   refine .calls (pick K3 [i3,i5]) [0,1,2,3,4,5,6,7] pick_sub (by kernel_rfl) rfl ?_
   simp -implicitDefEqProofs only [go_sem,pick_at (show i3∈ [i3,i5] by simp),pick_at (show i5∈ [i3,i5] by simp),m3,m5]
   refine (mkO e1').idx (U:=U) (e:=57) i0 rfl (hjs _) uCase (by decide) ?_
   simp -implicitDefEqProofs only [go_sem,pick_at (show i3∈ [i3,i5] by simp),pick_at (show i5∈ [i3,i5] by simp),m3,m5]
   have hha:=happens_ok (h0:=H) (h:=K3) (s:=s) z1 z2 z3 z4 (k:=id1) (c:=s.cases[i0]) (f:=f') (l:=l) lA e1' (by decide) ol3 sH3 hfl o.subj [119,114,105,116,101]
   rw [hpp,hcC] at hha
   simp only [List.cons_append,List.nil_append] at hha
   refine hha.mono fun r K4 ⟨l',ol',e1'',fr4,ap4⟩=> ?_
   have m3' :K4 i3=_:=(fr4 i3 (by rw [m3]; simp) n13.symm fun e=>(nl4 _ e).1 rfl).trans m3
   have m4' :K4 i4=_:=(fr4 i4 (by rw [m4]; simp) n14.symm fun e=>(nl4 _ e).2.1 rfl).trans m4
   have m5' :K4 i5=_:=(fr4 i5 (by rw [m5]; simp) n15.symm fun e=>(nl4 _ e).2.2.1 rfl).trans m5
   refine ⟨pick_to fun k hk=> ?_, ?_⟩
   ·simp only [List.mem_cons,List.not_mem_nil,or_false] at hk
    rcases hk with rfl|rfl
    ·rw [m3',m3]
    ·rw [m5',m5]
   simp -implicitDefEqProofs only [go_sem]
   simp -implicitDefEqProofs only [go_sem,m5',m4',w1.rd.fit,w1.rd.cells,w2.rd.fit,w2.rd.cells,w3.rd.fit,w3.rd.cells,w4.rd.fit,w4.rd.cells]
   obtain ⟨K5,eK5⟩:∃K5,upd K4 i4 (some (.obj [.v (.int .i64 s.tick),z1,z2,z3,z4, .s pid, .v (.bool pset), .v (.int .i64 palg),tgtA ptgt, .sl (prules.map ruleA) .no, .sl (pkids.map polA) .no,oblsA pobls, .v (.int .i64 s.version)] 36))=K5:=⟨_,rfl⟩
   rw [eK5]
   have o5:∀k,k≠i4→K5 k=K4 k:=fun k a=>by rw [←eK5,upd_other _ _ a]
   have kk5:∀k,H k=none→H1 k≠none→k≠id1→nid f≠some k→nid l≠some k→K5 k=H1 k:=fun k a b c d e=>by
    have h3:=kk3 k b c d
    rw [o5 k (hz4 k a),fr4 k (by rw [h3]; exact b) c e,h3]
   have of5:OwE 131 H K5 4 f' _:=of'.keep fun id e=>by
    have h3:=(of'.nid e).2.1
    have n1:id≠id1:=fun e' =>by
     rcases ap3 id e with h|h
     ·rw [e',hidK] at h; cases h
     ·exact (nf4 id h).2.2.2 e'
    have n2:nid l≠some id:=fun e' =>by
     rcases ap3 id e with h|h
     ·have:=kK id (ol.nid e').2.1; rw [h] at this; exact (ol.nid e').2.1 this.symm
     ·exact hap id h e'
    rw [o5 id (hz4 id (of'.nid e).1),fr4 id h3 n1 n2]
   have ol5:OwE 96 H K5 3 l' _:=ol'.keep fun id e=>o5 id (hz4 id (ol'.nid e).1)
   have sg4:Ab.Sub g K4:=fun k b hk=>by
    have h1:=hH _ _ hk
    rw [fr4 k (by rw [sH3 _ _ h1]; simp) (fun e=>by rw [e,hg1] at h1; cases h1) (fun e=>by have:=(ol.nid e).1; rw [h1] at this; cases this)]
    exact sH3 _ _ h1
   have sg5:Ab.Sub g K5:=by rw [←eK5]; exact sg4.put h4' _
   have n1' :nid z1=some id1:=o1.nid
   have hdo:doD parseD s o= {s with cases:=s.cases.modify i0 fun c=>hapD s {c with fields:=writeD c.fields o.field o.val} o.subj [119,114,105,116,101]}:=by simp [doD,p3,ej]
   refine .mk _ (.refl _) (.refl _) ⟨sg5,_, ?_,fun _=>rfl⟩
   rw [hdo]
   have thr:∀w∈ [z1,z2,z3,z4],∀k,nid w=some k→H1 k≠none:=fun w hw k e=>by
    simp only [List.mem_cons,List.not_mem_nil,or_false] at hw
    rcases hw with rfl|rfl|rfl|rfl
    ·exact (w1.nid e).2.1
    ·exact (w2.nid e).2.1
    ·exact (w3.nid e).2.1
    ·exact (w4.nid e).2.1
   refine own_fin rfl hpp rfl ?_ ((w2.keep fun id e=>kk5 id (w2.nid e).1 (w2.nid e).2.1 (fun e1=>a12 id1 n1' (by rw [←e1]; exact e)) (fun e1=>(hys z2 (by simp)).1 id e1 e) (fun e1=>(hys z2 (by simp)).2 id e1 e)).lessN fun _ e=>hH.none e) ((w3.keep fun id e=>kk5 id (w3.nid e).1 (w3.nid e).2.1 (fun e1=>a13 id1 n1' (by rw [←e1]; exact e)) (fun e1=>(hys z3 (by simp)).1 id e1 e) (fun e1=>(hys z3 (by simp)).2 id e1 e)).lessN fun _ e=>hH.none e) ((w4.keep fun id e=>kk5 id (w4.nid e).1 (w4.nid e).2.1 (fun e1=>a14 id1 n1' (by rw [←e1]; exact e)) (fun e1=>(hys z4 (by simp)).1 id e1 e) (fun e1=>(hys z4 (by simp)).2 id e1 e)).lessN fun _ e=>hH.none e) ⟨a12,a13,a14,a23,a24,a34⟩
   refine own_mod (X:= .agg (caseL s.cases[i0] f' l')) ((show OwE 57 H K5 5 z1 _ from .inr ⟨id1,hg1,mkO ((o5 id1 n14).trans e1'')⟩).lessN (fun _ e=>hH.none e)) hnx (fun k h1 h2 hk=>hlo k h1 h2 hk) fun hh=>⟨f',l',rfl,of5.lessN (fun _ e=>hH.none e),ol5.lessN (fun _ e=>hH.none e),fun k e1 e2=> ?_,fun w hw=>⟨fun k e1 e2=> ?_,fun k e1 e2=> ?_⟩⟩
   ·rcases ap4 k e2 with h|h
    ·exact (of'.nid e1).2.1 h
    ·rcases ap3 k e1 with h' |h'
     ·exact (ol.nid h).2.1 (sK.none h')
     ·exact hap k h' h
   ·rcases ap3 k e1 with h|h
    ·exact thr w hw k e2 (sK.none h)
    ·exact (hys w hw).1 k h e2
   ·rcases ap4 k e1 with h|h
    ·by_cases h1:k=id1
     ·subst h1; rw [e1'] at h; cases h
     ·have:=kk3 k (thr w hw k e2) h1 (fun e=>(hys w hw).1 k e e2)
      rw [h] at this
      exact thr w hw k e2 this.symm
    ·exact (hys w hw).2 k h e2
  have k3' :(o.kind==3)=false:=by simp [p3]
  simp -implicitDefEqProofs only [go_sem,k1,k3']
  by_cases p4:o.kind=4
  ·have k4' :(o.kind==4)=true:=by simp [p4]
   simp -implicitDefEqProofs only [go_sem,k1,k3',k4']
   have hth:=ready_case p0 (.inr p4)
   have hlt:=thereD_lt hth
   obtain ⟨j,ej⟩:∃j,findD s.cases o.case=j:=⟨_,rfl⟩
   have hj:j<s.cases.length:=by rw [←ej]; exact hlt
   have hjx:j<xs.length:=by omega
   rw [ej] at hi0
   subst hi0
   obtain ⟨f,l,ex,of,ol,hap,hys⟩:=hmy hjx hj
   obtain ⟨id1,hg1,o1⟩:=w1.ow (by intro e; rw [e] at hjx; cases hjx)
   have o1' :=o1
   obtain ⟨cap,rest,ey,hid,hrl,hcap,hsz⟩:=o1'
   have lA:i0*5=(flatA (xs.take i0)).length:=by rw [flatA_length fun z hz=>hsz z (List.mem_of_mem_take hz),List.length_take]; omega
   have hidK:K id1=some (.obj (flatA (xs.take i0)++(caseL s.cases[i0] f l++(flatA (xs.drop (i0+1))++rest))) 57):=by
    rw [sK _ _ hid,flat_at hjx,ex]
    simp [caseL,AV.cells]
   have n14:id1≠i4:=hz4 id1 hg1
   have n13:id1≠i3:=fun e=>by rw [e,g3] at hg1; cases hg1
   have n15:id1≠i5:=fun e=>o1.none (by rw [e]; exact h5)
   have nf4:∀k,nid f=some k→k≠i3∧k≠i4∧k≠i5∧k≠id1:=fun k e=>⟨(fun e' =>by have:=(of.nid e).1; rw [e',g3] at this; cases this),hz4 k (of.nid e).1,hz5 k (of.nid e).1 (of.nid e).2.1,fun e' =>(hys z1 (by simp)).1 k e (by rw [e']; exact o1.nid)⟩
   have nl4:∀k,nid l=some k→k≠i3∧k≠i4∧k≠i5∧k≠id1:=fun k e=>⟨(fun e' =>by have:=(ol.nid e).1; rw [e',g3] at this; cases this),hz4 k (ol.nid e).1,hz5 k (ol.nid e).1 (ol.nid e).2.1,fun e' =>(hys z1 (by simp)).2 k e (by rw [e']; exact o1.nid)⟩
   have hff:=hf.fields _ (List.getElem_mem hj)
   have hfl:=hf.log _ (List.getElem_mem hj)
   rw [ej]
   simp -implicitDefEqProofs only [go_sem,k5,k3]
   refine (o1.sub sK).idx (U:=U) (e:=57) i0 rfl hjx uCase (by decide) ?_
   simp -implicitDefEqProofs only [go_sem,k5,k3,hidK]
   have e2:List.take (i0*5+2) (flatA (xs.take i0)++(caseL s.cases[i0] f l++(flatA (xs.drop (i0+1))++rest)))++ [.s o.to]++List.drop (i0*5+2+1) (flatA (xs.take i0)++(caseL s.cases[i0] f l++(flatA (xs.drop (i0+1))++rest)))=flatA (xs.take i0)++(caseL {s.cases[i0] with state:=o.to} f l++(flatA (xs.drop (i0+1))++rest)):=by
    have:=mid_put (A:=flatA (xs.take i0)++ [.s s.cases[i0].id, .s s.cases[i0].owner]) (B:= [.s s.cases[i0].state]) (C:=f::l::(flatA (xs.drop (i0+1))++rest)) (X:= [.s o.to]) (k:=i0*5+2) (m:=1) (by rw [lA]; simp) rfl rfl
    simp only [caseL,List.append_assoc,List.cons_append,List.nil_append] at this⊢
    exact this
   rw [e2]
   obtain ⟨K3,eK3⟩:∃K3,upd K id1 (some (.obj (flatA (xs.take i0)++(caseL {s.cases[i0] with state:=o.to} f l++(flatA (xs.drop (i0+1))++rest))) 57))=K3:=⟨_,rfl⟩
   rw [eK3]
   refine ⟨by simp only [List.length_append,←lA,caseL,List.length_cons,List.length_nil]; omega, ?_⟩
   have e1' :K3 id1=some (.obj (flatA (xs.take i0)++(caseL {s.cases[i0] with state:=o.to} f l++(flatA (xs.drop (i0+1))++rest))) 57):=by rw [←eK3,upd_same]
   have fr3:∀k,K k≠none→k≠id1→nid f≠some k→K3 k=K k:=fun k _ hk _=>by rw [←eK3,upd_other _ _ hk]
   have ap3:∀k,nid f=some k→K k=none∨nid f=some k:=fun k hk=> .inr hk
   have kk3:∀k,H1 k≠none→k≠id1→nid f≠some k→K3 k=H1 k:=fun k a b c=>(fr3 k (by rw [kK k a]; exact a) b c).trans (kK k a)
   have m3:K3 i3=_:=(fr3 i3 (by rw [k3]; simp) n13.symm fun e=>(nf4 _ e).1 rfl).trans k3
   have m4:K3 i4=_:=(fr3 i4 (by rw [k4]; simp) n14.symm fun e=>(nf4 _ e).2.1 rfl).trans k4
   have m5:K3 i5=_:=(fr3 i5 (by rw [k5]; simp) n15.symm fun e=>(nf4 _ e).2.2.1 rfl).trans k5
   obtain ⟨f',of',ef'⟩:∃f',OwE 131 H K3 4 f' (s.cases[i0].fields.map fieldA)∧f=f' :=⟨f,of.keep fun k e=>by rw [←eK3,upd_other _ _ (nf4 k e).2.2.2,kK k (of.nid e).2.1],rfl⟩
   rw [ef'] at e1'
   replace ap3:∀k,nid f' =some k→K k=none∨nid f=some k:=by rw [←ef']; exact ap3
   have sH3:Ab.Sub H K3:=fun k b hk=>by rw [kk3 k (by rw [s1 _ _ hk]; simp) (fun e=>by rw [e,hg1] at hk; cases hk) (fun e=>by have:=(of.nid e).1; rw [hk] at this; cases this)]; exact s1 _ _ hk
   have ol3:OwE 96 H K3 3 l (s.cases[i0].log.map hapA):=ol.keep fun k e=>kk3 k (ol.nid e).2.1 (nl4 k e).2.2.2 (fun e1=>hap k e1 e)
   have hX5:∀y1 y2:AV,Sized 5 (xs.set i0 (.agg (caseL ({s.cases[i0] with state:=o.to}:CaseD) y1 y2))):=fun y1 y2 z hz=>by
    rcases List.mem_or_eq_of_mem_set hz with hz|rfl
    ·exact hsz z hz
    ·rfl
   have mkO:∀ {G:Heap} {y1 y2:AV},G id1=some (.obj (flatA (xs.take i0)++(caseL ({s.cases[i0] with state:=o.to}:CaseD) y1 y2++(flatA (xs.drop (i0+1))++rest))) 57)→Ow 57 G 5 id1 z1 (xs.set i0 (.agg (caseL ({s.cases[i0] with state:=o.to}:CaseD) y1 y2))):=fun {G y1 y2} hG=>⟨cap,rest,by rw [List.length_set]; exact ey,by rw [hG,flat_set hjx]; simp [AV.cells],by rw [List.length_set]; exact hrl,by rw [List.length_set]; exact hcap,hX5 _ _⟩
   have hjs:∀x:AV,i0<(xs.set i0 x).length:=fun x=>by rw [List.length_set]; exact hjx
   refine .calls (pick K3 [i3,i5]) [0,1,2,3,4,5,6,7,8,9] pick_sub (by kernel_rfl) rfl ?_
   simp -implicitDefEqProofs only [go_sem,pick_at (show i3∈ [i3,i5] by simp),pick_at (show i5∈ [i3,i5] by simp),m3,m5]
   refine (mkO e1').idx (U:=U) (e:=57) i0 rfl (hjs _) uCase (by decide) ?_
   simp -implicitDefEqProofs only [go_sem,pick_at (show i3∈ [i3,i5] by simp),pick_at (show i5∈ [i3,i5] by simp),m3,m5]
   have hha:=happens_ok (h0:=H) (h:=K3) (s:=s) z1 z2 z3 z4 (k:=id1) (c:=({s.cases[i0] with state:=o.to}:CaseD)) (f:=f') (l:=l) lA e1' (by decide) ol3 sH3 hfl o.subj o.to
   rw [hpp,hcC] at hha
   simp only [List.cons_append,List.nil_append] at hha
   refine hha.mono fun r K4 ⟨l',ol',e1'',fr4,ap4⟩=> ?_
   have m3' :K4 i3=_:=(fr4 i3 (by rw [m3]; simp) n13.symm fun e=>(nl4 _ e).1 rfl).trans m3
   have m4' :K4 i4=_:=(fr4 i4 (by rw [m4]; simp) n14.symm fun e=>(nl4 _ e).2.1 rfl).trans m4
   have m5' :K4 i5=_:=(fr4 i5 (by rw [m5]; simp) n15.symm fun e=>(nl4 _ e).2.2.1 rfl).trans m5
   refine ⟨pick_to fun k hk=> ?_, ?_⟩
   ·simp only [List.mem_cons,List.not_mem_nil,or_false] at hk
    rcases hk with rfl|rfl
    ·rw [m3',m3]
    ·rw [m5',m5]
   simp -implicitDefEqProofs only [go_sem]
   simp -implicitDefEqProofs only [go_sem,m5',m4',w1.rd.fit,w1.rd.cells,w2.rd.fit,w2.rd.cells,w3.rd.fit,w3.rd.cells,w4.rd.fit,w4.rd.cells]
   obtain ⟨K5,eK5⟩:∃K5,upd K4 i4 (some (.obj [.v (.int .i64 s.tick),z1,z2,z3,z4, .s pid, .v (.bool pset), .v (.int .i64 palg),tgtA ptgt, .sl (prules.map ruleA) .no, .sl (pkids.map polA) .no,oblsA pobls, .v (.int .i64 s.version)] 36))=K5:=⟨_,rfl⟩
   rw [eK5]
   have o5:∀k,k≠i4→K5 k=K4 k:=fun k a=>by rw [←eK5,upd_other _ _ a]
   have kk5:∀k,H k=none→H1 k≠none→k≠id1→nid f≠some k→nid l≠some k→K5 k=H1 k:=fun k a b c d e=>by
    have h3:=kk3 k b c d
    rw [o5 k (hz4 k a),fr4 k (by rw [h3]; exact b) c e,h3]
   have of5:OwE 131 H K5 4 f' _:=of'.keep fun id e=>by
    have h3:=(of'.nid e).2.1
    have n1:id≠id1:=fun e' =>by
     rcases ap3 id e with h|h
     ·rw [e',hidK] at h; cases h
     ·exact (nf4 id h).2.2.2 e'
    have n2:nid l≠some id:=fun e' =>by
     rcases ap3 id e with h|h
     ·have:=kK id (ol.nid e').2.1; rw [h] at this; exact (ol.nid e').2.1 this.symm
     ·exact hap id h e'
    rw [o5 id (hz4 id (of'.nid e).1),fr4 id h3 n1 n2]
   have ol5:OwE 96 H K5 3 l' _:=ol'.keep fun id e=>o5 id (hz4 id (ol'.nid e).1)
   have sg4:Ab.Sub g K4:=fun k b hk=>by
    have h1:=hH _ _ hk
    rw [fr4 k (by rw [sH3 _ _ h1]; simp) (fun e=>by rw [e,hg1] at h1; cases h1) (fun e=>by have:=(ol.nid e).1; rw [h1] at this; cases this)]
    exact sH3 _ _ h1
   have sg5:Ab.Sub g K5:=by rw [←eK5]; exact sg4.put h4' _
   have n1' :nid z1=some id1:=o1.nid
   have hdo:doD parseD s o= {s with cases:=s.cases.modify i0 fun c=>hapD s {c with state:=o.to} o.subj o.to}:=by simp [doD,p4,ej]
   refine .mk _ (.refl _) (.refl _) ⟨sg5,_, ?_,fun _=>rfl⟩
   rw [hdo]
   have thr:∀w∈ [z1,z2,z3,z4],∀k,nid w=some k→H1 k≠none:=fun w hw k e=>by
    simp only [List.mem_cons,List.not_mem_nil,or_false] at hw
    rcases hw with rfl|rfl|rfl|rfl
    ·exact (w1.nid e).2.1
    ·exact (w2.nid e).2.1
    ·exact (w3.nid e).2.1
    ·exact (w4.nid e).2.1
   refine own_fin rfl hpp rfl ?_ ((w2.keep fun id e=>kk5 id (w2.nid e).1 (w2.nid e).2.1 (fun e1=>a12 id1 n1' (by rw [←e1]; exact e)) (fun e1=>(hys z2 (by simp)).1 id e1 e) (fun e1=>(hys z2 (by simp)).2 id e1 e)).lessN fun _ e=>hH.none e) ((w3.keep fun id e=>kk5 id (w3.nid e).1 (w3.nid e).2.1 (fun e1=>a13 id1 n1' (by rw [←e1]; exact e)) (fun e1=>(hys z3 (by simp)).1 id e1 e) (fun e1=>(hys z3 (by simp)).2 id e1 e)).lessN fun _ e=>hH.none e) ((w4.keep fun id e=>kk5 id (w4.nid e).1 (w4.nid e).2.1 (fun e1=>a14 id1 n1' (by rw [←e1]; exact e)) (fun e1=>(hys z4 (by simp)).1 id e1 e) (fun e1=>(hys z4 (by simp)).2 id e1 e)).lessN fun _ e=>hH.none e) ⟨a12,a13,a14,a23,a24,a34⟩
   refine own_mod (X:= .agg (caseL ({s.cases[i0] with state:=o.to}:CaseD) f' l')) ((show OwE 57 H K5 5 z1 _ from .inr ⟨id1,hg1,mkO ((o5 id1 n14).trans e1'')⟩).lessN (fun _ e=>hH.none e)) hnx (fun k h1 h2 hk=>hlo k h1 h2 hk) fun hh=>⟨f',l',rfl,of5.lessN (fun _ e=>hH.none e),ol5.lessN (fun _ e=>hH.none e),fun k e1 e2=> ?_,fun w hw=>⟨fun k e1 e2=> ?_,fun k e1 e2=> ?_⟩⟩
   ·rcases ap4 k e2 with h|h
    ·exact (of'.nid e1).2.1 h
    ·rcases ap3 k e1 with h' |h'
     ·exact (ol.nid h).2.1 (sK.none h')
     ·exact hap k h' h
   ·rcases ap3 k e1 with h|h
    ·exact thr w hw k e2 (sK.none h)
    ·exact (hys w hw).1 k h e2
   ·rcases ap4 k e1 with h|h
    ·by_cases h1:k=id1
     ·subst h1; rw [e1'] at h; cases h
     ·have:=kk3 k (thr w hw k e2) h1 (fun e=>(hys w hw).1 k e e2)
      rw [h] at this
      exact thr w hw k e2 this.symm
    ·exact (hys w hw).2 k h e2
  have k4' :(o.kind==4)=false:=by simp [p4]
  simp -implicitDefEqProofs only [go_sem,k1,k3',k4']
  have kkK:∀k,H k=none→H1 k≠none→K k=H1 k:=fun k _ b=>kK k b
  by_cases p5:o.kind=5
  ·have k5' :(o.kind==5)=true:=by simp [p5]
   simp -implicitDefEqProofs only [go_sem,k1,k3',k4',k5']
   have hrv:0<o.review:=by
    simp only [formD,takesD,Bool.and_eq_true] at hform
    simpa [okD,p5] using hform.2.1.2
   obtain ⟨n,en⟩:∃n:Nat,o.review=((n:Nat):Int)+1:=⟨(o.review - 1).toNat,by omega⟩
   have w5:IntKind.i64.wrap (o.review - 1)=((n:Nat):Int):=by rw [wr64 _ (by have:=hr.2; omega)]; omega
   have hn5:n<s.reviews.length:=by
    have:readyCloseD s o=0:=by simpa [readyD,hform,p5] using p0
    unfold readyCloseD at this
    have e1:revAt s.reviews o.review=s.reviews[n]? :=by unfold revAt; rw [if_pos (by omega),show (o.review - 1).toNat=n by omega]
    rw [e1] at this
    by_cases hlt:n<s.reviews.length
    ·exact hlt
    ·rw [List.getElem?_eq_none (by omega)] at this; cases this
   have hnm:n<(s.reviews.map revA).length:=by simpa using hn5
   obtain ⟨id2,hg2,o2⟩:=w2.ow (by intro e; rw [e] at hnm; cases hnm)
   have o2' :=o2
   obtain ⟨cap,rest,ey,hid,hrl,hcap,hsz⟩:=o2'
   have n24:id2≠i4:=hz4 id2 hg2
   have n25:id2≠i5:=hz5 id2 hg2 o2.none
   have hidK:=sK _ _ hid
   simp -implicitDefEqProofs only [go_sem,k5,k3,w5]
   refine (o2.sub sK).idx (U:=U) (e:=82) n rfl hnm (by simp only [go_sem]) (by decide) ?_
   simp -implicitDefEqProofs only [go_sem,k5,k3,w5,hidK]
   have e2:List.take (n*7+6) (flatA (s.reviews.map revA)++rest)++ [.v (.bool false)]++List.drop (n*7+6+1) (flatA (s.reviews.map revA)++rest)=flatA ((s.reviews.modify n fun r=> {r with isOpen:=false}).map revA)++rest:=by
    refine (put_flat hsz n hnm 6 [.v (.bool false)] (Nat.le_of_ble_eq_true rfl)).trans ?_
    congr 2
    refine List.ext_getElem (by simp) fun j h1 h2=> ?_
    by_cases e:j=n
    ·subst e; simp [List.getElem_modify,revA,AV.cells,Ab.over]
    ·rw [List.getElem_set_ne (Ne.symm e)]; simp [List.getElem_modify,Ne.symm e]
   rw [e2]
   refine ⟨by rw [List.length_append,flatA_length hsz]; omega, ?_⟩
   have k5b:∀b,upd K id2 b i5=_:=fun b=>(upd_other _ _ n25.symm).trans k5
   have k4b:∀b,upd K id2 b i4=_:=fun b=>(upd_other _ _ n24.symm).trans k4
   simp -implicitDefEqProofs only [go_sem,k5b,k4b,w1.rd.fit,w1.rd.cells,w2.rd.fit,w2.rd.cells,w3.rd.fit,w3.rd.cells,w4.rd.fit,w4.rd.cells]
   have hdo:doD parseD s o= {s with reviews:=s.reviews.modify n fun r=> {r with isOpen:=false}}:=by simp [doD,p5,en]
   have kz:∀a b k,H k=none→H1 k≠none→nid z2≠some k→upd (upd K id2 a) i4 b k=H1 k:=fun a b k c d e=>by rw [upd_other _ _ (hz4 k c),upd_other _ _ (fun e' =>e (by rw [e']; exact o2.nid)),kK k d]
   refine .mk _ (.refl _) (.refl _) ⟨(Sub.put (i:=id2) sg (hH.none hg2) _).put h4' _,_, ?_,fun _=>hi0⟩
   rw [hdo]
   exact own_fin rfl hpp rfl ((hC.keepx (z:=z2) (by simp) a12 (kz _ _)).lessN (fun _ e=>hH.none e)) (.inr ⟨id2,hH.none hg2,cap,rest,by rw [ey]; simp,by rw [upd_other _ _ n24,upd_same],by rw [hrl]; simp,by simpa using hcap,sized_map (f:=revA) (n:=7) (fun _=>rfl) _⟩) ((w3.keep fun id e=>kz _ _ id (w3.nid e).1 (w3.nid e).2.1 fun e1=>a23 id e1 e).lessN fun _ e=>hH.none e) ((w4.keep fun id e=>kz _ _ id (w4.nid e).1 (w4.nid e).2.1 fun e1=>a24 id e1 e).lessN fun _ e=>hH.none e) ⟨a12,a13,a14,a23,a24,a34⟩
  have k5' :(o.kind==5)=false:=by simp [p5]
  simp -implicitDefEqProofs only [go_sem,k1,k3',k4',k5']
  by_cases p6:o.kind=6
  ·have k6' :(o.kind==6)=true:=by simp [p6]
   simp -implicitDefEqProofs only [go_sem,k1,k3',k4',k5',k6']
   simp -implicitDefEqProofs only [go_sem,k5,k3]
   have hha6:=has_ok hSK.rd o.case o.field (Nat.le_trans hf.roles (by decide))
   rw [hpp,hcC] at hha6
   simp only [List.cons_append,List.nil_append] at hha6
   refine hha6.pthen ?_
   cases dha:hasD s.roles ⟨o.case,o.field⟩
   ·simp -implicitDefEqProofs only [go_sem,dha]
    simp -implicitDefEqProofs only [go_sem,k5,k3]
    have hap1:Rd K 2 (.sl [roleA ⟨o.case,o.field⟩] .full) [roleA ⟨o.case,o.field⟩]:= .sl (by intro z hz; rw [List.mem_singleton.1 hz]; rfl) .full
    have hfr:=hf.roles
    refine OwE.app (U:=U) (tb:=71) (w4.sub sK) (s1.trans sK) hap1 (by simp only [go_sem]) (by decide) (by simp only [go_sem,ne_eq,not_false_eq_true]) (by simp only [go_sem]) (by simp) (by simp only [go_sem,List.length_cons,List.length_nil,List.length_map]; omega) fun id4 y' K3 g4' hor hw ho2=> ?_
    have hor' :K id4=none∨nid z4=some id4:=by
     rcases hor with hor|⟨l,c,ey⟩
     ·exact .inl hor
     ·exact .inr (by rw [ey]; rfl)
    have n44:i4≠id4:=fun e=>by rw [←e,g4] at g4'; cases g4'
    have n45:i5≠id4:=fun e=>by
     rcases hor' with hor|hor
     ·rw [←e,k5] at hor; cases hor
     ·exact (w4.nid hor).2.1 (by rw [←e]; exact h5)
    have m4:K3 i4=_:=(ho2 i4 n44).trans k4
    have m5:K3 i5=_:=(ho2 i5 n45).trans k5
    simp -implicitDefEqProofs only [go_sem,m5,hw.rd.fit,hw.rd.cells]
    simp -implicitDefEqProofs only [go_sem,upd_ne,n54,n54.symm,m4,hw.rd.fit,hw.rd.cells,w1.rd.fit,w1.rd.cells,w2.rd.fit,w2.rd.cells,w3.rd.fit,w3.rd.cells,w4.rd.fit,w4.rd.cells]
    have hdo:doD parseD s o= {s with roles:=s.roles++ [⟨o.case,o.field⟩]}:=by simp [doD,p6,dha]
    have gid4:g id4=none:=hH.none g4'
    have kz:∀a b k,H k=none→H1 k≠none→nid z4≠some k→upd (upd K3 i5 a) i4 b k=H1 k:=fun a b k c d e=>by
     have:k≠id4:=fun e' =>by
      rcases hor' with hor|hor
      ·have:=kK k d; rw [e',hor] at this; exact d (by rw [e']; exact this.symm)
      ·exact e (by rw [e']; exact hor)
     rw [upd_other _ _ (hz4 k c),upd_other _ _ (hz5 k c d),ho2 k this,kK k d]
    have sg3:Ab.Sub g K3:=fun k b hk=>by rw [ho2 k (fun e=>by rw [e,gid4] at hk; cases hk)]; exact sg _ _ hk
    refine .mk _ (.refl _) (.refl _) ⟨(sg3.put g5 _).put h4' _,_, ?_,fun _=>hi0⟩
    rw [hdo]
    have hw' :OwE 71 g K3 2 y' ((s.roles++ [(⟨o.case,o.field⟩:RoleD)]).map roleA):=by rw [List.map_append]; exact .inr ⟨id4,gid4,hw⟩
    have hry:∀k,nid y' =some k→H1 k=none∨nid z4=some k:=fun k e=>by
     have:id4=k:=by have:=hw.nid; rw [e] at this; exact (Option.some.inj this).symm
     subst this
     exact hor'.imp (fun h=>sK.none h) id
    have har:∀ {w:AV},apart w z4→(∀k,nid w=some k→H1 k≠none)→apart w y' :=fun ha hh k e1 e2=>(hry k e2).elim (fun h=>hh k e1 h) (fun h=>ha k e1 h)
    refine own_fin rfl hpp rfl ((hC.move (z:=z4) (by simp) a14 (kz _ _) fun w hw k e=> ?_).lessN (fun _ e=>hH.none e)) ((w2.keep fun id e=>kz _ _ id (w2.nid e).1 (w2.nid e).2.1 fun e1=>a24 id e e1).lessN fun _ e=>hH.none e) ((w3.keep fun id e=>kz _ _ id (w3.nid e).1 (w3.nid e).2.1 fun e1=>a34 id e e1).lessN fun _ e=>hH.none e) (hw'.keep fun id e=> ?_) ⟨a12,a13,har a14 fun k e=>(w1.nid e).2.1,a23,har a24 fun k e=>(w2.nid e).2.1,har a34 fun k e=>(w3.nid e).2.1⟩
    ·simp only [List.mem_cons,List.not_mem_nil,or_false] at hw
     rcases hw with rfl|rfl|rfl|rfl
     ·exact .inr ⟨w,by simp,e⟩
     ·exact .inr ⟨w,by simp,e⟩
     ·exact .inr ⟨w,by simp,e⟩
     ·exact (hry k e).imp id fun h=>⟨z4,by simp,h⟩
    ·have:id=id4:=by have:=hw.nid; rw [e] at this; exact Option.some.inj this
     rw [this,upd_other _ _ n44.symm,upd_other _ _ n45.symm]
   ·simp -implicitDefEqProofs only [go_sem,dha]
    simp -implicitDefEqProofs only [go_sem,k5,k4,w1.rd.fit,w1.rd.cells,w2.rd.fit,w2.rd.cells,w3.rd.fit,w3.rd.cells,w4.rd.fit,w4.rd.cells]
    have hdo:doD parseD s o=s:=by simp [doD,p6,dha]
    rw [hdo]
    refine .mk _ (.refl _) (.refl _) ⟨sg.put h4' _,_,(hS.keepb fun k hk hk1=> ?_).lessN fun _ e=>hH.none e,fun _=>hi0⟩
    rw [upd_other _ _ (hz4 k hk),kK k hk1]
  have k6' :(o.kind==6)=false:=by simp [p6]
  simp -implicitDefEqProofs only [go_sem,k1,k3',k4',k5',k6']
  by_cases p7:o.kind=7
  ·have k7' :(o.kind==7)=true:=by simp [p7]
   simp -implicitDefEqProofs only [go_sem,k1,k3',k4',k5',k6',k7']
   simp -implicitDefEqProofs only [go_sem,k3]
   refine (parse_ok o.text _ (he.sub sg)).pthen ?_
   obtain ⟨⟨pp,e,a⟩,epp⟩:∃x,parseD o.text=x:=⟨_,rfl⟩
   obtain ⟨qid,qset,qalg,qtgt,qrules,qkids,qobls⟩:=pp
   rw [epp]
   simp -implicitDefEqProofs only [go_sem,parsedA,polA,kidsA_eq]
   intro i9 h9
   have n95:i5≠i9:=fun e=>by rw [←e,k5] at h9; cases h9
   have n94:i4≠i9:=fun e=>by rw [←e,k4] at h9; cases h9
   simp -implicitDefEqProofs only [go_sem]
   have g9:g i9=none:=sg.none h9
   have sg9:∀b,Ab.Sub g (upd K i9 b):=fun b=>sg.put g9 b
   have hz9:∀k,H1 k≠none→k≠i9:=fun k hk e=>hk (by have:=kK k hk; rw [e,h9] at this; rw [e]; exact this.symm)
   by_cases pe:e=0
   ·have de:(e==0)=true:=by simp [pe]
    have wv:IntKind.i64.wrap (s.version+1)=s.version+1:=wr64 _ (by omega)
    simp -implicitDefEqProofs only [go_sem,de]
    simp -implicitDefEqProofs only [go_sem,upd_ne,n95,n95.symm,n94,n94.symm,n54,n54.symm,k5,k4,wv]
    have hdo:doD parseD s o= {s with policy:= .mk qid qset qalg qtgt qrules qkids qobls,version:=s.version+1}:=by simp [doD,p7,epp,pe]
    have kz:∀a b c k,H k=none→H1 k≠none→upd (upd (upd K i9 a) i5 b) i4 c k=H1 k:=fun a b c k d e=>by rw [upd_other _ _ (hz4 k d),upd_other _ _ (hz5 k d e),upd_other _ _ (hz9 k e),kK k e]
    refine .mk _ (.refl _) (.refl _) ⟨((sg9 _).put g5 _).put h4' _,_, ?_,fun _=>hi0⟩
    rw [hdo]
    exact own_fin rfl rfl rfl ((hC.keepb (kz _ _ _)).lessN (fun _ e=>hH.none e)) ((w2.keepb (kz _ _ _)).lessN (fun _ e=>hH.none e)) ((w3.keepb (kz _ _ _)).lessN (fun _ e=>hH.none e)) ((w4.keepb (kz _ _ _)).lessN (fun _ e=>hH.none e)) ⟨a12,a13,a14,a23,a24,a34⟩
   ·have de:(e==0)=false:=by simp [pe]
    simp -implicitDefEqProofs only [go_sem,de]
    simp -implicitDefEqProofs only [go_sem,upd_ne,n95,n95.symm,n94,n94.symm,n54,n54.symm,k5,k4,w1.rd.fit,w1.rd.cells,w2.rd.fit,w2.rd.cells,w3.rd.fit,w3.rd.cells,w4.rd.fit,w4.rd.cells]
    have hdo:doD parseD s o=s:=by simp [doD,p7,epp,pe]
    rw [hdo]
    refine .mk _ (.refl _) (.refl _) ⟨(sg9 _).put h4' _,_,(hS.keepb fun k hk hk1=> ?_).lessN fun _ e=>hH.none e,fun _=>hi0⟩
    rw [upd_other _ _ (hz4 k hk),upd_other _ _ (hz9 k hk1),kK k hk1]
  have k7' :(o.kind==7)=false:=by simp [p7]
  simp -implicitDefEqProofs only [go_sem,k1,k3',k4',k5',k6',k7']
  by_cases p8:o.kind=8
  ·have k8' :(o.kind==8)=true:=by simp [p8]
   simp -implicitDefEqProofs only [go_sem,k1,k3',k4',k5',k6',k7',k8']
   have hrv:0<o.review∧o.review≤1099511627776:=by
    simp only [formD,takesD,Bool.and_eq_true] at hform
    simpa [okD,p8] using hform.2.1.2
   have htk:¬s.tick>1099511627776 - o.review:=by
    intro hgt
    simp [readyD,hform,p8,hgt] at p0
   have w8:IntKind.i64.wrap (s.tick+o.review)=s.tick+o.review:=wr64 _ (by have:=ht.1; omega)
   simp -implicitDefEqProofs only [go_sem,k5,k3,w8]
   simp -implicitDefEqProofs only [go_sem,upd_ne,n54,n54.symm,k4,w1.rd.fit,w1.rd.cells,w2.rd.fit,w2.rd.cells,w3.rd.fit,w3.rd.cells,w4.rd.fit,w4.rd.cells]
   have hdo:doD parseD s o= {s with tick:=s.tick+o.review}:=by simp [doD,p8]
   have kz:∀a b k,H k=none→H1 k≠none→upd (upd K i5 a) i4 b k=H1 k:=fun a b k c d=>by rw [upd_other _ _ (hz4 k c),upd_other _ _ (hz5 k c d),kK k d]
   refine .mk _ (.refl _) (.refl _) ⟨(sg.put g5 _).put h4' _,_, ?_,fun _=>hi0⟩
   rw [hdo]
   exact own_fin rfl hpp rfl ((hC.keepb (kz _ _)).lessN (fun _ e=>hH.none e)) ((w2.keepb (kz _ _)).lessN (fun _ e=>hH.none e)) ((w3.keepb (kz _ _)).lessN (fun _ e=>hH.none e)) ((w4.keepb (kz _ _)).lessN (fun _ e=>hH.none e)) ⟨a12,a13,a14,a23,a24,a34⟩
  have k8' :(o.kind==8)=false:=by simp [p8]
  simp -implicitDefEqProofs only [go_sem,k1,k3',k4',k5',k6',k7',k8']
  simp -implicitDefEqProofs only [go_sem,k5,k4,w1.rd.fit,w1.rd.cells,w2.rd.fit,w2.rd.cells,w3.rd.fit,w3.rd.cells,w4.rd.fit,w4.rd.cells]
  have hdo:doD parseD s o=s:=by simp [doD,p1,p3,p4,p5,p6,p7,p8]
  rw [hdo]
  refine .mk _ (.refl _) (.refl _) ⟨sg.put h4' _,_,(hS.keepb fun k hk hk1=> ?_).lessN fun _ e=>hH.none e,fun _=>hi0⟩
  rw [upd_other _ _ (hz4 k hk),kK k hk1]
 ·have d0:(readyD s o !=0)=true:=by simp [p0]
  simp -implicitDefEqProofs only [go_sem,d0]
  simp -implicitDefEqProofs only [go_sem,k5,k4,w1.rd.fit,w1.rd.cells,w2.rd.fit,w2.rd.cells,w3.rd.fit,w3.rd.cells,w4.rd.fit,w4.rd.cells]
  have hdone:doneD parseD s o=s:=by simp [doneD,p0]
  rw [hdone]
  refine .mk _ (.refl _) (.refl _) ⟨sg.put h4' _,_,(hS.keepb fun k hk hk1=> ?_).lessN fun _ e=>hH.none e,fun h=>(p0 h).elim⟩
  rw [upd_other _ _ (hz4 k hk),kK k hk1]
theorem done_ok {h:Heap} {x:AV} {s:StoreD} (hb:RdS h x s) (o:OpD) (hf:Few s) (hp:polE 1 s.policy) (hr:i64 o.review) (ht:i64 s.tick) (hver:0≤s.version∧s.version≤1000000) (he:ErrT h):
  FnOK Tryz.prog 33 [x,opA o] h fun r h' =>r=storeA (doneD parseD s o)∧h' =h:=
 FnOK.freeze fun g hg _=>(done_own (hb.sub hg) o hf hp hr ht hver (he.sub hg)).mono fun r h' ⟨h1,j,h2,_⟩=>⟨h1,_,h2.frz (.refl _),rfl⟩
end Go.Proofs.YtmlhcdeamjkpjaaGreatDoor

set_option linter.unusedSimpArgs false
set_option linter.unusedVariables false
namespace Go.Bf
def leastT:Txt:= [112,111,108,105,99,121,32,111,112,101,110,32,112,101,114,109,105,116,117,110,108,101,115,115,32,123,32,125]
def leastP:PolD:= .mk openT false 6 [] [] [] []
def newD:StoreD:=⟨0,[],[],[],[],leastP,0⟩
end Go.Bf
namespace Go.Proofs.YtmlhcdeamjkpjaaGreatDoor
open Go Go.Ab Go.Bf
theorem frz_fin {g K:Heap} {S:StoreD} {y1 y2 y3 y4:AV} {tk ver palg:Int} {pid:Txt} {pset:Bool} {ptgt:TgtD} {prules:List RuleD} {pkids:List PolD} {pobls:List OblD} (h1:S.tick=tk) (h2:S.policy= .mk pid pset palg ptgt prules pkids pobls) (h3:S.version=ver)
  (a:Frz g K y1 (casesA S.cases)) (b:Frz g K y2 (revsA S.reviews)) (c:Frz g K y3 (notsA S.notices)) (d:Frz g K y4 (rolesA S.roles)):
  Frz g K (.agg [.v (.int .i64 tk),y1,y2,y3,y4, .s pid, .v (.bool pset), .v (.int .i64 palg),tgtA ptgt, .sl (prules.map ruleA) .no, .sl (pkids.map polA) .no,oblsA pobls, .v (.int .i64 ver)]) (storeA S):=by
 have:=frz_store a b c d
 rw [h1,h2,h3,show polC (.mk pid pset palg ptgt prules pkids pobls)= [.s pid, .v (.bool pset), .v (.int .i64 palg),tgtA ptgt, .sl (prules.map ruleA) .no, .sl (pkids.map polA) .no,oblsA pobls] by simp [polC,kidsA_eq]] at this
 exact this
theorem upd_comm' {H:Heap} {i j:Nat} {a b:Option Blk} (c:Option Blk) (h:i≠j):upd (upd (upd H i a) j b) i c=upd (upd H i c) j b:=by
 funext k
 by_cases e:k=i
 ·rw [e,upd_same,upd_other _ _ h,upd_same]
 ·rw [upd_other _ _ e]
  by_cases e2:k=j
  ·rw [e2,upd_same,upd_same]
  ·rw [upd_other _ _ e2,upd_other _ _ e2,upd_other _ _ e,upd_other _ _ e]
theorem least_is:parseD leastT=(leastP,0,0):=by kernel_rfl
theorem least_polE:polE 1 leastP:=by
 unfold leastP polE
 exact ⟨by decide,by decide,by decide,by decide,fun h=>(by cases h),fun _=>⟨rfl,by decide⟩,rfl,rfl,by decide,by decide,fun r hr=>(by cases hr),trivial⟩
theorem few_new:Few newD:=⟨by decide,fun c hc=>(by cases hc),fun c hc=>(by cases hc),by decide,by decide,by decide⟩
theorem new_ok (h:Heap) (he:ErrT h):FnOK Tryz.prog 16 [] h fun r h' =>r=storeA newD∧h' =h:=
 FnOK.freeze fun g hg _=>by
 replace he:=he.sub hg
 refine FnOK.body hU hm Tryz.func16 rfl (by kernel_rfl) 11 rfl [.cell 0 36] rfl (Nat.le_of_ble_eq_true rfl) (fun hwf=> ?_)
 simp -implicitDefEqProofs only [go_sem]
 intro i1 h1
 simp -implicitDefEqProofs only [go_sem]
 refine (parse_ok leastT _ (he.sub (.upd_new h1))).pthen ?_
 rw [least_is]
 simp -implicitDefEqProofs only [go_sem,parsedA,leastP,polA,tgtA,oblsA,kidsA,openT,List.map_nil]
 intro i2 h2
 have n21:=ne_upd h2
 have n2:=upd_none h2
 simp -implicitDefEqProofs only [go_sem,upd_ne,n21,n21.symm]
 refine .mk _ (.refl _) (.refl _) ⟨?_,storeA newD,frz_fin (S:=newD) rfl rfl rfl frz_empty frz_empty frz_empty frz_empty,rfl⟩
 rw [upd_comm' _ n21.symm]
 exact ((Sub.refl g).put h1 _).put n2 _
theorem id_ok (s:Txt) (h:Heap):FnOK Tryz.prog 68 [.s s] h fun r h' =>r=valA (idV s)∧h' =h:=by
 refine FnOK.body hU hm Tryz.func68 rfl (by kernel_rfl) 5 rfl [.cell 2 42] rfl (Nat.le_of_ble_eq_true rfl) (fun hwf=> ?_)
 simp -implicitDefEqProofs only [go_sem]
 intro i1 h1
 simp -implicitDefEqProofs only [go_sem]
 exact .mk _ (.refl _) (.upd_new h1) ⟨rfl,rfl⟩
theorem given_ok (cat:Int) (name:Txt) (xs:List AV) (q:Perm) (h:Heap):FnOK Tryz.prog 69 [.v (.int .i64 cat), .s name, .sl xs q] h fun r h' =>r= .agg [.v (.int .i64 cat), .s name, .sl xs q]∧h' =h:=by
 refine FnOK.body hU hm Tryz.func69 rfl (by kernel_rfl) 11 rfl [.cell 6 123] rfl (Nat.le_of_ble_eq_true rfl) (fun hwf=> ?_)
 simp -implicitDefEqProofs only [go_sem]
 intro i1 h1
 simp -implicitDefEqProofs only [go_sem]
 exact .mk _ (.refl _) (.upd_new h1) ⟨rfl,rfl⟩
theorem lgiven_ok (cat:Int) (name:Txt) (k n:Int) (s:Txt) (h:Heap):FnOK Tryz.prog 86 [.v (.int .i64 cat), .s name, .v (.int .i64 k), .v (.int .i64 n), .s s] h fun r h' =>r= .agg [.v (.int .i64 cat), .s name, .sl [valA ⟨k,n,s⟩] .full]∧h' =h:=by
 refine FnOK.body hU hm Tryz.func86 rfl (by kernel_rfl) 19 rfl [.cell 10 123] rfl (Nat.le_of_ble_eq_true rfl) (fun hwf=> ?_)
 simp -implicitDefEqProofs only [go_sem]
 intro i1 h1
 simp -implicitDefEqProofs only [go_sem]
 exact .mk _ (.refl _) (.upd_new h1) ⟨rfl,rfl⟩
theorem ixHap_ok {α:Type} (y:AV) (xs:List AV) (ds:List α) (q:α→Bool) (g:FuncId) (cap:List AV) (h:Heap) (hb:Rd h 3 y xs) (hn:xs.length=ds.length) (hl:xs.length≤1000000000) (hx:∀x∈xs,isAggA x=true)
  (hp:∀i (h1:i<xs.length) (h2:i<ds.length),FnOK Tryz.prog g (xs[i]::cap) h fun r h' =>r= .v (.bool (q ds[i]))∧h' =h):
  FnOK Tryz.prog 223 [y, .fn g cap] h fun r h' =>r= .v (.int .i64 (ixD q ds))∧h' =h:=by
 refine FnOK.body hU hm Tryz.func223 rfl (by kernel_rfl) 19 rfl [.tmp 4] rfl (Nat.le_of_ble_eq_true rfl) (fun hwf=> ?_)
 simp -implicitDefEqProofs only [go_sem,hb.len]
 refine .intro (fun m ρ h' =>h' =h∧∃i:Nat,i≤xs.length∧m=xs.length - i∧(∀j (hj:j<i) (h2:j<ds.length),q ds[j]=false)∧lk ρ 0=some y∧lk ρ 1=some (.fn g cap)∧lk ρ 7=some (.v (.int .i64 xs.length))∧lk ρ 8=some (.v (.int .i64 i))) xs.length ?_ ?_
 ·refine ⟨rfl,0,by omega,rfl,fun j hj=>(by omega), ?_, ?_, ?_, ?_⟩<;>simp -implicitDefEqProofs only [go_sem]
 ·rintro m ρ h' ⟨rfl,i,hi,rfl,hc,r0,r1,r7,r8⟩
  simp -implicitDefEqProofs only [go_sem,r0,r1,r7,r8]
  refine .intro (fun e=> ?_) (fun e=> ?_)
  ·have hlt:i<xs.length:=Int.ofNat_lt.1 (of_decide_eq_true e)
   have hlt2:i<ds.length:=by omega
   have w1:IntKind.i64.wrap ((i:Int)+1)=((i+1:Nat):Int):=by rw [wr64 _ (by omega)]; omega
   simp -implicitDefEqProofs only [go_sem,r0,r1,r7,r8]
   refine hb.idx (e:=96) i rfl hlt (by simp only [go_sem]) (by decide) fun p hp1=> ?_
   have hld:=hp1.all (U:=U) (ty:=96) (by simp only [go_sem]) (by simp only [go_sem]; exact hb.1 _ (List.getElem_mem hlt)) (by simp only [go_sem]; rw [hx _ (List.getElem_mem hlt)])
   simp -implicitDefEqProofs only [go_sem,r0,r1,r7,r8,hld]
   refine (show FnOK Tryz.prog g (xs[i]::cap) _ _ from hp i hlt hlt2).pthen ?_
   cases d1:q ds[i]
   ·simp -implicitDefEqProofs only [go_sem,r0,r1,r7,r8,w1]
    refine ⟨_, ?_,rfl,i+1,by omega,rfl,fun j hj h2=> ?_, ?_, ?_, ?_, ?_⟩
    ·omega
    ·by_cases hji:j=i
     ·subst hji; exact d1
     ·exact hc j (by omega) h2
    all_goals simp -implicitDefEqProofs only [go_sem,r0,r1,r7,r8,w1]
   ·simp -implicitDefEqProofs only [go_sem,r0,r1,r7,r8]
    exact .same (.refl _) ⟨by rw [ixD_at hlt2 d1 fun j hj=>hc j hj (by omega)]; rfl,rfl⟩
  ·have hge:i=xs.length:=by have:=of_decide_eq_false e; omega
   simp -implicitDefEqProofs only [go_sem,r0,r1,r7,r8]
   exact .same (.refl _) ⟨by rw [ixD_none fun j hj=>hc j (by omega) hj]; rfl,rfl⟩
theorem took1_ok {h:Heap} (x:HapD) {k:Nat} {subj:Txt} (hk:h k=some (.obj [.s subj] 9)):FnOK Tryz.prog 174 [hapA x, .ptr k 0] h fun r h' =>r= .v (.bool (x.actor==subj))∧h' =h:=by
 refine FnOK.body hU hm Tryz.func174 rfl (by kernel_rfl) 8 rfl [.tmp 3] rfl (Nat.le_of_ble_eq_true rfl) (fun hwf=> ?_)
 simp -implicitDefEqProofs only [go_sem,hapA]
 intro i1 h1
 have n1:k≠i1:=fun e=>by subst e; rw [hk] at h1; cases h1
 simp -implicitDefEqProofs only [go_sem,upd_ne,n1,n1.symm,hk]
 exact .mk _ (.refl _) (.upd_new h1) ⟨rfl,rfl⟩
theorem any_ix {α:Type} (q:α→Bool) (l:List α):decide ((0:Int)≤ixD q l)=l.any q:=by
 unfold ixD
 by_cases h:l.findIdx q<l.length
 ·rw [if_pos h,decide_eq_true (by omega)]
  exact (List.any_eq_true.2 ⟨_,List.getElem_mem h,List.findIdx_getElem (w:=h)⟩).symm
 ·rw [if_neg h]
  have e:l.findIdx q=l.length:=by
   have:l.findIdx q≤l.length:=List.findIdx_le_length
   omega
  have:=List.findIdx_eq_length.1 e
  rw [decide_eq_false (by decide)]
  exact (List.any_eq_false.2 fun x hx=>by rw [this x hx]; decide).symm
theorem hasHap_ok (y:AV) (ds:List HapD) (q:HapD→Bool) (g:FuncId) (cap:List AV) (h:Heap) (hb:Rd h 3 y (ds.map hapA)) (hl:ds.length≤1000000000)
  (hp:∀i (h2:i<ds.length),FnOK Tryz.prog g (hapA ds[i]::cap) h fun r h' =>r= .v (.bool (q ds[i]))∧h' =h):
  FnOK Tryz.prog 173 [y, .fn g cap] h fun r h' =>r= .v (.bool (ds.any q))∧h' =h:=by
 refine FnOK.body hU hm Tryz.func173 rfl (by kernel_rfl) 9 rfl [.tmp 4] rfl (Nat.le_of_ble_eq_true rfl) (fun hwf=> ?_)
 simp -implicitDefEqProofs only [go_sem]
 refine (ixHap_ok y _ ds q g cap h hb (by simp) (by simpa using hl) (agg_map (fun _=>rfl) _) fun i a b=>by rw [List.getElem_map]; exact hp i b).pthen ?_
 simp -implicitDefEqProofs only [go_sem,any_ix]
 exact .same (.refl _) ⟨rfl,rfl⟩
theorem took_ok {h:Heap} {x:AV} {c:CaseD} (hb:RdC h x c) (subj:Txt) (hl:c.log.length≤1000000000):FnOK Tryz.prog 120 [x, .s subj] h fun r h' =>r=valA (tookD c.log subj)∧h' =h:=by
 obtain ⟨f,l,rfl,hf,hlg⟩:=hb
 refine FnOK.body hU hm Tryz.func120 rfl (by kernel_rfl) 13 rfl [.cell 4 42] rfl (Nat.le_of_ble_eq_true rfl) (fun hwf=> ?_)
 simp -implicitDefEqProofs only [go_sem]
 intro i1 h1
 simp -implicitDefEqProofs only [go_sem]
 intro i2 h2
 have n21:=ne_upd h2
 have n2:=upd_none h2
 simp -implicitDefEqProofs only [go_sem,upd_ne,n21,n21.symm]
 intro i3 h3
 have n32:=ne_upd h3
 have h3' :=upd_none h3
 have n31:=ne_upd h3'
 have n3:=upd_none h3'
 simp -implicitDefEqProofs only [go_sem,upd_ne,n21,n21.symm,n31,n31.symm,n32,n32.symm]
 intro i4 h4
 have n43:=ne_upd h4
 have h4' :=upd_none h4
 have n42:=ne_upd h4'
 have h4'' :=upd_none h4'
 have n41:=ne_upd h4''
 have n4:=upd_none h4''
 have hs:∀a b d e,Ab.Sub h (upd (upd (upd (upd h i1 a) i2 b) i3 d) i4 e):=fun a b d e=>((((Sub.refl h).put h1 a).put n2 b).put n3 d).put n4 e
 simp -implicitDefEqProofs only [go_sem,upd_ne,n21,n21.symm,n31,n31.symm,n32,n32.symm,n41,n41.symm,n42,n42.symm,n43,n43.symm]
 refine (hasHap_ok l c.log (fun x=>x.actor==subj) _ [.ptr i2 0] _ (hlg.sub (hs _ _ _ _)) hl fun i b=>took1_ok _ (by simp only [upd_ne,n42.symm,n32.symm,upd_same',not_false_eq_true])).pthen ?_
 cases d1:c.log.any fun x=>x.actor==subj
 ·simp -implicitDefEqProofs only [go_sem,upd_ne,n21,n21.symm,n31,n31.symm,n32,n32.symm,n41,n41.symm,n42,n42.symm,n43,n43.symm,d1]
  exact .mk _ (.refl _) (by repeat' first|exact .refl _|(refine Sub.put ?_ (by assumption) _)) ⟨by simp [tookD,d1,valA,oneOr],rfl⟩
 ·simp -implicitDefEqProofs only [go_sem,upd_ne,n21,n21.symm,n31,n31.symm,n32,n32.symm,n41,n41.symm,n42,n42.symm,n43,n43.symm,d1]
  exact .mk _ (.refl _) (by repeat' first|exact .refl _|(refine Sub.put ?_ (by assumption) _)) ⟨by simp [tookD,d1,valA,oneOr],rfl⟩
end Go.Proofs.YtmlhcdeamjkpjaaGreatDoor

set_option linter.unusedSimpArgs false
set_option linter.unusedVariables false
namespace Go.Proofs.YtmlhcdeamjkpjaaGreatDoor
open Go Go.Ab Go.Bf
def givQ (g:GivD) (q:Perm):AV:= .agg [.v (.int .i64 g.cat), .s g.name, .sl (g.bag.map valA) q]
def GRow (ys:List AV) (gs:List GivD):Prop:=ys.length=gs.length∧∀j (h1:j<ys.length) (h2:j<gs.length),∃q,ys[j]=givQ gs[j] q
theorem GRow.sized {ys:List AV} {gs:List GivD} (h:GRow ys gs):Sized 3 ys:=fun z hz=>by
 obtain ⟨i,hi,rfl⟩:=List.mem_iff_getElem.1 hz
 obtain ⟨q,e⟩:=h.2 i hi (by rw [←h.1]; exact hi)
 rw [e]; rfl
theorem GRow.nil:GRow [] []:=⟨rfl,fun j h=>by cases h⟩
theorem GRow.one (g:GivD) (q:Perm):GRow [givQ g q] [g]:=⟨rfl,fun j h1 h2=>by
 obtain rfl:j=0:=by simpa using h1
 exact ⟨q,rfl⟩⟩
theorem GRow.app {ys zs:List AV} {gs ks:List GivD} (h:GRow ys gs) (k:GRow zs ks):GRow (ys++zs) (gs++ks):=⟨by simp [h.1,k.1],fun j h1 h2=>by
 have hl:=h.1
 by_cases e:j<ys.length
 ·rw [List.getElem_append_left e,List.getElem_append_left (by omega)]; exact h.2 j e (by omega)
 ·rw [List.getElem_append_right (by omega),List.getElem_append_right (by omega)]
  simp only [List.length_append] at h1 h2
  obtain ⟨q,e'⟩:=k.2 (j - ys.length) (by omega) (by omega)
  exact ⟨q,by rw [e']; simp only [hl]⟩⟩
theorem GRow.weak {ys:List AV} {gs:List GivD} (h:GRow ys gs) (q:Perm):Weak (.sl ys q) (givsA gs):=by
 refine .deep _ _ q (by simp [h.1]) (fun k h1 h2=> ?_) fun k h1 h2 j h3 h4=> ?_
 ·obtain ⟨q',e'⟩:=h.2 k h1 (by rw [←h.1]; exact h1)
  rw [e',List.getElem_map]; rfl
 ·obtain ⟨q',e'⟩:=h.2 k h1 (by rw [←h.1]; exact h1)
  simp only [e',List.getElem_map]
  simp only [e',givQ,AV.cells] at h3
  simp only [givQ,givA,AV.cells]
  rcases j with _|_|_|j
  ·exact .refl _
  ·exact .refl _
  ·exact .sl _ _
  ·simp at h3; omega
theorem GRow.givs (gs:List GivD):GRow (gs.map givA) gs:=⟨by simp,fun j h1 h2=>⟨.no,by rw [List.getElem_map]; rfl⟩⟩
theorem uGiven:(U 123).sz=3:=by simp only [go_sem]
theorem sized_one (g:GivD) (q:Perm):Sized 3 [givQ g q]:=fun z hz=>by rw [List.mem_singleton.1 hz]; rfl
def headGs (c:CaseD) (subj:Txt):List GivD:= [⟨3,idT,[idV c.id]⟩,⟨3,[111,119,110,101,114],[idV c.owner]⟩,⟨3,[115,116,97,116,101],[idV c.state]⟩,⟨3,[101,118,101,110,116,115],[⟨2,c.log.length,[]⟩]⟩,⟨3,[116,111,111,107],[tookD c.log subj]⟩]
def lastGs (c:CaseD):List GivD:=match c.log.getLast? with
 |some x=> [⟨3,[108,97,115,116],[idV x.actor]⟩]
 |none=> []
def fieldGs (l:List FieldD):List GivD:=(l.filter fun f=>decide (f.name.length≤14)).map fun f=>⟨3,[102,95]++f.name,[f.val]⟩
theorem fieldGs_succ (l:List FieldD) (i:Nat) (h:i<l.length):fieldGs (l.take (i+1))=fieldGs (l.take i)++(if l[i].name.length≤14 then [⟨3,[102,95]++l[i].name,[l[i].val]⟩] else []):=by
 unfold fieldGs
 rw [List.take_succ_eq_append_getElem h,List.filter_append,List.map_append]
 congr 1
 by_cases hh:l[i].name.length≤14<;>simp [hh]
theorem askCaseD_eq (c:CaseD) (subj:Txt):askCaseD c subj=headGs c subj++lastGs c++fieldGs c.fields:=rfl
set_option maxRecDepth 100000 in
theorem askCase_ok {h:Heap} (c:CaseD) (subj:Txt) (hl:c.log.length≤1000000) (hlf:c.fields.length≤1000000):FnOK Tryz.prog 71 [caseA c, .s subj] h fun r h' =>r=givsA (askCaseD c subj)∧h' =h:=by
 refine FnOK.body hU hm Tryz.func71 rfl (by kernel_rfl) 77 rfl [.tmp 4] rfl (Nat.le_of_ble_eq_true rfl) (fun hwf=> ?_)
 simp -implicitDefEqProofs only [go_sem,caseA,caseC,fieldsA,logA]
 intro i1 h1
 simp -implicitDefEqProofs only [go_sem]
 refine .quiet (by kernel_rfl) ?_
 simp -implicitDefEqProofs only [go_sem]
 refine ⟨_,id_ok _ _, ?_⟩
 simp -implicitDefEqProofs only [go_sem,valA,idV]
 refine ⟨_,given_ok _ _ _ _ _, ?_⟩
 simp -implicitDefEqProofs only [go_sem,valA,idV]
 refine ⟨_,id_ok _ _, ?_⟩
 simp -implicitDefEqProofs only [go_sem,valA,idV]
 refine ⟨_,given_ok _ _ _ _ _, ?_⟩
 simp -implicitDefEqProofs only [go_sem,valA,idV]
 refine ⟨_,id_ok _ _, ?_⟩
 simp -implicitDefEqProofs only [go_sem,valA,idV]
 refine ⟨_,given_ok _ _ _ _ _, ?_⟩
 simp -implicitDefEqProofs only [go_sem,valA,idV]
 refine ⟨_,given_ok _ _ _ _ _, ?_⟩
 simp -implicitDefEqProofs only [go_sem,valA,idV]
 refine ⟨_,took_ok (show RdC _ (.agg [.s c.id, .s c.owner, .s c.state, .sl (c.fields.map fieldA) .no, .sl (c.log.map hapA) .no]) c from rdC _ c) subj (by omega), ?_⟩
 simp -implicitDefEqProofs only [go_sem,valA]
 refine ⟨_,given_ok _ _ _ _ _, ?_⟩
 simp -implicitDefEqProofs only [go_sem,valA,List.length_map]
 have hs1:∀b,Ab.Sub h (upd h i1 b):=fun b=>(Sub.refl h).put h1 b
 have hrow5:GRow [.agg [.v (.int .i64 3), .s [105,100], .sl [.agg [.v (.int .i64 5), .v (.int .i64 0), .s c.id]] .full], .agg [.v (.int .i64 3), .s [111,119,110,101,114], .sl [.agg [.v (.int .i64 5), .v (.int .i64 0), .s c.owner]] .full], .agg [.v (.int .i64 3), .s [115,116,97,116,101], .sl [.agg [.v (.int .i64 5), .v (.int .i64 0), .s c.state]] .full], .agg [.v (.int .i64 3), .s [101,118,101,110,116,115], .sl [.agg [.v (.int .i64 2), .v (.int .i64 c.log.length), .s []]] .full], .agg [.v (.int .i64 3), .s [116,111,111,107], .sl [valA (tookD c.log subj)] .full]] (headGs c subj):=(GRow.one ⟨3,idT,[idV c.id]⟩ .full).app ((GRow.one ⟨3,[111,119,110,101,114],[idV c.owner]⟩ .full).app ((GRow.one ⟨3,[115,116,97,116,101],[idV c.state]⟩ .full).app ((GRow.one ⟨3,[101,118,101,110,116,115],[⟨2,c.log.length,[]⟩]⟩ .full).app (GRow.one ⟨3,[116,111,111,107],[tookD c.log subj]⟩ .full))))
 simp only [valA] at hrow5
 cases d1:decide ((0:Int)<(c.log.length:Int))
 ·have hl0:c.log= []:=List.length_eq_zero_iff.1 (by have:=of_decide_eq_false d1; omega)
  simp -implicitDefEqProofs only [go_sem,d1]
  simp -implicitDefEqProofs only [go_sem,List.length_map]
  refine .intro (fun m ρ H=>∃(i:Nat) (y:AV) (ys:List AV),Acc U 123 h H y ys∧H i1=some (.obj [.s c.id, .s c.owner, .s c.state, .sl (c.fields.map fieldA) .no, .sl (c.log.map hapA) .no] 57)∧GRow ys (headGs c subj++fieldGs (c.fields.take i))∧i≤c.fields.length∧m=c.fields.length - i∧lk ρ 5=some y∧lk ρ 2=some (.ptr i1 0)∧lk ρ 55=some (.sl (c.fields.map fieldA) .no)∧lk ρ 56=some (.v (.int .i64 c.fields.length))∧lk ρ 57=some (.v (.int .i64 i))) c.fields.length ?_ ?_
  ·refine ⟨0,_,_, .full (hs1 _),upd_same ..,(by have:=hrow5; simpa [fieldGs] using this),by omega,rfl, ?_, ?_, ?_, ?_, ?_⟩<;>simp -implicitDefEqProofs only [go_sem]
  ·rintro m ρ H ⟨i,y,ys,hy,g1,hrow,hi,rfl,r5,r2,r55,r56,r57⟩
   simp -implicitDefEqProofs only [go_sem,r5,r2,r55,r56,r57]
   refine .intro (fun e=> ?_) (fun e=> ?_)
   ·have hlt:i<c.fields.length:=Int.ofNat_lt.1 (of_decide_eq_true e)
    have w1:IntKind.i64.wrap ((i:Int)+1)=((i+1:Nat):Int):=by rw [wr64 _ (by omega)]; omega
    simp -implicitDefEqProofs only [go_sem,r5,r2,r55,r56,r57]
    refine .at i (by simpa using hlt) (by rw [List.getElem_map]; rfl) ?_
    simp -implicitDefEqProofs only [go_sem,r5,r2,r55,r56,r57,List.getElem_map,fieldA]
    intro i8 h8
    have n81:i1≠i8:=fun e=>by rw [←e,g1] at h8; cases h8
    simp -implicitDefEqProofs only [go_sem,upd_ne,n81,n81.symm,r5,r2,r55,r56,r57]
    cases d2:decide ((c.fields[i].name.length:Int)≤14)
    ·simp -implicitDefEqProofs only [go_sem,upd_ne,n81,n81.symm,r5,r2,r55,r56,r57,d2,w1]
     have hskip:fieldGs (c.fields.take (i+1))=fieldGs (c.fields.take i):=by
      have:¬c.fields[i].name.length≤14:=by have:=of_decide_eq_false d2; omega
      rw [fieldGs_succ _ _ hlt,if_neg this,List.append_nil]
     refine ⟨_, ?_,i+1,y,ys,hy.sub (.upd_new h8),(upd_other _ _ n81).trans g1,by rw [hskip]; exact hrow,by omega,rfl, ?_, ?_, ?_, ?_, ?_⟩
     ·omega
     all_goals simp -implicitDefEqProofs only [go_sem,r5,r2,r55,r56,r57,w1]
    ·simp -implicitDefEqProofs only [go_sem,upd_ne,n81,n81.symm,r5,r2,r55,r56,r57,d2,w1]
     have h14:c.fields[i].name.length≤14:=by have:=of_decide_eq_true d2; omega
     refine ⟨by have:(1000:Nat)<lim:=(by decide); omega, ?_⟩
     refine (given_ok _ _ _ _ _).pthen ?_
     simp -implicitDefEqProofs only [go_sem,upd_ne,n81,n81.symm,r5,r2,r55,r56,r57,d2,w1]
     refine (hy.sub (.upd_new h8)).app (zs:= [givQ ⟨3,[102,95]++c.fields[i].name,[c.fields[i].val]⟩ .full]) (by rw [uGiven]; decide) (by simp only [go_sem,ne_eq,not_false_eq_true]) (fun k hk=>(Rd.sl (sized_one _ _) .full:Rd _ 3 _ _).src uGiven hk) (by rw [uGiven]; exact hrow.sized) (by rw [uGiven]; exact sized_one _ _) (by
      have hln:(fieldGs (c.fields.take i)).length≤i:=by unfold fieldGs; rw [List.length_map]; exact Nat.le_trans (List.length_filter_le _ _) (by rw [List.length_take]; omega)
      simp only [go_sem,hrow.1,List.length_cons,List.length_nil,List.length_append,headGs]; omega) fun y' H' hy' kp=> ?_
     simp -implicitDefEqProofs only [go_sem,upd_ne,n81,n81.symm,r5,r2,r55,r56,r57,d2,w1]
     refine ⟨_, ?_,i+1,y',_,hy',kp _ _ _ ((upd_other _ _ n81).trans g1),by rw [fieldGs_succ _ _ hlt,if_pos h14,←List.append_assoc]; exact hrow.app (GRow.one _ _),by omega,rfl, ?_, ?_, ?_, ?_, ?_⟩
     ·omega
     all_goals simp -implicitDefEqProofs only [go_sem,r5,r2,r55,r56,r57,w1]
   ·have hge:i=c.fields.length:=by have:=of_decide_eq_false e; omega
    subst hge
    rw [List.take_length] at hrow
    obtain ⟨q,rfl⟩:=hy.row
    simp -implicitDefEqProofs only [go_sem,r5,r2,r55,r56,r57]
    exact .mk (givsA (askCaseD c subj)) (show Weak (.sl ys q) _ by rw [askCaseD_eq,lastGs,hl0]; simpa using hrow.weak q) hy.1 ⟨rfl,rfl⟩
 ·have hl1:0<c.log.length:=by have:=of_decide_eq_true d1; omega
  simp -implicitDefEqProofs only [go_sem,d1]
  have w0:IntKind.i64.wrap ((c.log.length:Int) - 1)=((c.log.length - 1:Nat):Int):=by rw [wr64 _ (by omega)]; omega
  simp -implicitDefEqProofs only [go_sem,w0]
  refine .at (c.log.length - 1) (by simp; omega) (by rw [List.getElem_map]; rfl) ?_
  simp -implicitDefEqProofs only [go_sem,List.getElem_map,hapA]
  rw [if_neg (fun hh=>hh.1)]
  refine (id_ok _ _).pthen ?_
  simp -implicitDefEqProofs only [go_sem,valA,idV]
  refine (given_ok _ _ _ _ _).pthen ?_
  simp -implicitDefEqProofs only [go_sem,valA,idV]
  have hgl:c.log.getLast? =some c.log[c.log.length - 1]:=by rw [List.getLast?_eq_getElem?,List.getElem?_eq_getElem (by omega)]
  have hlast:GRow [.agg [.v (.int .i64 3), .s [108,97,115,116], .sl [.agg [.v (.int .i64 5), .v (.int .i64 0), .s c.log[c.log.length - 1].actor]] .full]] (lastGs c):=by
   unfold lastGs
   rw [hgl]
   exact GRow.one ⟨3,[108,97,115,116],[idV c.log[c.log.length - 1].actor]⟩ .full
  refine .accs (hs1 _) fun y0 H0 hy0 kp0=> ?_
  simp -implicitDefEqProofs only [go_sem,kp0 _ _ _ (upd_same ..),List.length_map]
  refine .intro (fun m ρ H=>∃(i:Nat) (y:AV) (ys:List AV),Acc U 123 h H y ys∧H i1=some (.obj [.s c.id, .s c.owner, .s c.state, .sl (c.fields.map fieldA) .no, .sl (c.log.map hapA) .no] 57)∧GRow ys ((headGs c subj++lastGs c)++fieldGs (c.fields.take i))∧i≤c.fields.length∧m=c.fields.length - i∧lk ρ 5=some y∧lk ρ 2=some (.ptr i1 0)∧lk ρ 55=some (.sl (c.fields.map fieldA) .no)∧lk ρ 56=some (.v (.int .i64 c.fields.length))∧lk ρ 57=some (.v (.int .i64 i))) c.fields.length ?_ ?_
  ·refine ⟨0,_,_,hy0,kp0 _ _ _ (upd_same ..),(by have:=hrow5.app hlast; simpa [fieldGs] using this),by omega,rfl, ?_, ?_, ?_, ?_, ?_⟩<;>simp -implicitDefEqProofs only [go_sem]
  ·rintro m ρ H ⟨i,y,ys,hy,g1,hrow,hi,rfl,r5,r2,r55,r56,r57⟩
   simp -implicitDefEqProofs only [go_sem,r5,r2,r55,r56,r57]
   refine .intro (fun e=> ?_) (fun e=> ?_)
   ·have hlt:i<c.fields.length:=Int.ofNat_lt.1 (of_decide_eq_true e)
    have w1:IntKind.i64.wrap ((i:Int)+1)=((i+1:Nat):Int):=by rw [wr64 _ (by omega)]; omega
    simp -implicitDefEqProofs only [go_sem,r5,r2,r55,r56,r57]
    refine .at i (by simpa using hlt) (by rw [List.getElem_map]; rfl) ?_
    simp -implicitDefEqProofs only [go_sem,r5,r2,r55,r56,r57,List.getElem_map,fieldA]
    intro i8 h8
    have n81:i1≠i8:=fun e=>by rw [←e,g1] at h8; cases h8
    simp -implicitDefEqProofs only [go_sem,upd_ne,n81,n81.symm,r5,r2,r55,r56,r57]
    cases d2:decide ((c.fields[i].name.length:Int)≤14)
    ·simp -implicitDefEqProofs only [go_sem,upd_ne,n81,n81.symm,r5,r2,r55,r56,r57,d2,w1]
     have hskip:fieldGs (c.fields.take (i+1))=fieldGs (c.fields.take i):=by
      have:¬c.fields[i].name.length≤14:=by have:=of_decide_eq_false d2; omega
      rw [fieldGs_succ _ _ hlt,if_neg this,List.append_nil]
     refine ⟨_, ?_,i+1,y,ys,hy.sub (.upd_new h8),(upd_other _ _ n81).trans g1,by rw [hskip]; exact hrow,by omega,rfl, ?_, ?_, ?_, ?_, ?_⟩
     ·omega
     all_goals simp -implicitDefEqProofs only [go_sem,r5,r2,r55,r56,r57,w1]
    ·simp -implicitDefEqProofs only [go_sem,upd_ne,n81,n81.symm,r5,r2,r55,r56,r57,d2,w1]
     have h14:c.fields[i].name.length≤14:=by have:=of_decide_eq_true d2; omega
     refine ⟨by have:(1000:Nat)<lim:=(by decide); omega, ?_⟩
     refine (given_ok _ _ _ _ _).pthen ?_
     simp -implicitDefEqProofs only [go_sem,upd_ne,n81,n81.symm,r5,r2,r55,r56,r57,d2,w1]
     refine (hy.sub (.upd_new h8)).app (zs:= [givQ ⟨3,[102,95]++c.fields[i].name,[c.fields[i].val]⟩ .full]) (by rw [uGiven]; decide) (by simp only [go_sem,ne_eq,not_false_eq_true]) (fun k hk=>(Rd.sl (sized_one _ _) .full:Rd _ 3 _ _).src uGiven hk) (by rw [uGiven]; exact hrow.sized) (by rw [uGiven]; exact sized_one _ _) (by
      have hln:(fieldGs (c.fields.take i)).length≤i:=by unfold fieldGs; rw [List.length_map]; exact Nat.le_trans (List.length_filter_le _ _) (by rw [List.length_take]; omega)
      simp only [go_sem,hrow.1,List.length_cons,List.length_nil,List.length_append,headGs,lastGs,hgl]; omega) fun y' H' hy' kp=> ?_
     simp -implicitDefEqProofs only [go_sem,upd_ne,n81,n81.symm,r5,r2,r55,r56,r57,d2,w1]
     refine ⟨_, ?_,i+1,y',_,hy',kp _ _ _ ((upd_other _ _ n81).trans g1),by rw [fieldGs_succ _ _ hlt,if_pos h14,←List.append_assoc]; exact hrow.app (GRow.one _ _),by omega,rfl, ?_, ?_, ?_, ?_, ?_⟩
     ·omega
     all_goals simp -implicitDefEqProofs only [go_sem,r5,r2,r55,r56,r57,w1]
   ·have hge:i=c.fields.length:=by have:=of_decide_eq_false e; omega
    subst hge
    rw [List.take_length] at hrow
    obtain ⟨q,rfl⟩:=hy.row
    simp -implicitDefEqProofs only [go_sem,r5,r2,r55,r56,r57]
    exact .mk (givsA (askCaseD c subj)) (show Weak (.sl ys q) _ by rw [askCaseD_eq]; exact hrow.weak q) hy.1 ⟨rfl,rfl⟩
end Go.Proofs.YtmlhcdeamjkpjaaGreatDoor

set_option linter.unusedSimpArgs false
set_option linter.unusedVariables false
namespace Go.Proofs.YtmlhcdeamjkpjaaGreatDoor
open Go Go.Ab Go.Bf
theorem rolesOf_yes {l:List RoleD} {subj:Txt} {i:Nat} (h:i<l.length) (h1:l[i].subj=subj) (h2:(rolesOf (l.take i) subj).length<16):rolesOf (l.take (i+1)) subj=rolesOf (l.take i) subj++ [idV l[i].role]:=by
 unfold rolesOf at h2⊢
 rw [List.take_succ_eq_append_getElem h,List.filter_append,List.map_append]
 rw [List.length_take] at h2
 have hl:(((l.take i).filter fun r=>r.subj==subj).map fun r=>idV r.role).length<16:=by omega
 rw [List.take_append,List.take_of_length_le (by omega),List.filter_cons,List.filter_nil,if_pos (by simp [h1])]
 congr 1
 rw [List.take_of_length_le (by simp; simp at hl; omega)]; rfl
theorem rolesOf_no {l:List RoleD} {subj:Txt} {i:Nat} (h:i<l.length) (h1:l[i].subj≠subj∨¬(rolesOf (l.take i) subj).length<16):rolesOf (l.take (i+1)) subj=rolesOf (l.take i) subj:=by
 unfold rolesOf at h1⊢
 rw [List.take_succ_eq_append_getElem h,List.filter_append,List.map_append,List.take_append]
 by_cases hs:l[i].subj=subj
 ·have h2:=h1.resolve_left (fun h=>h hs)
  rw [List.length_take] at h2
  rw [show 16 - (((l.take i).filter fun r=>r.subj==subj).map fun r=>idV r.role).length=0 by omega,List.take_zero,List.append_nil]
 ·rw [List.filter_cons,List.filter_nil,if_neg (by simpa using hs)]
  simp
theorem rolesOf_le (l:List RoleD) (subj:Txt):(rolesOf l subj).length≤16:=by unfold rolesOf; rw [List.length_take]; omega
def askHead (s:StoreD) (o:OpD):List GivD:= [⟨1,idT,[idV o.subj]⟩,⟨1,[114,111,108,101],rolesOf s.roles o.subj⟩,⟨2,[110,97,109,101],[idV (actionD o.kind)]⟩]
theorem few_case {s:StoreD} (hf:Few s) (id:Txt):(caseD s.cases id).log.length≤1000000∧(caseD s.cases id).fields.length≤1000000:=by
 cases e:thereD s.cases id
 ·rw [caseD_no e]; exact ⟨Nat.zero_le _,Nat.zero_le _⟩
 ·rw [caseD_at e]; exact ⟨hf.log _ (List.getElem_mem _),hf.fields _ (List.getElem_mem _)⟩
theorem askCase_len (c:CaseD) (subj:Txt):(askCaseD c subj).length≤6+c.fields.length:=by
 rw [askCaseD_eq,List.length_append,List.length_append]
 have h1:(lastGs c).length≤1:=by unfold lastGs; split<;>simp
 have h2:(fieldGs c.fields).length≤c.fields.length:=by unfold fieldGs; rw [List.length_map]; exact List.length_filter_le _ _
 have h3:(headGs c subj).length=5:=rfl
 omega
theorem hsub_none {h G:Heap} {i:Nat} (hs:Ab.Sub h G) (hi:G i=none):h i=none:=hs.none hi
theorem uValue:(U 42).sz=3:=by simp only [go_sem]
set_option maxRecDepth 100000 in
theorem ask_ok {h:Heap} {x:AV} {s:StoreD} (hb:RdS h x s) (o:OpD) (hf:Few s) (hk:i64 o.kind):FnOK Tryz.prog 24 [x,opA o] h fun r h' =>r=givsA (askD s o)∧h' =h:=by
 have hca:=fun (G:Heap) (hG:Ab.Sub h G)=>case_ok (hb.sub hG) o.case hf
 obtain ⟨y1,y2,y3,y4,rfl,⟨xs,hc,hn,hcs⟩,h2,h3,h4⟩:=hb
 cases hpp:s.policy with
 |mk pid pset palg ptgt prules pkids pobls=>
 have hcC:polC (.mk pid pset palg ptgt prules pkids pobls)= [.s pid, .v (.bool pset), .v (.int .i64 palg),tgtA ptgt, .sl (prules.map ruleA) .no, .sl (pkids.map polA) .no,oblsA pobls]:=by simp [polC,kidsA_eq]
 rw [hpp,hcC] at hca
 simp only [List.cons_append,List.nil_append] at hca
 have hfr:=hf.roles
 refine FnOK.body hU hm Tryz.func24 rfl (by kernel_rfl) 99 rfl [.tmp 4] rfl (Nat.le_of_ble_eq_true rfl) (fun hwf=> ?_)
 simp -implicitDefEqProofs only [go_sem,hcC,opA,opC,List.cons_append,List.nil_append]
 intro i1 h1
 simp -implicitDefEqProofs only [go_sem]
 intro i2 h2'
 have n21:=ne_upd h2'
 have n2:=upd_none h2'
 simp -implicitDefEqProofs only [go_sem,upd_ne,n21,n21.symm,h4.len,List.length_map]
 obtain ⟨H,eH⟩:∃H,upd (upd h i1 (some (.obj [.v (.int .i64 s.tick),y1,y2,y3,y4, .s pid, .v (.bool pset), .v (.int .i64 palg),tgtA ptgt, .sl (prules.map ruleA) .no, .sl (pkids.map polA) .no,oblsA pobls, .v (.int .i64 s.version)] 36))) i2 (some (.obj (opC o) 44))=H:=⟨_,rfl⟩
 have hH:Ab.Sub h H:=by rw [←eH]; exact ((Sub.refl h).put h1 _).put n2 _
 have g1:H i1=some (.obj [.v (.int .i64 s.tick),y1,y2,y3,y4, .s pid, .v (.bool pset), .v (.int .i64 palg),tgtA ptgt, .sl (prules.map ruleA) .no, .sl (pkids.map polA) .no,oblsA pobls, .v (.int .i64 s.version)] 36):=by rw [←eH,upd_other _ _ n21.symm,upd_same]
 have g2:H i2=some (.obj (opC o) 44):=by rw [←eH,upd_same]
 simp only [opC] at eH g2
 rw [eH]
 clear eH
 refine .intro (fun m ρ G=>∃(i:Nat) (y:AV),Acc U 42 H G y ((rolesOf (s.roles.take i) o.subj).map valA)∧i≤s.roles.length∧m=s.roles.length - i∧lk ρ 5=some y∧lk ρ 2=some (.ptr i1 0)∧lk ρ 3=some (.ptr i2 0)∧lk ρ 12=some y4∧lk ρ 13=some (.v (.int .i64 s.roles.length))∧lk ρ 14=some (.v (.int .i64 i))) s.roles.length ?_ ?_
 ·refine ⟨0,_, .full (.refl _),by omega,rfl, ?_, ?_, ?_, ?_, ?_, ?_⟩<;>simp -implicitDefEqProofs only [go_sem,rolesOf,List.take_zero,List.filter_nil,List.map_nil]
 ·rintro m ρ G ⟨i,y,hy,hi,rfl,r5,r2,r3,r12,r13,r14⟩
  have k1:=hy.1 _ _ g1
  have k2:=hy.1 _ _ g2
  simp -implicitDefEqProofs only [go_sem,r5,r2,r3,r12,r13,r14]
  refine .intro (fun e=> ?_) (fun e=> ?_)
  ·have hlt:i<s.roles.length:=Int.ofNat_lt.1 (of_decide_eq_true e)
   have w1:IntKind.i64.wrap ((i:Int)+1)=((i+1:Nat):Int):=by rw [wr64 _ (by omega)]; omega
   simp -implicitDefEqProofs only [go_sem,r5,r2,r3,r12,r13,r14]
   refine (h4.sub (hH.trans hy.1)).idx (e:=71) i rfl (by simpa using hlt) uRole (by decide) fun p hp1=> ?_
   have hld:=hp1.all (U:=U) (ty:=71) (by simp only [go_sem]) (by rw [uRole,List.getElem_map]; rfl) (by simp only [go_sem]; rw [List.getElem_map]; rfl)
   simp -implicitDefEqProofs only [go_sem,r5,r2,r3,r12,r13,r14,hld,List.getElem_map,roleA]
   intro i7 h7
   have n71:i1≠i7:=fun e=>by rw [←e,k1] at h7; cases h7
   have n72:i2≠i7:=fun e=>by rw [←e,k2] at h7; cases h7
   simp -implicitDefEqProofs only [go_sem,upd_ne,n71,n71.symm,n72,n72.symm,k1,k2,r5,r2,r3,r12,r13,r14]
   have hy7:=hy.sub (.upd_new h7 (k:=some (.obj [.s s.roles[i].subj, .s s.roles[i].role] 71)))
   have lr:=rolesOf_le (s.roles.take i) o.subj
   cases d1:(s.roles[i].subj==o.subj)
   ·have p1:s.roles[i].subj≠o.subj:=by simpa using d1
    simp -implicitDefEqProofs only [go_sem,upd_ne,n71,n71.symm,n72,n72.symm,k1,k2,r5,r2,r3,r12,r13,r14,d1,w1]
    refine ⟨_, ?_,i+1,y,by rw [rolesOf_no hlt (.inl p1)]; exact hy7,by omega,rfl, ?_, ?_, ?_, ?_, ?_, ?_⟩
    ·omega
    all_goals simp -implicitDefEqProofs only [go_sem,r5,r2,r3,r12,r13,r14,w1]
   ·have p1:s.roles[i].subj=o.subj:=by simpa using d1
    simp -implicitDefEqProofs only [go_sem,upd_ne,n71,n71.symm,n72,n72.symm,k1,k2,r5,r2,r3,r12,r13,r14,d1,hy.len,List.length_map]
    cases d2:decide (((rolesOf (s.roles.take i) o.subj).length:Int)<16)
    ·have p2:¬(rolesOf (s.roles.take i) o.subj).length<16:=by have:=of_decide_eq_false d2; omega
     simp -implicitDefEqProofs only [go_sem,upd_ne,n71,n71.symm,n72,n72.symm,k1,k2,r5,r2,r3,r12,r13,r14,d1,d2,hy.len,List.length_map,w1]
     refine ⟨_, ?_,i+1,y,by rw [rolesOf_no hlt (.inr p2)]; exact hy7,by omega,rfl, ?_, ?_, ?_, ?_, ?_, ?_⟩
     ·omega
     all_goals simp -implicitDefEqProofs only [go_sem,r5,r2,r3,r12,r13,r14,w1]
    ·have p2:(rolesOf (s.roles.take i) o.subj).length<16:=by have:=of_decide_eq_true d2; omega
     simp -implicitDefEqProofs only [go_sem,upd_ne,n71,n71.symm,n72,n72.symm,k1,k2,r5,r2,r3,r12,r13,r14,d1,d2,hy.len,List.length_map,w1]
     refine (id_ok _ _).pthen ?_
     simp -implicitDefEqProofs only [go_sem,upd_ne,n71,n71.symm,n72,n72.symm,k1,k2,r5,r2,r3,r12,r13,r14,valA,idV]
     refine hy7.app (zs:= [valA (idV s.roles[i].role)]) (by rw [uValue]; decide) (by simp only [go_sem,ne_eq,not_false_eq_true]) (fun k hk=>(Rd.sl (fun z hz=>by rw [List.mem_singleton.1 hz]; rfl) .full:Rd _ 3 _ _).src uValue hk) (by rw [uValue]; exact sized_map (f:=valA) (fun _=>rfl) _) (by rw [uValue]; exact sized_map (f:=valA) (fun _=>rfl) [idV s.roles[i].role]) (by simp only [go_sem,List.length_map,List.length_cons,List.length_nil]; omega) fun y' H' hy' kp=> ?_
     simp -implicitDefEqProofs only [go_sem,upd_ne,n71,n71.symm,n72,n72.symm,k1,k2,r5,r2,r3,r12,r13,r14,w1]
     refine ⟨_, ?_,i+1,y',by rw [rolesOf_yes hlt p1 p2,List.map_append]; exact hy',by omega,rfl, ?_, ?_, ?_, ?_, ?_, ?_⟩
     ·omega
     all_goals simp -implicitDefEqProofs only [go_sem,r5,r2,r3,r12,r13,r14,w1]
  ·have hge:i=s.roles.length:=by have:=of_decide_eq_false e; omega
   subst hge
   rw [List.take_length] at hy
   simp -implicitDefEqProofs only [go_sem,r5,r2,r3,r12,r13,r14]
   obtain ⟨q5,rfl⟩:=hy.row
   refine .quiet (by kernel_rfl) ?_
   simp -implicitDefEqProofs only [go_sem,k1,k2,r2,r3,r5]
   refine ⟨_,id_ok _ _, ?_⟩
   simp -implicitDefEqProofs only [go_sem,k1,k2,r2,r3,r5,valA,idV]
   refine ⟨_,given_ok _ _ _ _ _, ?_⟩
   simp -implicitDefEqProofs only [go_sem,k1,k2,r2,r3,r5,valA,idV]
   refine ⟨_,given_ok _ _ _ _ _, ?_⟩
   simp -implicitDefEqProofs only [go_sem,k1,k2,r2,r3,r5,valA,idV]
   refine ⟨_,action_ok _ hk _, ?_⟩
   simp -implicitDefEqProofs only [go_sem,k1,k2,r2,r3,r5,valA,idV]
   refine ⟨_,id_ok _ _, ?_⟩
   simp -implicitDefEqProofs only [go_sem,k1,k2,r2,r3,r5,valA,idV]
   refine ⟨_,given_ok _ _ _ _ _, ?_⟩
   simp -implicitDefEqProofs only [go_sem,k1,k2,r2,r3,r5,valA,idV]
   have hak:=fun (G:Heap)=>askCase_ok (h:=G) (caseD s.cases o.case) o.subj (few_case hf o.case).1 (few_case hf o.case).2
   simp only [caseA,caseC,fieldsA,logA] at hak
   have hakl:=askCase_len (caseD s.cases o.case) o.subj
   have hakf:=(few_case hf o.case).2
   have hr0:GRow [.agg [.v (.int .i64 1), .s [105,100], .sl [.agg [.v (.int .i64 5), .v (.int .i64 0), .s o.subj]] .full], .agg [.v (.int .i64 1), .s [114,111,108,101], .sl ((rolesOf s.roles o.subj).map valA) q5], .agg [.v (.int .i64 2), .s [110,97,109,101], .sl [.agg [.v (.int .i64 5), .v (.int .i64 0), .s (actionD o.kind)]] .full]] (askHead s o):=(GRow.one ⟨1,idT,[idV o.subj]⟩ .full).app ((GRow.one ⟨1,[114,111,108,101],rolesOf s.roles o.subj⟩ q5).app (GRow.one ⟨2,[110,97,109,101],[idV (actionD o.kind)]⟩ .full))
   by_cases pf:o.field= []
   ·have df:(o.field==([]:Txt))=true:=by simp [pf]
    simp -implicitDefEqProofs only [go_sem,k1,k2,r2,r3,df]
    by_cases pt:o.to= []
    ·have dt:(o.to==([]:Txt))=true:=by simp [pt]
     simp -implicitDefEqProofs only [go_sem,k1,k2,r2,r3,dt]
     refine (given_ok _ _ _ _ _).pthen ?_
     simp -implicitDefEqProofs only [go_sem,k1,k2,r2,r3,valA,idV]
     refine .accs hy.1 fun y1 G1 hy1 kp1=> ?_
     have k1_1:=kp1 _ _ _ k1
     have k2_1:=kp1 _ _ _ k2
     have hr1:=hr0.app (GRow.one (⟨4,[110,111,119],[⟨4,s.tick,[]⟩]⟩:GivD) .full)
     simp -implicitDefEqProofs only [go_sem,k1_1,k2_1,r2,r3]
     refine (hca _ (hH.trans hy1.1)).pthen ?_
     simp -implicitDefEqProofs only [go_sem,k1_1,k2_1,r2,r3,caseA,caseC,fieldsA,logA]
     intro i20 h20
     have n21:i1≠i20:=fun e=>by rw [←e,k1_1] at h20; cases h20
     have n22:i2≠i20:=fun e=>by rw [←e,k2_1] at h20; cases h20
     simp -implicitDefEqProofs only [go_sem,upd_ne,n21,n21.symm,n22,n22.symm,k1_1,k2_1,r2,r3]
     obtain ⟨q2,eq2⟩:=hy1.row
     cases dth:thereD s.cases o.case
     ·simp -implicitDefEqProofs only [go_sem,upd_ne,n21,n21.symm,n22,n22.symm,k1_1,k2_1,r2,r3,dth]
      exact .mk (givsA (askD s o)) (show Weak y1 _ by rw [eq2,show askD s o=(askHead s o++ [(⟨4,[110,111,119],[⟨4,s.tick,[]⟩]⟩:GivD)]) by simp [askD,askHead,dth,pf,pt]]; exact hr1.weak q2) ((hH.trans hy1.1).put (hsub_none (hH.trans hy1.1) h20) _) ⟨rfl,rfl⟩
     ·simp -implicitDefEqProofs only [go_sem,upd_ne,n21,n21.symm,n22,n22.symm,k1_1,k2_1,r2,r3,dth]
      by_cases p6:o.kind=6
      ·have d6:(o.kind !=6)=false:=by simp [p6]
       simp -implicitDefEqProofs only [go_sem,upd_ne,n21,n21.symm,n22,n22.symm,k1_1,k2_1,r2,r3,dth,d6]
       exact .mk (givsA (askD s o)) (show Weak y1 _ by rw [eq2,show askD s o=(askHead s o++ [(⟨4,[110,111,119],[⟨4,s.tick,[]⟩]⟩:GivD)]) by simp [askD,askHead,dth,p6,pf,pt]]; exact hr1.weak q2) ((hH.trans hy1.1).put (hsub_none (hH.trans hy1.1) h20) _) ⟨rfl,rfl⟩
      ·have d6:(o.kind !=6)=true:=by simp [p6]
       simp -implicitDefEqProofs only [go_sem,upd_ne,n21,n21.symm,n22,n22.symm,k1_1,k2_1,r2,r3,dth,d6]
       refine (hak _).pthen ?_
       simp -implicitDefEqProofs only [go_sem,upd_ne,n21,n21.symm,n22,n22.symm,k1_1,k2_1,r2,r3,dth,d6,givsA]
       refine (hy1.sub (.upd_new h20)).app (zs:=(askCaseD (caseD s.cases o.case) o.subj).map givA) (by rw [uGiven]; decide) (by simp only [go_sem,ne_eq,not_false_eq_true]) (fun k hk=>(rd_map givA 3 (fun _=>rfl) _ _).src uGiven hk) (by rw [uGiven]; exact hr1.sized) (by rw [uGiven]; exact sized_map (f:=givA) (fun _=>rfl) _) (by simp only [go_sem,hr1.1,List.length_append,List.length_map,askHead,List.length_cons,List.length_nil]<;>omega) fun yz Gz hyz kpz=> ?_
       simp -implicitDefEqProofs only [go_sem,upd_ne,n21,n21.symm,n22,n22.symm,k1_1,k2_1,r2,r3,dth,d6]
       obtain ⟨qz,eqz⟩:=hyz.row
       exact .mk (givsA (askD s o)) (show Weak yz _ by rw [eqz,show askD s o=(askHead s o++ [(⟨4,[110,111,119],[⟨4,s.tick,[]⟩]⟩:GivD)])++askCaseD (caseD s.cases o.case) o.subj by simp [askD,askHead,dth,p6,pf,pt]]; exact (hr1.app (GRow.givs _)).weak qz) (hH.trans hyz.1) ⟨rfl,rfl⟩
    ·have dt:(o.to==([]:Txt))=false:=by simp [pt]
     simp -implicitDefEqProofs only [go_sem,k1,k2,r2,r3,dt]
     refine (id_ok _ _).pthen ?_
     simp -implicitDefEqProofs only [go_sem,k1,k2,r2,r3,valA,idV]
     refine (given_ok _ _ _ _ _).pthen ?_
     simp -implicitDefEqProofs only [go_sem,k1,k2,r2,r3,valA,idV]
     refine .accs hy.1 fun y3 G3 hy3 kp3=> ?_
     have k1_3:=kp3 _ _ _ k1
     have k2_3:=kp3 _ _ _ k2
     have hr3:=hr0.app (GRow.one (⟨2,[116,111],[idV o.to]⟩:GivD) .full)
     simp -implicitDefEqProofs only [go_sem,k1_3,k2_3,r2,r3]
     refine (given_ok _ _ _ _ _).pthen ?_
     simp -implicitDefEqProofs only [go_sem,k1_3,k2_3,r2,r3,valA,idV]
     refine hy3.app (zs:= [givQ (⟨4,[110,111,119],[⟨4,s.tick,[]⟩]⟩) .full]) (by rw [uGiven]; decide) (by simp only [go_sem,ne_eq,not_false_eq_true]) (fun k hk=>(Rd.sl (sized_one _ _) .full:Rd _ 3 _ _).src uGiven hk) (by rw [uGiven]; exact hr3.sized) (by rw [uGiven]; exact sized_one _ _) (by simp only [go_sem,hr3.1,List.length_append,askHead,List.length_cons,List.length_nil]<;>omega) fun y4 G4 hy4 kp4=> ?_
     have k1_4:=kp4 _ _ _ k1_3
     have k2_4:=kp4 _ _ _ k2_3
     have hr4:=hr3.app (GRow.one (⟨4,[110,111,119],[⟨4,s.tick,[]⟩]⟩:GivD) .full)
     simp -implicitDefEqProofs only [go_sem,k1_4,k2_4,r2,r3]
     refine (hca _ (hH.trans hy4.1)).pthen ?_
     simp -implicitDefEqProofs only [go_sem,k1_4,k2_4,r2,r3,caseA,caseC,fieldsA,logA]
     intro i50 h50
     have n51:i1≠i50:=fun e=>by rw [←e,k1_4] at h50; cases h50
     have n52:i2≠i50:=fun e=>by rw [←e,k2_4] at h50; cases h50
     simp -implicitDefEqProofs only [go_sem,upd_ne,n51,n51.symm,n52,n52.symm,k1_4,k2_4,r2,r3]
     obtain ⟨q5,eq5⟩:=hy4.row
     cases dth:thereD s.cases o.case
     ·simp -implicitDefEqProofs only [go_sem,upd_ne,n51,n51.symm,n52,n52.symm,k1_4,k2_4,r2,r3,dth]
      exact .mk (givsA (askD s o)) (show Weak y4 _ by rw [eq5,show askD s o=((askHead s o++ [(⟨2,[116,111],[idV o.to]⟩:GivD)])++ [(⟨4,[110,111,119],[⟨4,s.tick,[]⟩]⟩:GivD)]) by simp [askD,askHead,dth,pf,pt]]; exact hr4.weak q5) ((hH.trans hy4.1).put (hsub_none (hH.trans hy4.1) h50) _) ⟨rfl,rfl⟩
     ·simp -implicitDefEqProofs only [go_sem,upd_ne,n51,n51.symm,n52,n52.symm,k1_4,k2_4,r2,r3,dth]
      by_cases p6:o.kind=6
      ·have d6:(o.kind !=6)=false:=by simp [p6]
       simp -implicitDefEqProofs only [go_sem,upd_ne,n51,n51.symm,n52,n52.symm,k1_4,k2_4,r2,r3,dth,d6]
       exact .mk (givsA (askD s o)) (show Weak y4 _ by rw [eq5,show askD s o=((askHead s o++ [(⟨2,[116,111],[idV o.to]⟩:GivD)])++ [(⟨4,[110,111,119],[⟨4,s.tick,[]⟩]⟩:GivD)]) by simp [askD,askHead,dth,p6,pf,pt]]; exact hr4.weak q5) ((hH.trans hy4.1).put (hsub_none (hH.trans hy4.1) h50) _) ⟨rfl,rfl⟩
      ·have d6:(o.kind !=6)=true:=by simp [p6]
       simp -implicitDefEqProofs only [go_sem,upd_ne,n51,n51.symm,n52,n52.symm,k1_4,k2_4,r2,r3,dth,d6]
       refine (hak _).pthen ?_
       simp -implicitDefEqProofs only [go_sem,upd_ne,n51,n51.symm,n52,n52.symm,k1_4,k2_4,r2,r3,dth,d6,givsA]
       refine (hy4.sub (.upd_new h50)).app (zs:=(askCaseD (caseD s.cases o.case) o.subj).map givA) (by rw [uGiven]; decide) (by simp only [go_sem,ne_eq,not_false_eq_true]) (fun k hk=>(rd_map givA 3 (fun _=>rfl) _ _).src uGiven hk) (by rw [uGiven]; exact hr4.sized) (by rw [uGiven]; exact sized_map (f:=givA) (fun _=>rfl) _) (by simp only [go_sem,hr4.1,List.length_append,List.length_map,askHead,List.length_cons,List.length_nil]<;>omega) fun yz Gz hyz kpz=> ?_
       simp -implicitDefEqProofs only [go_sem,upd_ne,n51,n51.symm,n52,n52.symm,k1_4,k2_4,r2,r3,dth,d6]
       obtain ⟨qz,eqz⟩:=hyz.row
       exact .mk (givsA (askD s o)) (show Weak yz _ by rw [eqz,show askD s o=((askHead s o++ [(⟨2,[116,111],[idV o.to]⟩:GivD)])++ [(⟨4,[110,111,119],[⟨4,s.tick,[]⟩]⟩:GivD)])++askCaseD (caseD s.cases o.case) o.subj by simp [askD,askHead,dth,p6,pf,pt]]; exact (hr4.app (GRow.givs _)).weak qz) (hH.trans hyz.1) ⟨rfl,rfl⟩
   ·have df:(o.field==([]:Txt))=false:=by simp [pf]
    simp -implicitDefEqProofs only [go_sem,k1,k2,r2,r3,df]
    refine (id_ok _ _).pthen ?_
    simp -implicitDefEqProofs only [go_sem,k1,k2,r2,r3,valA,idV]
    refine (given_ok _ _ _ _ _).pthen ?_
    simp -implicitDefEqProofs only [go_sem,k1,k2,r2,r3,valA,idV]
    refine .accs hy.1 fun y6 G6 hy6 kp6=> ?_
    have k1_6:=kp6 _ _ _ k1
    have k2_6:=kp6 _ _ _ k2
    have hr6:=hr0.app (GRow.one (⟨2,[102,105,101,108,100],[idV o.field]⟩:GivD) .full)
    simp -implicitDefEqProofs only [go_sem,k1_6,k2_6,r2,r3]
    by_cases pt:o.to= []
    ·have dt:(o.to==([]:Txt))=true:=by simp [pt]
     simp -implicitDefEqProofs only [go_sem,k1_6,k2_6,r2,r3,dt]
     refine (given_ok _ _ _ _ _).pthen ?_
     simp -implicitDefEqProofs only [go_sem,k1_6,k2_6,r2,r3,valA,idV]
     refine hy6.app (zs:= [givQ (⟨4,[110,111,119],[⟨4,s.tick,[]⟩]⟩) .full]) (by rw [uGiven]; decide) (by simp only [go_sem,ne_eq,not_false_eq_true]) (fun k hk=>(Rd.sl (sized_one _ _) .full:Rd _ 3 _ _).src uGiven hk) (by rw [uGiven]; exact hr6.sized) (by rw [uGiven]; exact sized_one _ _) (by simp only [go_sem,hr6.1,List.length_append,askHead,List.length_cons,List.length_nil]<;>omega) fun y7 G7 hy7 kp7=> ?_
     have k1_7:=kp7 _ _ _ k1_6
     have k2_7:=kp7 _ _ _ k2_6
     have hr7:=hr6.app (GRow.one (⟨4,[110,111,119],[⟨4,s.tick,[]⟩]⟩:GivD) .full)
     simp -implicitDefEqProofs only [go_sem,k1_7,k2_7,r2,r3]
     refine (hca _ (hH.trans hy7.1)).pthen ?_
     simp -implicitDefEqProofs only [go_sem,k1_7,k2_7,r2,r3,caseA,caseC,fieldsA,logA]
     intro i80 h80
     have n81:i1≠i80:=fun e=>by rw [←e,k1_7] at h80; cases h80
     have n82:i2≠i80:=fun e=>by rw [←e,k2_7] at h80; cases h80
     simp -implicitDefEqProofs only [go_sem,upd_ne,n81,n81.symm,n82,n82.symm,k1_7,k2_7,r2,r3]
     obtain ⟨q8,eq8⟩:=hy7.row
     cases dth:thereD s.cases o.case
     ·simp -implicitDefEqProofs only [go_sem,upd_ne,n81,n81.symm,n82,n82.symm,k1_7,k2_7,r2,r3,dth]
      exact .mk (givsA (askD s o)) (show Weak y7 _ by rw [eq8,show askD s o=((askHead s o++ [(⟨2,[102,105,101,108,100],[idV o.field]⟩:GivD)])++ [(⟨4,[110,111,119],[⟨4,s.tick,[]⟩]⟩:GivD)]) by simp [askD,askHead,dth,pf,pt]]; exact hr7.weak q8) ((hH.trans hy7.1).put (hsub_none (hH.trans hy7.1) h80) _) ⟨rfl,rfl⟩
     ·simp -implicitDefEqProofs only [go_sem,upd_ne,n81,n81.symm,n82,n82.symm,k1_7,k2_7,r2,r3,dth]
      by_cases p6:o.kind=6
      ·have d6:(o.kind !=6)=false:=by simp [p6]
       simp -implicitDefEqProofs only [go_sem,upd_ne,n81,n81.symm,n82,n82.symm,k1_7,k2_7,r2,r3,dth,d6]
       exact .mk (givsA (askD s o)) (show Weak y7 _ by rw [eq8,show askD s o=((askHead s o++ [(⟨2,[102,105,101,108,100],[idV o.field]⟩:GivD)])++ [(⟨4,[110,111,119],[⟨4,s.tick,[]⟩]⟩:GivD)]) by simp [askD,askHead,dth,p6,pf,pt]]; exact hr7.weak q8) ((hH.trans hy7.1).put (hsub_none (hH.trans hy7.1) h80) _) ⟨rfl,rfl⟩
      ·have d6:(o.kind !=6)=true:=by simp [p6]
       simp -implicitDefEqProofs only [go_sem,upd_ne,n81,n81.symm,n82,n82.symm,k1_7,k2_7,r2,r3,dth,d6]
       refine (hak _).pthen ?_
       simp -implicitDefEqProofs only [go_sem,upd_ne,n81,n81.symm,n82,n82.symm,k1_7,k2_7,r2,r3,dth,d6,givsA]
       refine (hy7.sub (.upd_new h80)).app (zs:=(askCaseD (caseD s.cases o.case) o.subj).map givA) (by rw [uGiven]; decide) (by simp only [go_sem,ne_eq,not_false_eq_true]) (fun k hk=>(rd_map givA 3 (fun _=>rfl) _ _).src uGiven hk) (by rw [uGiven]; exact hr7.sized) (by rw [uGiven]; exact sized_map (f:=givA) (fun _=>rfl) _) (by simp only [go_sem,hr7.1,List.length_append,List.length_map,askHead,List.length_cons,List.length_nil]<;>omega) fun yz Gz hyz kpz=> ?_
       simp -implicitDefEqProofs only [go_sem,upd_ne,n81,n81.symm,n82,n82.symm,k1_7,k2_7,r2,r3,dth,d6]
       obtain ⟨qz,eqz⟩:=hyz.row
       exact .mk (givsA (askD s o)) (show Weak yz _ by rw [eqz,show askD s o=((askHead s o++ [(⟨2,[102,105,101,108,100],[idV o.field]⟩:GivD)])++ [(⟨4,[110,111,119],[⟨4,s.tick,[]⟩]⟩:GivD)])++askCaseD (caseD s.cases o.case) o.subj by simp [askD,askHead,dth,p6,pf,pt]]; exact (hr7.app (GRow.givs _)).weak qz) (hH.trans hyz.1) ⟨rfl,rfl⟩
    ·have dt:(o.to==([]:Txt))=false:=by simp [pt]
     simp -implicitDefEqProofs only [go_sem,k1_6,k2_6,r2,r3,dt]
     refine (id_ok _ _).pthen ?_
     simp -implicitDefEqProofs only [go_sem,k1_6,k2_6,r2,r3,valA,idV]
     refine (given_ok _ _ _ _ _).pthen ?_
     simp -implicitDefEqProofs only [go_sem,k1_6,k2_6,r2,r3,valA,idV]
     refine hy6.app (zs:= [givQ (⟨2,[116,111],[idV o.to]⟩) .full]) (by rw [uGiven]; decide) (by simp only [go_sem,ne_eq,not_false_eq_true]) (fun k hk=>(Rd.sl (sized_one _ _) .full:Rd _ 3 _ _).src uGiven hk) (by rw [uGiven]; exact hr6.sized) (by rw [uGiven]; exact sized_one _ _) (by simp only [go_sem,hr6.1,List.length_append,askHead,List.length_cons,List.length_nil]<;>omega) fun y9 G9 hy9 kp9=> ?_
     have k1_9:=kp9 _ _ _ k1_6
     have k2_9:=kp9 _ _ _ k2_6
     have hr9:=hr6.app (GRow.one (⟨2,[116,111],[idV o.to]⟩:GivD) .full)
     simp -implicitDefEqProofs only [go_sem,k1_9,k2_9,r2,r3]
     refine (given_ok _ _ _ _ _).pthen ?_
     simp -implicitDefEqProofs only [go_sem,k1_9,k2_9,r2,r3,valA,idV]
     refine hy9.app (zs:= [givQ (⟨4,[110,111,119],[⟨4,s.tick,[]⟩]⟩) .full]) (by rw [uGiven]; decide) (by simp only [go_sem,ne_eq,not_false_eq_true]) (fun k hk=>(Rd.sl (sized_one _ _) .full:Rd _ 3 _ _).src uGiven hk) (by rw [uGiven]; exact hr9.sized) (by rw [uGiven]; exact sized_one _ _) (by simp only [go_sem,hr9.1,List.length_append,askHead,List.length_cons,List.length_nil]<;>omega) fun y10 G10 hy10 kp10=> ?_
     have k1_10:=kp10 _ _ _ k1_9
     have k2_10:=kp10 _ _ _ k2_9
     have hr10:=hr9.app (GRow.one (⟨4,[110,111,119],[⟨4,s.tick,[]⟩]⟩:GivD) .full)
     simp -implicitDefEqProofs only [go_sem,k1_10,k2_10,r2,r3]
     refine (hca _ (hH.trans hy10.1)).pthen ?_
     simp -implicitDefEqProofs only [go_sem,k1_10,k2_10,r2,r3,caseA,caseC,fieldsA,logA]
     intro i110 h110
     have n111:i1≠i110:=fun e=>by rw [←e,k1_10] at h110; cases h110
     have n112:i2≠i110:=fun e=>by rw [←e,k2_10] at h110; cases h110
     simp -implicitDefEqProofs only [go_sem,upd_ne,n111,n111.symm,n112,n112.symm,k1_10,k2_10,r2,r3]
     obtain ⟨q11,eq11⟩:=hy10.row
     cases dth:thereD s.cases o.case
     ·simp -implicitDefEqProofs only [go_sem,upd_ne,n111,n111.symm,n112,n112.symm,k1_10,k2_10,r2,r3,dth]
      exact .mk (givsA (askD s o)) (show Weak y10 _ by rw [eq11,show askD s o=(((askHead s o++ [(⟨2,[102,105,101,108,100],[idV o.field]⟩:GivD)])++ [(⟨2,[116,111],[idV o.to]⟩:GivD)])++ [(⟨4,[110,111,119],[⟨4,s.tick,[]⟩]⟩:GivD)]) by simp [askD,askHead,dth,pf,pt]]; exact hr10.weak q11) ((hH.trans hy10.1).put (hsub_none (hH.trans hy10.1) h110) _) ⟨rfl,rfl⟩
     ·simp -implicitDefEqProofs only [go_sem,upd_ne,n111,n111.symm,n112,n112.symm,k1_10,k2_10,r2,r3,dth]
      by_cases p6:o.kind=6
      ·have d6:(o.kind !=6)=false:=by simp [p6]
       simp -implicitDefEqProofs only [go_sem,upd_ne,n111,n111.symm,n112,n112.symm,k1_10,k2_10,r2,r3,dth,d6]
       exact .mk (givsA (askD s o)) (show Weak y10 _ by rw [eq11,show askD s o=(((askHead s o++ [(⟨2,[102,105,101,108,100],[idV o.field]⟩:GivD)])++ [(⟨2,[116,111],[idV o.to]⟩:GivD)])++ [(⟨4,[110,111,119],[⟨4,s.tick,[]⟩]⟩:GivD)]) by simp [askD,askHead,dth,p6,pf,pt]]; exact hr10.weak q11) ((hH.trans hy10.1).put (hsub_none (hH.trans hy10.1) h110) _) ⟨rfl,rfl⟩
      ·have d6:(o.kind !=6)=true:=by simp [p6]
       simp -implicitDefEqProofs only [go_sem,upd_ne,n111,n111.symm,n112,n112.symm,k1_10,k2_10,r2,r3,dth,d6]
       refine (hak _).pthen ?_
       simp -implicitDefEqProofs only [go_sem,upd_ne,n111,n111.symm,n112,n112.symm,k1_10,k2_10,r2,r3,dth,d6,givsA]
       refine (hy10.sub (.upd_new h110)).app (zs:=(askCaseD (caseD s.cases o.case) o.subj).map givA) (by rw [uGiven]; decide) (by simp only [go_sem,ne_eq,not_false_eq_true]) (fun k hk=>(rd_map givA 3 (fun _=>rfl) _ _).src uGiven hk) (by rw [uGiven]; exact hr10.sized) (by rw [uGiven]; exact sized_map (f:=givA) (fun _=>rfl) _) (by simp only [go_sem,hr10.1,List.length_append,List.length_map,askHead,List.length_cons,List.length_nil]<;>omega) fun yz Gz hyz kpz=> ?_
       simp -implicitDefEqProofs only [go_sem,upd_ne,n111,n111.symm,n112,n112.symm,k1_10,k2_10,r2,r3,dth,d6]
       obtain ⟨qz,eqz⟩:=hyz.row
       exact .mk (givsA (askD s o)) (show Weak yz _ by rw [eqz,show askD s o=(((askHead s o++ [(⟨2,[102,105,101,108,100],[idV o.field]⟩:GivD)])++ [(⟨2,[116,111],[idV o.to]⟩:GivD)])++ [(⟨4,[110,111,119],[⟨4,s.tick,[]⟩]⟩:GivD)])++askCaseD (caseD s.cases o.case) o.subj by simp [askD,askHead,dth,p6,pf,pt]]; exact (hr10.app (GRow.givs _)).weak qz) (hH.trans hyz.1) ⟨rfl,rfl⟩
end Go.Proofs.YtmlhcdeamjkpjaaGreatDoor

set_option linter.unusedSimpArgs false
set_option linter.unusedVariables false
namespace Go.Bf
open Go Go.Ab
def eqVal (a b:ValD):Bool:=a.kind==b.kind && (a.n==b.n && a.s==b.s)
def eqL {α:Type} (f:α→α→Bool):List α→List α→Bool
 | [],[]=>true
 |x::a,y::b=>f x y && eqL f a b
 |_,_=>false
theorem eqL_true {α:Type} {f:α→α→Bool}:∀ {a b:List α},a.length=b.length→(∀j (h1:j<a.length) (h2:j<b.length),f a[j] b[j]=true)→eqL f a b=true
 | [],[],_,_=>rfl
 |x::a,y::b,hl,h=>by
  simp only [eqL,Bool.and_eq_true]
  exact ⟨h 0 (by simp) (by simp),eqL_true (by simpa using hl) fun j h1 h2=>h (j+1) (by simpa using h1) (by simpa using h2)⟩
theorem eqL_len {α:Type} {f:α→α→Bool}:∀ {a b:List α},a.length≠b.length→eqL f a b=false
 | [],[],h=>(h rfl).elim
 | [],_::_,_=>rfl
 |_::_,[],_=>rfl
 |x::a,y::b,h=>by
  simp only [eqL]
  rw [eqL_len (fun e=>h (by simp [e])),Bool.and_false]
theorem eqL_at {α:Type} {f:α→α→Bool}:∀ {a b:List α} (j:Nat) (h1:j<a.length) (h2:j<b.length),f a[j] b[j]=false→eqL f a b=false
 |x::a,y::b,0,_,_,h=>by simp only [List.getElem_cons_zero] at h; simp [eqL,h]
 |x::a,y::b,j+1,h1,h2,h=>by
  simp only [eqL]
  rw [eqL_at j (by simpa using h1) (by simpa using h2) (by simpa using h),Bool.and_false]
end Go.Bf
namespace Go.Proofs.YtmlhcdeamjkpjaaGreatDoor
open Go Go.Ab Go.Bf
end Go.Proofs.YtmlhcdeamjkpjaaGreatDoor

set_option linter.unusedSimpArgs false
set_option linter.unusedVariables false
namespace Go.Bf
open Go Go.Ab
def eqRoleD (a b:RoleD):Bool:=a.subj==b.subj && a.role==b.role
def eqFieldD (a b:FieldD):Bool:=a.name==b.name && (a.val.kind==b.val.kind && (a.val.n==b.val.n && a.val.s==b.val.s))
def eqHapD (a b:HapD):Bool:=a.tick==b.tick && (a.actor==b.actor && a.what==b.what)
end Go.Bf
namespace Go.Proofs.YtmlhcdeamjkpjaaGreatDoor
open Go Go.Ab Go.Bf
theorem sameValue_ok (a b:List ValD) (q1 q2:Perm) (h:Heap):FnOK Tryz.prog 67 [.sl (a.map valA) q1, .sl (b.map valA) q2] h fun r h' =>r= .v (.bool (eqL eqVal a b))∧h' =h:=by
 refine FnOK.body hU hm Tryz.func67 rfl (by kernel_rfl) 26 rfl [.tmp 4] rfl (Nat.le_of_ble_eq_true rfl) (fun hwf=> ?_)
 cases d1:((a.length:Int) !=(b.length:Int))
 case true=>
  have e1:a.length≠b.length:=by
   intro e; rw [e] at d1; simp at d1
  simp -implicitDefEqProofs only [go_sem,List.length_map,d1]
  exact .same (.refl _) ⟨by rw [eqL_len e1]; rfl,rfl⟩
 have e1:a.length=b.length:=by have:(a.length:Int)=b.length:=(by simpa using d1); omega
 simp -implicitDefEqProofs only [go_sem,List.length_map,d1]
 refine .intro (fun m ρ h' =>Ab.Sub h h'∧∃i:Nat,i≤a.length∧m=a.length - i∧(∀j (h1:j<a.length) (h2:j<b.length),j<i→eqVal a[j] b[j]=true)∧lk ρ 0=some (.sl (a.map valA) q1)∧lk ρ 1=some (.sl (b.map valA) q2)∧lk ρ 5=some (.v (.int .i64 i))) a.length ?_ ?_
 ·refine ⟨.refl _,0,by omega,rfl,fun j _ _ hj=>(by omega), ?_, ?_, ?_⟩<;>simp -implicitDefEqProofs only [go_sem]
 ·rintro m ρ h' ⟨hs,i,hi,rfl,hc,r0,r1,r5⟩
  simp -implicitDefEqProofs only [go_sem,r0,r1,r5,List.length_map]
  refine .intro (fun e=> ?_) (fun e=> ?_)
  ·have hlt:i<a.length:=Int.ofNat_lt.1 (of_decide_eq_true e)
   have hlt2:i<b.length:=by omega
   have w1:IntKind.i64.wrap ((i:Int)+1)=((i+1:Nat):Int):=by
    have:=hwf (.sl (a.map valA) q1) (by simp)
    simp only [wfA,wf1,lim,List.length_map] at this
    rw [wr64 _ (by omega)]; omega
   simp -implicitDefEqProofs only [go_sem,r0,r1,r5,List.length_map]
   refine ⟨.of (by kernel_rfl), ?_⟩
   refine .at i (by simpa using hlt) (by rw [List.getElem_map]; rfl) ?_
   simp -implicitDefEqProofs only [go_sem,r0,r1,r5,List.getElem_map,valA]
   refine .at i (by simpa using hlt2) (by rw [List.getElem_map]; rfl) ?_
   simp -implicitDefEqProofs only [go_sem,r0,r1,r5,List.getElem_map,valA]
   cases d3:eqVal a[i] b[i]
   ·have d4:=d3
    simp only [eqVal] at d4
    simp -implicitDefEqProofs only [go_sem,r0,r1,r5,d4]
    exact .mk _ (.refl _) hs ⟨by rw [eqL_at i hlt hlt2 d3]; rfl,rfl⟩
   ·have d4:=d3
    simp only [eqVal] at d4
    simp -implicitDefEqProofs only [go_sem,r0,r1,r5,d4,w1]
    refine ⟨_, ?_,hs,i+1,by omega,rfl,fun j h1 h2 hj=> ?_, ?_, ?_, ?_⟩
    ·omega
    ·by_cases hji:j=i
     ·subst hji; exact d3
     ·exact hc j h1 h2 (by omega)
    all_goals simp -implicitDefEqProofs only [go_sem,r0,r1,r5,w1]
  ·have hge:i=a.length:=by have:=of_decide_eq_false e; omega
   subst hge
   simp -implicitDefEqProofs only [go_sem,r0,r1,r5]
   exact .mk _ (.refl _) hs ⟨by rw [eqL_true e1 fun j h1 h2=>hc j h1 h2 h1]; rfl,rfl⟩
theorem sameRole_ok (a b:List RoleD) (q1 q2:Perm) (h:Heap):FnOK Tryz.prog 37 [.sl (a.map roleA) q1, .sl (b.map roleA) q2] h fun r h' =>r= .v (.bool (eqL eqRoleD a b))∧h' =h:=by
 refine FnOK.body hU hm Tryz.func37 rfl (by kernel_rfl) 26 rfl [.tmp 4] rfl (Nat.le_of_ble_eq_true rfl) (fun hwf=> ?_)
 cases d1:((a.length:Int) !=(b.length:Int))
 case true=>
  have e1:a.length≠b.length:=by
   intro e; rw [e] at d1; simp at d1
  simp -implicitDefEqProofs only [go_sem,List.length_map,d1]
  exact .same (.refl _) ⟨by rw [eqL_len e1]; rfl,rfl⟩
 have e1:a.length=b.length:=by have:(a.length:Int)=b.length:=(by simpa using d1); omega
 simp -implicitDefEqProofs only [go_sem,List.length_map,d1]
 refine .intro (fun m ρ h' =>Ab.Sub h h'∧∃i:Nat,i≤a.length∧m=a.length - i∧(∀j (h1:j<a.length) (h2:j<b.length),j<i→eqRoleD a[j] b[j]=true)∧lk ρ 0=some (.sl (a.map roleA) q1)∧lk ρ 1=some (.sl (b.map roleA) q2)∧lk ρ 5=some (.v (.int .i64 i))) a.length ?_ ?_
 ·refine ⟨.refl _,0,by omega,rfl,fun j _ _ hj=>(by omega), ?_, ?_, ?_⟩<;>simp -implicitDefEqProofs only [go_sem]
 ·rintro m ρ h' ⟨hs,i,hi,rfl,hc,r0,r1,r5⟩
  simp -implicitDefEqProofs only [go_sem,r0,r1,r5,List.length_map]
  refine .intro (fun e=> ?_) (fun e=> ?_)
  ·have hlt:i<a.length:=Int.ofNat_lt.1 (of_decide_eq_true e)
   have hlt2:i<b.length:=by omega
   have w1:IntKind.i64.wrap ((i:Int)+1)=((i+1:Nat):Int):=by
    have:=hwf (.sl (a.map roleA) q1) (by simp)
    simp only [wfA,wf1,lim,List.length_map] at this
    rw [wr64 _ (by omega)]; omega
   simp -implicitDefEqProofs only [go_sem,r0,r1,r5,List.length_map]
   refine ⟨.of (by kernel_rfl), ?_⟩
   refine .at i (by simpa using hlt) (by rw [List.getElem_map]; rfl) ?_
   simp -implicitDefEqProofs only [go_sem,r0,r1,r5,List.getElem_map,roleA]
   refine .at i (by simpa using hlt2) (by rw [List.getElem_map]; rfl) ?_
   simp -implicitDefEqProofs only [go_sem,r0,r1,r5,List.getElem_map,roleA]
   cases d3:eqRoleD a[i] b[i]
   ·have d4:=d3
    simp only [eqRoleD] at d4
    simp -implicitDefEqProofs only [go_sem,r0,r1,r5,d4]
    exact .mk _ (.refl _) hs ⟨by rw [eqL_at i hlt hlt2 d3]; rfl,rfl⟩
   ·have d4:=d3
    simp only [eqRoleD] at d4
    simp -implicitDefEqProofs only [go_sem,r0,r1,r5,d4,w1]
    refine ⟨_, ?_,hs,i+1,by omega,rfl,fun j h1 h2 hj=> ?_, ?_, ?_, ?_⟩
    ·omega
    ·by_cases hji:j=i
     ·subst hji; exact d3
     ·exact hc j h1 h2 (by omega)
    all_goals simp -implicitDefEqProofs only [go_sem,r0,r1,r5,w1]
  ·have hge:i=a.length:=by have:=of_decide_eq_false e; omega
   subst hge
   simp -implicitDefEqProofs only [go_sem,r0,r1,r5]
   exact .mk _ (.refl _) hs ⟨by rw [eqL_true e1 fun j h1 h2=>hc j h1 h2 h1]; rfl,rfl⟩
theorem sameField_ok (a b:List FieldD) (q1 q2:Perm) (h:Heap):FnOK Tryz.prog 75 [.sl (a.map fieldA) q1, .sl (b.map fieldA) q2] h fun r h' =>r= .v (.bool (eqL eqFieldD a b))∧h' =h:=by
 refine FnOK.body hU hm Tryz.func75 rfl (by kernel_rfl) 26 rfl [.tmp 4] rfl (Nat.le_of_ble_eq_true rfl) (fun hwf=> ?_)
 cases d1:((a.length:Int) !=(b.length:Int))
 case true=>
  have e1:a.length≠b.length:=by
   intro e; rw [e] at d1; simp at d1
  simp -implicitDefEqProofs only [go_sem,List.length_map,d1]
  exact .same (.refl _) ⟨by rw [eqL_len e1]; rfl,rfl⟩
 have e1:a.length=b.length:=by have:(a.length:Int)=b.length:=(by simpa using d1); omega
 simp -implicitDefEqProofs only [go_sem,List.length_map,d1]
 refine .intro (fun m ρ h' =>Ab.Sub h h'∧∃i:Nat,i≤a.length∧m=a.length - i∧(∀j (h1:j<a.length) (h2:j<b.length),j<i→eqFieldD a[j] b[j]=true)∧lk ρ 0=some (.sl (a.map fieldA) q1)∧lk ρ 1=some (.sl (b.map fieldA) q2)∧lk ρ 5=some (.v (.int .i64 i))) a.length ?_ ?_
 ·refine ⟨.refl _,0,by omega,rfl,fun j _ _ hj=>(by omega), ?_, ?_, ?_⟩<;>simp -implicitDefEqProofs only [go_sem]
 ·rintro m ρ h' ⟨hs,i,hi,rfl,hc,r0,r1,r5⟩
  simp -implicitDefEqProofs only [go_sem,r0,r1,r5,List.length_map]
  refine .intro (fun e=> ?_) (fun e=> ?_)
  ·have hlt:i<a.length:=Int.ofNat_lt.1 (of_decide_eq_true e)
   have hlt2:i<b.length:=by omega
   have w1:IntKind.i64.wrap ((i:Int)+1)=((i+1:Nat):Int):=by
    have:=hwf (.sl (a.map fieldA) q1) (by simp)
    simp only [wfA,wf1,lim,List.length_map] at this
    rw [wr64 _ (by omega)]; omega
   simp -implicitDefEqProofs only [go_sem,r0,r1,r5,List.length_map]
   refine ⟨.of (by kernel_rfl), ?_⟩
   refine .at i (by simpa using hlt) (by rw [List.getElem_map]; rfl) ?_
   simp -implicitDefEqProofs only [go_sem,r0,r1,r5,List.getElem_map,fieldA]
   refine .at i (by simpa using hlt2) (by rw [List.getElem_map]; rfl) ?_
   simp -implicitDefEqProofs only [go_sem,r0,r1,r5,List.getElem_map,fieldA]
   cases d3:eqFieldD a[i] b[i]
   ·have d4:=d3
    simp only [eqFieldD] at d4
    simp -implicitDefEqProofs only [go_sem,r0,r1,r5,d4]
    exact .mk _ (.refl _) hs ⟨by rw [eqL_at i hlt hlt2 d3]; rfl,rfl⟩
   ·have d4:=d3
    simp only [eqFieldD] at d4
    simp -implicitDefEqProofs only [go_sem,r0,r1,r5,d4,w1]
    refine ⟨_, ?_,hs,i+1,by omega,rfl,fun j h1 h2 hj=> ?_, ?_, ?_, ?_⟩
    ·omega
    ·by_cases hji:j=i
     ·subst hji; exact d3
     ·exact hc j h1 h2 (by omega)
    all_goals simp -implicitDefEqProofs only [go_sem,r0,r1,r5,w1]
  ·have hge:i=a.length:=by have:=of_decide_eq_false e; omega
   subst hge
   simp -implicitDefEqProofs only [go_sem,r0,r1,r5]
   exact .mk _ (.refl _) hs ⟨by rw [eqL_true e1 fun j h1 h2=>hc j h1 h2 h1]; rfl,rfl⟩
theorem sameHap_ok (a b:List HapD) (q1 q2:Perm) (h:Heap):FnOK Tryz.prog 76 [.sl (a.map hapA) q1, .sl (b.map hapA) q2] h fun r h' =>r= .v (.bool (eqL eqHapD a b))∧h' =h:=by
 refine FnOK.body hU hm Tryz.func76 rfl (by kernel_rfl) 26 rfl [.tmp 4] rfl (Nat.le_of_ble_eq_true rfl) (fun hwf=> ?_)
 cases d1:((a.length:Int) !=(b.length:Int))
 case true=>
  have e1:a.length≠b.length:=by
   intro e; rw [e] at d1; simp at d1
  simp -implicitDefEqProofs only [go_sem,List.length_map,d1]
  exact .same (.refl _) ⟨by rw [eqL_len e1]; rfl,rfl⟩
 have e1:a.length=b.length:=by have:(a.length:Int)=b.length:=(by simpa using d1); omega
 simp -implicitDefEqProofs only [go_sem,List.length_map,d1]
 refine .intro (fun m ρ h' =>Ab.Sub h h'∧∃i:Nat,i≤a.length∧m=a.length - i∧(∀j (h1:j<a.length) (h2:j<b.length),j<i→eqHapD a[j] b[j]=true)∧lk ρ 0=some (.sl (a.map hapA) q1)∧lk ρ 1=some (.sl (b.map hapA) q2)∧lk ρ 5=some (.v (.int .i64 i))) a.length ?_ ?_
 ·refine ⟨.refl _,0,by omega,rfl,fun j _ _ hj=>(by omega), ?_, ?_, ?_⟩<;>simp -implicitDefEqProofs only [go_sem]
 ·rintro m ρ h' ⟨hs,i,hi,rfl,hc,r0,r1,r5⟩
  simp -implicitDefEqProofs only [go_sem,r0,r1,r5,List.length_map]
  refine .intro (fun e=> ?_) (fun e=> ?_)
  ·have hlt:i<a.length:=Int.ofNat_lt.1 (of_decide_eq_true e)
   have hlt2:i<b.length:=by omega
   have w1:IntKind.i64.wrap ((i:Int)+1)=((i+1:Nat):Int):=by
    have:=hwf (.sl (a.map hapA) q1) (by simp)
    simp only [wfA,wf1,lim,List.length_map] at this
    rw [wr64 _ (by omega)]; omega
   simp -implicitDefEqProofs only [go_sem,r0,r1,r5,List.length_map]
   refine ⟨.of (by kernel_rfl), ?_⟩
   refine .at i (by simpa using hlt) (by rw [List.getElem_map]; rfl) ?_
   simp -implicitDefEqProofs only [go_sem,r0,r1,r5,List.getElem_map,hapA]
   refine .at i (by simpa using hlt2) (by rw [List.getElem_map]; rfl) ?_
   simp -implicitDefEqProofs only [go_sem,r0,r1,r5,List.getElem_map,hapA]
   cases d3:eqHapD a[i] b[i]
   ·have d4:=d3
    simp only [eqHapD] at d4
    simp -implicitDefEqProofs only [go_sem,r0,r1,r5,d4]
    exact .mk _ (.refl _) hs ⟨by rw [eqL_at i hlt hlt2 d3]; rfl,rfl⟩
   ·have d4:=d3
    simp only [eqHapD] at d4
    simp -implicitDefEqProofs only [go_sem,r0,r1,r5,d4,w1]
    refine ⟨_, ?_,hs,i+1,by omega,rfl,fun j h1 h2 hj=> ?_, ?_, ?_, ?_⟩
    ·omega
    ·by_cases hji:j=i
     ·subst hji; exact d3
     ·exact hc j h1 h2 (by omega)
    all_goals simp -implicitDefEqProofs only [go_sem,r0,r1,r5,w1]
  ·have hge:i=a.length:=by have:=of_decide_eq_false e; omega
   subst hge
   simp -implicitDefEqProofs only [go_sem,r0,r1,r5]
   exact .mk _ (.refl _) hs ⟨by rw [eqL_true e1 fun j h1 h2=>hc j h1 h2 h1]; rfl,rfl⟩
end Go.Proofs.YtmlhcdeamjkpjaaGreatDoor

set_option linter.unusedSimpArgs false
set_option linter.unusedVariables false
namespace Go.Bf
open Go Go.Ab
def eqGiv (g h:GivD):Bool:=g.cat==h.cat && (g.name==h.name && eqL eqVal g.bag h.bag)
def asksD (a b:List GivD):Bool:=decide (a.length=b.length) && a.all fun g=>b.any (eqGiv g)
theorem any_succ {α:Type} {q:α→Bool} {l:List α} {i:Nat} (h:i<l.length):(l.take (i+1)).any q=((l.take i).any q||q l[i]):=by
 rw [List.take_succ_eq_append_getElem h,List.any_append]; simp
theorem asksD_true {a b:List GivD} (h1:a.length=b.length) (h2:∀j (h:j<a.length),b.any (eqGiv a[j])=true):asksD a b=true:=by
 simp only [asksD,Bool.and_eq_true,decide_eq_true_eq,List.all_eq_true]
 refine ⟨h1,fun g hg=> ?_⟩
 obtain ⟨j,hj,rfl⟩:=List.mem_iff_getElem.1 hg
 exact h2 j hj
theorem asksD_len {a b:List GivD} (h1:a.length≠b.length):asksD a b=false:=by simp [asksD,h1]
theorem asksD_at {a b:List GivD} (j:Nat) (h:j<a.length) (h2:b.any (eqGiv a[j])=false):asksD a b=false:=by
 simp only [asksD,Bool.and_eq_false_iff]
 exact .inr (List.all_eq_false.2 ⟨_,List.getElem_mem h,by rw [h2]; decide⟩)
end Go.Bf
namespace Go.Proofs.YtmlhcdeamjkpjaaGreatDoor
open Go Go.Ab Go.Bf
set_option maxRecDepth 100000 in
theorem asks_ok {xs ys:List AV} {a b:List GivD} (hx:GRow xs a) (hy:GRow ys b) (q1 q2:Perm) (h:Heap):FnOK Tryz.prog 23 [.sl xs q1, .sl ys q2] h fun r h' =>r= .v (.bool (asksD a b))∧h' =h:=by
 have hxl:=hx.1
 have hyl:=hy.1
 refine FnOK.body hU hm Tryz.func23 rfl (by kernel_rfl) 53 rfl [.tmp 4] rfl (Nat.le_of_ble_eq_true rfl) (fun hwf=> ?_)
 have hlx:xs.length<lim:=hwf (.sl xs q1) (by simp)
 have hly:ys.length<lim:=hwf (.sl ys q2) (by simp)
 simp only [lim] at hlx hly
 cases d1:((a.length:Int) !=(b.length:Int))
 case true=>
  have e1:a.length≠b.length:=by
   intro e; rw [e] at d1; simp at d1
  simp -implicitDefEqProofs only [go_sem,hxl,hyl,d1]
  exact .same (.refl _) ⟨by rw [asksD_len e1]; rfl,rfl⟩
 have e1:a.length=b.length:=by have:(a.length:Int)=b.length:=(by simpa using d1); omega
 simp -implicitDefEqProofs only [go_sem,hxl,hyl,d1]
 refine .intro (fun m ρ h' =>Ab.Sub h h'∧∃i:Nat,i≤a.length∧m=a.length - i∧(∀j (h1:j<a.length),j<i→b.any (eqGiv a[j])=true)∧lk ρ 1=some (.sl ys q2)∧lk ρ 15=some (.sl xs q1)∧lk ρ 16=some (.v (.int .i64 a.length))∧lk ρ 17=some (.v (.int .i64 i))) a.length ?_ ?_
 ·refine ⟨.refl _,0,by omega,rfl,fun j _ hj=>(by omega), ?_, ?_, ?_, ?_⟩<;>simp -implicitDefEqProofs only [go_sem]
 ·rintro m ρ h' ⟨hs,i,hi,rfl,hc,r1,r15,r16,r17⟩
  simp -implicitDefEqProofs only [go_sem,r1,r15,r16,r17]
  refine .intro (fun e=> ?_) (fun e=> ?_)
  ·have hlt:i<a.length:=Int.ofNat_lt.1 (of_decide_eq_true e)
   have hltx:i<xs.length:=by omega
   have w1:IntKind.i64.wrap ((i:Int)+1)=((i+1:Nat):Int):=by rw [wr64 _ (by omega)]; omega
   obtain ⟨qi,exi⟩:=hx.2 i hltx hlt
   simp -implicitDefEqProofs only [go_sem,r1,r15,r16,r17]
   refine .at i hltx (by rw [exi]; rfl) ?_
   simp -implicitDefEqProofs only [go_sem,r1,r15,r16,r17,exi,givQ]
   intro i6 h6
   simp -implicitDefEqProofs only [go_sem,r1,r15,r16,r17,hyl]
   refine .intro (fun m ρ G=>Ab.Sub h' G∧G i6=some (.obj [.v (.int .i64 a[i].cat), .s a[i].name, .sl (a[i].bag.map valA) qi] 123)∧∃j:Nat,j≤b.length∧m=b.length - j∧lk ρ 1=some (.sl ys q2)∧lk ρ 15=some (.sl xs q1)∧lk ρ 16=some (.v (.int .i64 a.length))∧lk ρ 17=some (.v (.int .i64 i))∧lk ρ 6=some (.ptr i6 0)∧lk ρ 7=some (.v (.bool ((b.take j).any (eqGiv a[i]))))∧lk ρ 21=some (.sl ys q2)∧lk ρ 22=some (.v (.int .i64 b.length))∧lk ρ 23=some (.v (.int .i64 j))) b.length ?_ ?_
   ·refine ⟨.upd_new h6,upd_same ..,0,by omega,rfl, ?_, ?_, ?_, ?_, ?_, ?_, ?_, ?_, ?_⟩<;>simp -implicitDefEqProofs only [go_sem,r1,r15,r16,r17,List.take_zero,List.any_nil]
   ·rintro m ρ G ⟨hG,g6,j,hj,rfl,r1,r15,r16,r17,r6,r7,r21,r22,r23⟩
    simp -implicitDefEqProofs only [go_sem,r1,r15,r16,r17,r6,r7,r21,r22,r23]
    refine .intro (fun e=> ?_) (fun e=> ?_)
    ·have hlt2:j<b.length:=Int.ofNat_lt.1 (of_decide_eq_true e)
     have hlty:j<ys.length:=by omega
     have w2:IntKind.i64.wrap ((j:Int)+1)=((j+1:Nat):Int):=by rw [wr64 _ (by omega)]; omega
     obtain ⟨qj,eyj⟩:=hy.2 j hlty hlt2
     simp -implicitDefEqProofs only [go_sem,r1,r15,r16,r17,r6,r7,r21,r22,r23]
     refine .at j hlty (by rw [eyj]; rfl) ?_
     simp -implicitDefEqProofs only [go_sem,r1,r15,r16,r17,r6,r7,r21,r22,r23,eyj,givQ]
     intro i9 h9
     have n96:i6≠i9:=fun e=>by rw [←e,g6] at h9; cases h9
     simp -implicitDefEqProofs only [go_sem,upd_ne,n96,n96.symm,g6,r1,r15,r16,r17,r6,r7,r21,r22,r23]
     have hG9:∀b,Ab.Sub h' (upd G i9 b):=fun b=>hG.put (hG.none h9) b
     have g69:∀b,upd G i9 b i6=_:=fun b=>(upd_other _ _ n96).trans g6
     cases d0:(b.take j).any (eqGiv a[i])
     ·simp -implicitDefEqProofs only [go_sem,upd_ne,n96,n96.symm,g6,r1,r15,r16,r17,r6,r7,r21,r22,r23,d0]
      cases dc:(a[i].cat==b[j].cat)
      ·have ef:(b.take (j+1)).any (eqGiv a[i])=false:=by rw [any_succ hlt2,d0,eqGiv,dc]; rfl
       simp -implicitDefEqProofs only [go_sem,upd_ne,n96,n96.symm,g6,r1,r15,r16,r17,r6,r7,r21,r22,r23,d0,dc,w2]
       refine ⟨_, ?_,hG9 _,g69 _,j+1,by omega,rfl, ?_, ?_, ?_, ?_, ?_, ?_, ?_, ?_, ?_⟩
       ·omega
       all_goals simp -implicitDefEqProofs only [go_sem,r1,r15,r16,r17,r6,r7,r21,r22,r23,ef,w2]
      ·simp -implicitDefEqProofs only [go_sem,upd_ne,n96,n96.symm,g6,r1,r15,r16,r17,r6,r7,r21,r22,r23,d0,dc]
       cases dn:(a[i].name==b[j].name)
       ·have ef:(b.take (j+1)).any (eqGiv a[i])=false:=by rw [any_succ hlt2,d0,eqGiv,dc,dn]; rfl
        simp -implicitDefEqProofs only [go_sem,upd_ne,n96,n96.symm,g6,r1,r15,r16,r17,r6,r7,r21,r22,r23,d0,dc,dn,w2]
        refine ⟨_, ?_,hG9 _,g69 _,j+1,by omega,rfl, ?_, ?_, ?_, ?_, ?_, ?_, ?_, ?_, ?_⟩
        ·omega
        all_goals simp -implicitDefEqProofs only [go_sem,r1,r15,r16,r17,r6,r7,r21,r22,r23,ef,w2]
       ·simp -implicitDefEqProofs only [go_sem,upd_ne,n96,n96.symm,g6,r1,r15,r16,r17,r6,r7,r21,r22,r23,d0,dc,dn]
        refine (sameValue_ok a[i].bag b[j].bag qi qj _).pthen ?_
        have ef:(b.take (j+1)).any (eqGiv a[i])=eqL eqVal a[i].bag b[j].bag:=by rw [any_succ hlt2,d0,eqGiv,dc,dn]; rfl
        simp -implicitDefEqProofs only [go_sem,upd_ne,n96,n96.symm,g6,r1,r15,r16,r17,r6,r7,r21,r22,r23,d0,dc,dn,w2]
        refine ⟨_, ?_,hG9 _,g69 _,j+1,by omega,rfl, ?_, ?_, ?_, ?_, ?_, ?_, ?_, ?_, ?_⟩
        ·omega
        all_goals simp -implicitDefEqProofs only [go_sem,r1,r15,r16,r17,r6,r7,r21,r22,r23,ef,w2]
     ·have ef:(b.take (j+1)).any (eqGiv a[i])=true:=by rw [any_succ hlt2,d0]; rfl
      simp -implicitDefEqProofs only [go_sem,upd_ne,n96,n96.symm,g6,r1,r15,r16,r17,r6,r7,r21,r22,r23,d0,w2]
      refine ⟨_, ?_,hG9 _,g69 _,j+1,by omega,rfl, ?_, ?_, ?_, ?_, ?_, ?_, ?_, ?_, ?_⟩
      ·omega
      all_goals simp -implicitDefEqProofs only [go_sem,r1,r15,r16,r17,r6,r7,r21,r22,r23,ef,w2]
    ·have hge:j=b.length:=by have:=of_decide_eq_false e; omega
     subst hge
     rw [List.take_length] at r7
     simp -implicitDefEqProofs only [go_sem,r1,r15,r16,r17,r6,r7,r21,r22,r23]
     cases d0:b.any (eqGiv a[i])
     ·simp -implicitDefEqProofs only [go_sem,r1,r15,r16,r17,r6,r7,r21,r22,r23,d0]
      exact .mk _ (.refl _) (hs.trans hG) ⟨by rw [asksD_at i hlt d0]; rfl,rfl⟩
     ·simp -implicitDefEqProofs only [go_sem,r1,r15,r16,r17,r6,r7,r21,r22,r23,d0,w1]
      refine ⟨_, ?_,hs.trans hG,i+1,by omega,rfl,fun k h1 hk=> ?_, ?_, ?_, ?_, ?_⟩
      ·omega
      ·by_cases hki:k=i
       ·subst hki; exact d0
       ·exact hc k h1 (by omega)
      all_goals simp -implicitDefEqProofs only [go_sem,r1,r15,r16,r17,r6,r7,r21,r22,r23,w1]
  ·have hge:i=a.length:=by have:=of_decide_eq_false e; omega
   subst hge
   simp -implicitDefEqProofs only [go_sem,r1,r15,r16,r17]
   exact .mk _ (.refl _) hs ⟨by rw [asksD_true e1 fun j h1=>hc j h1 h1]; rfl,rfl⟩
end Go.Proofs.YtmlhcdeamjkpjaaGreatDoor

set_option linter.unusedSimpArgs false
set_option linter.unusedVariables false
namespace Go.Bf
def annT:Txt:= [97,110,110]
def bobT:Txt:= [98,111,98]
def runO1:OpD:=⟨1,annT,[99,49],[],[],zeroVal,0,[],[],false⟩
def runO2:OpD:=⟨2,bobT,[99,49],[120],[],zeroVal,0,[],[],false⟩
def runS:StoreD:=⟨0,[⟨[99,49],annT,openT,[],[⟨0,annT,[110,101,119]⟩]⟩],[],[],[],leastP,0⟩
def runG:List GivD:= [⟨1,idT,[idV bobT]⟩,⟨1,[114,111,108,101],[]⟩,⟨2,[110,97,109,101],[idV [114,101,97,100]]⟩,⟨2,[102,105,101,108,100],[idV [120]]⟩,⟨4,[110,111,119],[⟨4,0,[]⟩]⟩,⟨3,idT,[idV [99,49]]⟩,⟨3,[111,119,110,101,114],[idV annT]⟩,⟨3,[115,116,97,116,101],[idV openT]⟩,⟨3,[101,118,101,110,116,115],[⟨2,1,[]⟩]⟩,⟨3,[116,111,111,107],[⟨1,0,[]⟩]⟩,⟨3,[108,97,115,116],[idV annT]⟩]
end Go.Bf
namespace Go.Proofs.YtmlhcdeamjkpjaaGreatDoor
open Go Go.Ab Go.Bf
theorem run_store:doneD parseD newD runO1=runS:=by kernel_rfl
theorem run_asks:asksD (askD runS runO2) runG=true:=by kernel_rfl
theorem few_run:Few runS:=⟨by decide,fun c hc=>(by rw [List.mem_singleton.1 hc]; decide),fun c hc=>(by rw [List.mem_singleton.1 hc]; decide),by decide,by decide,by decide⟩
theorem run_rows:GRow [givQ ⟨1,idT,[idV bobT]⟩ .full,givQ ⟨1,[114,111,108,101],[]⟩ .full,givQ ⟨2,[110,97,109,101],[idV [114,101,97,100]]⟩ .full,givQ ⟨2,[102,105,101,108,100],[idV [120]]⟩ .full,givQ ⟨4,[110,111,119],[⟨4,0,[]⟩]⟩ .full,givQ ⟨3,idT,[idV [99,49]]⟩ .full,givQ ⟨3,[111,119,110,101,114],[idV annT]⟩ .full,givQ ⟨3,[115,116,97,116,101],[idV openT]⟩ .full,givQ ⟨3,[101,118,101,110,116,115],[⟨2,1,[]⟩]⟩ .full,givQ ⟨3,[116,111,111,107],[⟨1,0,[]⟩]⟩ .full,givQ ⟨3,[108,97,115,116],[idV annT]⟩ .full] runG:=
 ((((((((((GRow.one _ _).app (GRow.one _ _)).app (GRow.one _ _)).app (GRow.one _ _)).app (GRow.one _ _)).app (GRow.one _ _)).app (GRow.one _ _)).app (GRow.one _ _)).app (GRow.one _ _)).app (GRow.one _ _)).app (GRow.one _ _)
set_option maxRecDepth 100000 in
theorem casesRuns_ok (h:Heap) (he:ErrT h):FnOK Tryz.prog 35 [] h fun r h' =>r= .v (.bool true)∧h' =h:=by
 have hd:=fun (G:Heap) (hG:Ab.Sub h G)=>done_ok (rdS G newD) runO1 few_new least_polE ⟨by decide,by decide⟩ ⟨by decide,by decide⟩ ⟨by decide,by decide⟩ (he.sub hG)
 have ha:=fun (G:Heap)=>ask_ok (rdS G runS) runO2 few_run ⟨by decide,by decide⟩
 rw [run_store] at hd
 refine FnOK.body hU hm Tryz.func35 rfl (by kernel_rfl) 23 rfl [.tmp 0] rfl (Nat.le_of_ble_eq_true rfl) (fun hwf=> ?_)
 simp -implicitDefEqProofs only [go_sem]
 refine (new_ok _ he).pthen ?_
 simp -implicitDefEqProofs only [go_sem]
 refine (show FnOK Tryz.prog _ [storeA newD,opA runO1] _ _ from hd _ (.refl _)).pthen ?_
 simp -implicitDefEqProofs only [go_sem]
 intro i1 h1
 have es:storeA runS= .agg [.v (.int .i64 0),casesA runS.cases, .sl [] .no, .sl [] .no, .sl [] .no, .s openT, .v (.bool false), .v (.int .i64 6), .sl [] .no, .sl [] .no, .sl [] .no, .sl [] .no, .v (.int .i64 0)]:=rfl
 rw [es] at ha⊢
 have hcs:∃l,casesA runS.cases= .sl l .no:=⟨_,rfl⟩
 obtain ⟨lc,elc⟩:=hcs
 rw [elc] at ha⊢
 simp -implicitDefEqProofs only [go_sem]
 refine (lgiven_ok _ _ _ _ _ _).pthen ?_
 simp -implicitDefEqProofs only [go_sem,valA]
 refine (lgiven_ok _ _ _ _ _ _).pthen ?_
 simp -implicitDefEqProofs only [go_sem,valA]
 refine (lgiven_ok _ _ _ _ _ _).pthen ?_
 simp -implicitDefEqProofs only [go_sem,valA]
 refine (lgiven_ok _ _ _ _ _ _).pthen ?_
 simp -implicitDefEqProofs only [go_sem,valA]
 refine (lgiven_ok _ _ _ _ _ _).pthen ?_
 simp -implicitDefEqProofs only [go_sem,valA]
 refine (lgiven_ok _ _ _ _ _ _).pthen ?_
 simp -implicitDefEqProofs only [go_sem,valA]
 refine (lgiven_ok _ _ _ _ _ _).pthen ?_
 simp -implicitDefEqProofs only [go_sem,valA]
 refine (lgiven_ok _ _ _ _ _ _).pthen ?_
 simp -implicitDefEqProofs only [go_sem,valA]
 refine (lgiven_ok _ _ _ _ _ _).pthen ?_
 simp -implicitDefEqProofs only [go_sem,valA]
 refine (lgiven_ok _ _ _ _ _ _).pthen ?_
 simp -implicitDefEqProofs only [go_sem,valA]
 refine (show FnOK Tryz.prog _ [_,opA runO2] _ _ from ha _).pthen ?_
 simp -implicitDefEqProofs only [go_sem,givsA]
 refine (asks_ok (GRow.givs (askD runS runO2)) run_rows .no .full _).pthen ?_
 simp -implicitDefEqProofs only [go_sem,run_asks]
 exact .mk _ (.refl _) (.upd_new h1) ⟨rfl,rfl⟩
def pow10V:List Value:=Lib.pow10Tab.map fun z=>Value.int .u64 z
def startH (ev:Value):Heap:=tabH [(3,pow10V),(2,[ev])]
theorem start_err {ev:Value} (hev:ev= .nilIface∨∃te pe,ev= .iface te pe):ErrT (startH ev):=⟨ev,hev,1,rfl⟩
end Go.Proofs.YtmlhcdeamjkpjaaGreatDoor

set_option linter.unusedSimpArgs false
set_option linter.unusedVariables false
namespace Go.Bf
open Go Go.Ab
def opkD (o:OpD):OpD:= {o with subj:=o.subj.take 20,case:=o.case.take 20,field:=o.field.take 20,to:=o.to.take 20,val:= {o.val with s:=o.val.s.take 70},reason:=o.reason.take 70,text:=if o.text.length≤4096 then o.text.take 1000 else o.text}
end Go.Bf
namespace Go.Proofs.YtmlhcdeamjkpjaaGreatDoor
open Go Go.Ab Go.Bf
theorem short_ok (s:Txt) (n:Nat) (hn:n≤1000000) (h:Heap):FnOK Tryz.prog 87 [.s s, .v (.int .i64 n)] h fun r h' =>r= .s (s.take n)∧h' =h:=by
 refine FnOK.body hU hm Tryz.func87 rfl (by kernel_rfl) 11 rfl [.tmp 4] rfl (Nat.le_of_ble_eq_true rfl) (fun hwf=> ?_)
 have e:(if (n:Int)<(s.length:Int) then (n:Int) else (s.length:Int))=((min n s.length:Nat):Int):=by split<;>omega
 simp -implicitDefEqProofs only [go_sem,e]
 refine ⟨by omega,by omega,by omega, ?_⟩
 simp -implicitDefEqProofs only [go_sem,Option.isSome_none,Option.isSome_some,cutL_ft,Int.toNat_natCast]
 exact .same (.refl _) ⟨by rw [List.take_eq_take_min (i:=n) (l:=s)]; rfl,rfl⟩
set_option maxRecDepth 100000 in
theorem opk_ok (o:OpD) (h:Heap):FnOK Tryz.prog 36 [opA o] h fun r h' =>r=opA (opkD o)∧h' =h:=by
 refine FnOK.body hU hm Tryz.func36 rfl (by kernel_rfl) 38 rfl [.cell 2 44] rfl (Nat.le_of_ble_eq_true rfl) (fun hwf=> ?_)
 simp -implicitDefEqProofs only [go_sem,opA,opC]
 intro i1 h1
 simp -implicitDefEqProofs only [go_sem]
 intro i2 h2
 have n21:=ne_upd h2
 have n2:=upd_none h2
 simp -implicitDefEqProofs only [go_sem,upd_ne,n21,n21.symm]
 have hns:∀G,Ab.Sub noHeap G:=fun G _ _ e=>by cases e
 have hs:∀a b,Ab.Sub h (upd (upd h i1 a) i2 b):=fun a b=>((Sub.refl h).put h1 a).put n2 b
 refine .stage (pick (upd (upd h i1 (some (.obj [.v (.int .i64 o.kind), .s o.subj, .s o.case, .s o.field, .s o.to, .v (.int .i64 o.val.kind), .v (.int .i64 o.val.n), .s o.val.s, .v (.int .i64 o.review), .s o.text, .s o.reason, .v (.bool o.glass)] 44))) i2 _) [i1]) [0,1,3,4,6,7,9,10,2,12,5,8,11] [13,14,15,16,17,18,19] pick_sub (by kernel_rfl) ?_
 simp -implicitDefEqProofs only [go_sem,pick_at (show i1∈ [i1] by simp),upd_ne,n21,n21.symm]
 refine (show FnOK Tryz.prog 87 [_, .v (.int .i64 ((20:Nat):Int))] _ _ from (short_ok _ 20 (by decide) _).mono fun r h' ⟨e1,e2⟩=> ?_)
 subst e1; subst e2
 refine ⟨pick_sub, ?_⟩
 simp -implicitDefEqProofs only [go_sem,pick_at (show i1∈ [i1] by simp),upd_ne,n21,n21.symm]
 refine (show FnOK Tryz.prog 87 [_, .v (.int .i64 ((20:Nat):Int))] _ _ from (short_ok _ 20 (by decide) _).mono fun r h' ⟨e1,e2⟩=> ?_)
 subst e1; subst e2
 refine ⟨pick_sub, ?_⟩
 simp -implicitDefEqProofs only [go_sem,pick_at (show i1∈ [i1] by simp),upd_ne,n21,n21.symm]
 refine (show FnOK Tryz.prog 87 [_, .v (.int .i64 ((20:Nat):Int))] _ _ from (short_ok _ 20 (by decide) _).mono fun r h' ⟨e1,e2⟩=> ?_)
 subst e1; subst e2
 refine ⟨pick_sub, ?_⟩
 simp -implicitDefEqProofs only [go_sem,pick_at (show i1∈ [i1] by simp),upd_ne,n21,n21.symm]
 refine (show FnOK Tryz.prog 87 [_, .v (.int .i64 ((20:Nat):Int))] _ _ from (short_ok _ 20 (by decide) _).mono fun r h' ⟨e1,e2⟩=> ?_)
 subst e1; subst e2
 refine ⟨pick_sub, ?_⟩
 simp -implicitDefEqProofs only [go_sem,pick_at (show i1∈ [i1] by simp),upd_ne,n21,n21.symm]
 refine ⟨noHeap,hns _, ?_⟩
 simp -implicitDefEqProofs only [go_sem,upd_ne,n21,n21.symm]
 refine ⟨hns _,hns _,hns _,hns _, ?_⟩
 refine .stage (pick _ [i1]) [0,1,2,4,5,3,7,8,6] [9,10,11] pick_sub (by kernel_rfl) ?_
 simp -implicitDefEqProofs only [go_sem,pick_at (show i1∈ [i1] by simp),upd_ne,n21,n21.symm]
 refine (show FnOK Tryz.prog 87 [_, .v (.int .i64 ((70:Nat):Int))] _ _ from (short_ok _ 70 (by decide) _).mono fun r h' ⟨e1,e2⟩=> ?_)
 subst e1; subst e2
 refine ⟨pick_sub, ?_⟩
 simp -implicitDefEqProofs only [go_sem,pick_at (show i1∈ [i1] by simp),upd_ne,n21,n21.symm]
 refine (show FnOK Tryz.prog 87 [_, .v (.int .i64 ((70:Nat):Int))] _ _ from (short_ok _ 70 (by decide) _).mono fun r h' ⟨e1,e2⟩=> ?_)
 subst e1; subst e2
 refine ⟨pick_sub, ?_⟩
 simp -implicitDefEqProofs only [go_sem,pick_at (show i1∈ [i1] by simp),upd_ne,n21,n21.symm]
 refine ⟨noHeap,hns _, ?_⟩
 simp -implicitDefEqProofs only [go_sem,upd_ne,n21,n21.symm]
 refine ⟨hns _,hns _, ?_⟩
 cases d1:decide ((o.text.length:Int)≤4096)
 ·have p1:¬o.text.length≤4096:=by have:=of_decide_eq_false d1; omega
  simp -implicitDefEqProofs only [go_sem,upd_ne,n21,n21.symm,d1]
  exact .mk _ (.refl _) (by repeat' first|exact .refl _|(refine Sub.put ?_ (by assumption) _)) ⟨by simp [opkD,opA,opC,oneOr,p1],rfl⟩
 ·have p1:o.text.length≤4096:=by have:=of_decide_eq_true d1; omega
  simp -implicitDefEqProofs only [go_sem,upd_ne,n21,n21.symm,d1]
  refine (show FnOK Tryz.prog 87 [_, .v (.int .i64 ((1000:Nat):Int))] _ _ from (short_ok _ 1000 (by decide) _).mono fun r h' ⟨e1,e2⟩=> ?_)
  subst e1; subst e2
  simp -implicitDefEqProofs only [go_sem,upd_ne,n21,n21.symm]
  exact .mk _ (.refl _) (by repeat' first|exact .refl _|(refine Sub.put ?_ (by assumption) _)) ⟨by simp [opkD,opA,opC,oneOr,p1],rfl⟩
end Go.Proofs.YtmlhcdeamjkpjaaGreatDoor

set_option linter.unusedSimpArgs false
set_option linter.unusedVariables false
namespace Go.Bf
open Go Go.Ab
end Go.Bf
namespace Go.Proofs.YtmlhcdeamjkpjaaGreatDoor
open Go Go.Ab Go.Bf
end Go.Proofs.YtmlhcdeamjkpjaaGreatDoor

set_option linter.unusedSimpArgs false
set_option linter.unusedVariables false
namespace Go.Bf
open Go Go.Ab
def isGiv (cat:Int) (name:Txt) (g:GivD):Bool:=g.cat==cat && g.name==name
def getD (l:List GivD) (cat:Int) (name:Txt):List ValD:=match l.find? (isGiv cat name) with
 |some g=>g.bag
 |none=> []
end Go.Bf
namespace Go.Proofs.YtmlhcdeamjkpjaaGreatDoor
open Go Go.Ab Go.Bf
end Go.Proofs.YtmlhcdeamjkpjaaGreatDoor

set_option linter.unusedSimpArgs false
set_option linter.unusedVariables false
namespace Go.Bf
open Go Go.Ab
end Go.Bf
namespace Go.Proofs.YtmlhcdeamjkpjaaGreatDoor
open Go Go.Ab Go.Bf
end Go.Proofs.YtmlhcdeamjkpjaaGreatDoor

set_option linter.unusedSimpArgs false
set_option linter.unusedVariables false
namespace Go.Bf
open Go Go.Ab
end Go.Bf
namespace Go.Proofs.YtmlhcdeamjkpjaaGreatDoor
open Go Go.Ab Go.Bf
end Go.Proofs.YtmlhcdeamjkpjaaGreatDoor

set_option linter.unusedSimpArgs false
set_option linter.unusedVariables false
namespace Go.Bf
open Go Go.Ab
def cT:Txt:= [99]
def states4:List Txt:= [openT,workT,doneT,closedT]
end Go.Bf
namespace Go.Proofs.YtmlhcdeamjkpjaaGreatDoor
open Go Go.Ab Go.Bf
end Go.Proofs.YtmlhcdeamjkpjaaGreatDoor

set_option linter.unusedSimpArgs false
set_option linter.unusedVariables false
namespace Go.Bf
open Go Go.Ab
abbrev lt (a b:Txt):Prop:=Op.bytesLess a b=true
theorem lt_irrefl:∀a:Txt,¬lt a a
 | []=>by simp [lt,Op.bytesLess]
 |a::x=>by
  have:=lt_irrefl x
  simp only [lt,Op.bytesLess,Bool.or_eq_true,Bool.and_eq_true,decide_eq_true_eq,beq_self_eq_true,true_and,not_or]
  exact ⟨UInt8.lt_irrefl a,this⟩
theorem lt_trans:∀ {a b c:Txt},lt a b→lt b c→lt a c
 |_,[],_,h,_=>by cases ‹Txt›<;>simp [lt,Op.bytesLess] at h
 | [],b::y,c,_,h=>by cases c<;>simp [lt,Op.bytesLess] at h⊢
 |a::x,b::y,[],_,h=>by simp [lt,Op.bytesLess] at h
 |a::x,b::y,c::z,h1,h2=>by
  simp only [lt,Op.bytesLess,Bool.or_eq_true,Bool.and_eq_true,decide_eq_true_eq,beq_iff_eq] at h1 h2⊢
  rcases h1 with h1|⟨rfl,h1⟩
  ·rcases h2 with h2|⟨rfl,h2⟩
   ·exact .inl (UInt8.lt_trans h1 h2)
   ·exact .inl h1
  ·rcases h2 with h2|⟨rfl,h2⟩
   ·exact .inl h2
   ·exact .inr ⟨rfl,lt_trans h1 h2⟩
theorem lt_or:∀a b:Txt,lt a b∨a=b∨lt b a
 | [],[]=> .inr (.inl rfl)
 | [],b::y=> .inl rfl
 |a::x,[]=> .inr (.inr rfl)
 |a::x,b::y=>by
  simp only [lt,Op.bytesLess,Bool.or_eq_true,Bool.and_eq_true,decide_eq_true_eq,beq_iff_eq]
  rcases UInt8.lt_or_lt_of_ne (a:=a) (b:=b) with h
  by_cases e:a=b
  ·subst e
   rcases lt_or x y with h|rfl|h
   ·exact .inl (.inr ⟨rfl,h⟩)
   ·exact .inr (.inl rfl)
   ·exact .inr (.inr (.inr ⟨rfl,h⟩))
  ·rcases h e with h|h
   ·exact .inl (.inl h)
   ·exact .inr (.inr (.inl h))
def Asc (cs:List CaseD):Prop:=cs.Pairwise fun a b=>lt a.id b.id
theorem find_ge {c:CaseD} {cs:List CaseD} {id:Txt} (h:¬lt c.id id):findD (c::cs) id=0:=by
 have:Op.bytesLess c.id id=false:=by simpa using h
 simp [findD,List.findIdx_cons,geB,this]
theorem find_lt {c:CaseD} {cs:List CaseD} {id:Txt} (h:lt c.id id):findD (c::cs) id=findD cs id+1:=by
 have:Op.bytesLess c.id id=true:=h
 simp [findD,List.findIdx_cons,geB,this]
theorem there_iff:∀ {cs:List CaseD},Asc cs→∀id,thereD cs id=cs.any fun c=>c.id==id
 | [],_,id=>rfl
 |c::cs,h,id=>by
  obtain ⟨h1,h2⟩:=List.pairwise_cons.1 h
  by_cases hl:lt c.id id
  ·have hne:(c.id==id)=false:=by
    rw [beq_eq_false_iff_ne]
    intro e; rw [e] at hl; exact lt_irrefl _ hl
   have e:thereD (c::cs) id=thereD cs id:=by
    unfold thereD; rw [find_lt hl]; rfl
   rw [e,there_iff h2 id,List.any_cons,hne,Bool.false_or]
  ·have e:thereD (c::cs) id=(c.id==id):=by
    unfold thereD; rw [find_ge hl]; rfl
   rw [e,List.any_cons]
   cases hc:(c.id==id)
   ·have hlt:lt id c.id:=by
     rcases lt_or c.id id with h|h|h
     ·exact (hl h).elim
     ·rw [h,beq_self_eq_true] at hc; cases hc
     ·exact h
    rw [Bool.false_or]
    refine (List.any_eq_false.2 fun d hd=> ?_).symm
    intro he
    have:=lt_trans hlt (h1 d hd)
    rw [beq_iff_eq.1 he] at this
    exact lt_irrefl _ this
   ·simp
theorem asc_ins:∀ {cs:List CaseD},Asc cs→∀c:CaseD,(cs.any fun d=>d.id==c.id)=false→Asc (cs.take (findD cs c.id)++ [c]++cs.drop (findD cs c.id))
 | [],_,c,_=>by simp [Asc,findD]
 |d::cs,h,c,hn=>by
  obtain ⟨h1,h2⟩:=List.pairwise_cons.1 h
  simp only [List.any_cons,Bool.or_eq_false_iff] at hn
  by_cases hl:lt d.id c.id
  ·rw [find_lt hl]
   simp only [List.take_succ_cons,List.drop_succ_cons,List.cons_append]
   refine List.pairwise_cons.2 ⟨fun e he=> ?_,asc_ins h2 c hn.2⟩
   simp only [List.mem_append,List.mem_singleton] at he
   rcases he with (he|rfl)|he
   ·exact h1 e (List.mem_of_mem_take he)
   ·exact hl
   ·exact h1 e (List.mem_of_mem_drop he)
  ·rw [find_ge hl]
   have hlt:lt c.id d.id:=by
    rcases lt_or d.id c.id with h|h|h
    ·exact (hl h).elim
    ·rw [h,beq_self_eq_true] at hn; cases hn.1
    ·exact h
   refine List.pairwise_cons.2 ⟨fun e he=> ?_,h⟩
   rcases List.mem_cons.1 he with rfl|he
   ·exact hlt
   ·exact lt_trans hlt (h1 e he)
def AscF (fs:List FieldD):Prop:=fs.Pairwise fun a b=>lt a.name b.name
theorem write_nil (name:Txt) (v:ValD):writeD [] name v= [⟨name,v⟩]:=rfl
theorem write_lt {f:FieldD} {fs:List FieldD} {name:Txt} {v:ValD} (h:lt f.name name):writeD (f::fs) name v=f::writeD fs name v:=by
 have hb:Op.bytesLess f.name name=true:=h
 unfold writeD
 simp only [List.findIdx_cons,geB,hb,Bool.not_true,cond_false,List.getElem?_cons_succ]
 generalize hi:fs.findIdx (fun f=> !Op.bytesLess f.name name)=i
 cases e:fs[i]? with
 |none=>simp
 |some g=>
  by_cases hg:g.name=name
  ·simp [hg]
  ·simp [hg]
theorem write_eq {f:FieldD} {fs:List FieldD} {name:Txt} {v:ValD} (h:f.name=name):writeD (f::fs) name v=⟨f.name,v⟩::fs:=by
 subst h
 have hb:Op.bytesLess f.name f.name=false:=by
  cases hb:Op.bytesLess f.name f.name
  ·rfl
  ·exact (lt_irrefl _ hb).elim
 unfold writeD
 simp [List.findIdx_cons,geB,hb]
theorem write_gt {f:FieldD} {fs:List FieldD} {name:Txt} {v:ValD} (h:lt name f.name):writeD (f::fs) name v=⟨name,v⟩::f::fs:=by
 have hb:Op.bytesLess f.name name=false:=by
  cases hb:Op.bytesLess f.name name
  ·rfl
  ·exact (lt_irrefl _ (lt_trans h hb)).elim
 have hne:f.name≠name:=fun e=>by rw [e] at h; exact lt_irrefl _ h
 unfold writeD
 simp [List.findIdx_cons,geB,hb,hne]
theorem write_mem:∀ {fs:List FieldD} {name:Txt} {v:ValD} {g:FieldD},g∈writeD fs name v→g=⟨name,v⟩∨g∈fs
 | [],name,v,g,h=>by rw [write_nil] at h; exact .inl (List.mem_singleton.1 h)
 |f::fs,name,v,g,h=>by
  rcases lt_or f.name name with hl|hl|hl
  ·rw [write_lt hl] at h
   rcases List.mem_cons.1 h with rfl|h
   ·exact .inr (List.mem_cons_self ..)
   ·rcases write_mem h with h|h
    ·exact .inl h
    ·exact .inr (List.mem_cons_of_mem _ h)
  ·rw [write_eq hl] at h
   rcases List.mem_cons.1 h with rfl|h
   ·exact .inl (by rw [hl])
   ·exact .inr (List.mem_cons_of_mem _ h)
  ·rw [write_gt hl] at h
   rcases List.mem_cons.1 h with rfl|h
   ·exact .inl rfl
   ·exact .inr h
theorem write_asc:∀ {fs:List FieldD} {name:Txt} {v:ValD},AscF fs→AscF (writeD fs name v)
 | [],name,v,_=>by rw [write_nil]; simp [AscF]
 |f::fs,name,v,h=>by
  obtain ⟨h1,h2⟩:=List.pairwise_cons.1 h
  rcases lt_or f.name name with hl|hl|hl
  ·rw [write_lt hl]
   refine List.pairwise_cons.2 ⟨fun g hg=> ?_,write_asc h2⟩
   rcases write_mem hg with rfl|hg
   ·exact hl
   ·exact h1 g hg
  ·rw [write_eq hl]
   exact List.pairwise_cons.2 ⟨h1,h2⟩
  ·rw [write_gt hl]
   refine List.pairwise_cons.2 ⟨fun g hg=> ?_,h⟩
   rcases List.mem_cons.1 hg with rfl|hg
   ·exact hl
   ·exact lt_trans hl (h1 g hg)
theorem write_len:∀ {fs:List FieldD} {name:Txt} {v:ValD},AscF fs→(writeD fs name v).length=if fs.any (fun f=>f.name==name) then fs.length else fs.length+1
 | [],name,v,_=>rfl
 |f::fs,name,v,h=>by
  obtain ⟨h1,h2⟩:=List.pairwise_cons.1 h
  rcases lt_or f.name name with hl|hl|hl
  ·have hne:(f.name==name)=false:=by rw [beq_eq_false_iff_ne]; intro e; rw [e] at hl; exact lt_irrefl _ hl
   rw [write_lt hl,List.length_cons,write_len h2,List.any_cons,hne,Bool.false_or]
   split<;>simp
  ·rw [write_eq hl]
   simp [hl]
  ·have hne:(f.name==name)=false:=by rw [beq_eq_false_iff_ne]; intro e; rw [e] at hl; exact lt_irrefl _ hl
   have hno:(fs.any fun f=>f.name==name)=false:=List.any_eq_false.2 fun g hg he=>by
    have:=lt_trans hl (h1 g hg)
    rw [beq_iff_eq.1 he] at this
    exact lt_irrefl _ this
   rw [write_gt hl,List.any_cons,hne,hno]
   simp
theorem field_cons (f:FieldD) (fs:List FieldD) (n:Txt):fieldD (f::fs) n=if f.name=n then f.val else fieldD fs n:=by
 unfold fieldD
 by_cases h:f.name=n<;>simp [List.find?_cons,h]
end Go.Bf

set_option linter.unusedSimpArgs false
set_option linter.unusedVariables false
namespace Go.Bf
open Go Go.Ab
def mkC (who id:Txt):CaseD:=⟨id,who,openT,[],[⟨0,who,[110,101,119]⟩]⟩
def hasC (cs:List CaseD) (id:Txt):Bool:=cs.any fun c=>c.id==id
end Go.Bf
namespace Go.Proofs.YtmlhcdeamjkpjaaGreatDoor
open Go Go.Ab Go.Bf
end Go.Proofs.YtmlhcdeamjkpjaaGreatDoor

set_option linter.unusedSimpArgs false
set_option linter.unusedVariables false
namespace Go.Ab
open Go
section
variable {α : Type}
def dget (l:List (List UInt8×α)) (k:List UInt8):Option α:=(l.find? fun p=>p.1==k).map (·.2)
end
end Go.Ab

set_option linter.unusedSimpArgs false
set_option linter.unusedVariables false
namespace Go.Bf
open Go Go.Ab Go.Proofs.YtmlhcdeamjkpjaaGreatDoor
structure Own (cs:List CaseD) (own:List (Txt×Txt)):Prop where
 asc:Asc cs
 len:cs.length=own.length
 small:cs.length≤64
 mem:∀c∈cs,c=mkC c.owner c.id∧dget own c.id=some c.owner
 has:∀id,hasC cs id=(dget own id).isSome
 who:∀id w,dget own id=some w→w≠ []
 keys:∀p∈own,p.1.length≤3
theorem case_mem:∀ {cs:List CaseD},Asc cs→∀ {id:Txt},thereD cs id=true→caseD cs id∈cs∧(caseD cs id).id=id:=by
 intro cs ha id h
 have hlt:=thereD_lt h
 unfold caseD
 rw [if_pos h]
 have hg:cs.getD (findD cs id) zeroCase=cs[findD cs id]:=by simp [hlt]
 rw [hg]
 refine ⟨List.getElem_mem _, ?_⟩
 unfold thereD at h
 rw [List.getElem?_eq_getElem hlt] at h
 simpa using h
end Go.Bf
namespace Go.Proofs.YtmlhcdeamjkpjaaGreatDoor
open Go Go.Ab Go.Bf
end Go.Proofs.YtmlhcdeamjkpjaaGreatDoor

set_option linter.unusedSimpArgs false
set_option linter.unusedVariables false
namespace Go.Proofs.YtmlhcdeamjkpjaaGreatDoor
open Go Go.Ab Go.Bf
theorem role_refl (rs:List RoleD):eqL eqRoleD rs rs=true:=eqL_true rfl fun j h1 h2=>by simp [eqRoleD]
theorem acc_put {e:TypeId} {h h' :Heap} {y:AV} {xs:List AV} {id:Nat} {cs:List AV} {t:TypeId} (ha:Acc U e h h' y xs) (h0:h id=none) (h1:h' id=some (.obj cs t)) (b:Option Blk):Acc U e h (upd h' id b) y xs:=by
 obtain ⟨a,rfl|⟨k,i1,rfl,i2⟩⟩:=ha
 ·exact ⟨a.put h0 _, .inl rfl⟩
 ·refine ⟨a.put h0 _, .inr ⟨k,i1,rfl, ?_⟩⟩
  rw [upd_other _ _ fun e=>by rw [e,h1] at i2; cases i2]
  exact i2
end Go.Proofs.YtmlhcdeamjkpjaaGreatDoor

set_option linter.unusedSimpArgs false
set_option linter.unusedVariables false
namespace Go.Proofs.YtmlhcdeamjkpjaaGreatDoor
open Go Go.Ab Go.Bf
def Op64 (o:OpD):Prop:=i64 o.kind∧i64 o.val.kind∧i64 o.val.n∧i64 o.review
theorem dat_val' {x:AV} (h:Dat U 42 x):∃v,x=valA v∧i64 v.kind∧i64 v.n:=by
 obtain ⟨ys,rfl,hys⟩:=h.strct_inv (show (U 42).k= .strct [(0,3),(1,3),(2,9)] by simp only [go_sem])
 simp only [List.map_cons,List.map_nil,DatAll] at hys
 obtain ⟨y0,_,rfl,d0,y1,_,rfl,d1,y2,_,rfl,d2,rfl⟩:=hys
 obtain ⟨n,rfl,hn⟩:=d0.i64 (by simp only [go_sem])
 obtain ⟨m,rfl,hm⟩:=d1.i64 (by simp only [go_sem])
 obtain ⟨s,rfl,_⟩:=d2.str_inv (by simp only [go_sem])
 exact ⟨⟨n,m,s⟩,by simp [valA,iA,AV.cells],hn,hm⟩
theorem dat_op {x:AV} (h:Dat U 44 x):∃o,x=opA o∧Op64 o:=by
 obtain ⟨ys,rfl,hys⟩:=h.strct_inv (show (U 44).k= .strct [(0,3),(1,9),(2,9),(3,9),(4,9),(5,42),(8,3),(9,9),(10,9),(11,4)] by simp only [go_sem])
 simp only [List.map_cons,List.map_nil,DatAll] at hys
 obtain ⟨y0,_,rfl,d0,y1,_,rfl,d1,y2,_,rfl,d2,y3,_,rfl,d3,y4,_,rfl,d4,y5,_,rfl,d5,y6,_,rfl,d6,y7,_,rfl,d7,y8,_,rfl,d8,y9,_,rfl,d9,rfl⟩:=hys
 obtain ⟨a,rfl,ha⟩:=d0.i64 (by simp only [go_sem])
 obtain ⟨b,rfl,_⟩:=d1.str_inv (by simp only [go_sem])
 obtain ⟨c,rfl,_⟩:=d2.str_inv (by simp only [go_sem])
 obtain ⟨d,rfl,_⟩:=d3.str_inv (by simp only [go_sem])
 obtain ⟨e,rfl,_⟩:=d4.str_inv (by simp only [go_sem])
 obtain ⟨v,rfl,hv1,hv2⟩:=dat_val' d5
 obtain ⟨r,rfl,hr⟩:=d6.i64 (by simp only [go_sem])
 obtain ⟨t,rfl,_⟩:=d7.str_inv (by simp only [go_sem])
 obtain ⟨s,rfl,_⟩:=d8.str_inv (by simp only [go_sem])
 obtain ⟨g,rfl⟩:=d9.bool_inv (by simp only [go_sem])
 exact ⟨⟨a,b,c,d,e,v,r,t,s,g⟩,by simp [opA,opC,valA,iA,AV.cells],ha,hv1,hv2,hr⟩
theorem inH {P:Program} {f:FuncId} {args:List AV} {h:Heap} {Q:AV→Heap→Prop} (hh:∀H2,H2=h→FnOK P f args H2 Q):FnOK P f args h Q:=hh h rfl
end Go.Proofs.YtmlhcdeamjkpjaaGreatDoor

set_option linter.unusedSimpArgs false
set_option linter.unusedVariables false
namespace Go.Bf
open Go Go.Ab Go.Proofs.YtmlhcdeamjkpjaaGreatDoor
def intV (v:Int):ValD:=⟨2,v,[]⟩
structure Last (fs:List FieldD) (last:List (Txt×Int)):Prop where
 asc:AscF fs
 len:fs.length=last.length
 small:fs.length≤16
 kind:∀f∈fs,f.val.kind=2
 get:∀n,fieldD fs n=((dget last n).map intV).getD zeroVal
 keys:∀p∈last,p.1.length=2
end Go.Bf
namespace Go.Proofs.YtmlhcdeamjkpjaaGreatDoor
open Go Go.Ab Go.Bf
end Go.Proofs.YtmlhcdeamjkpjaaGreatDoor

set_option linter.unusedVariables false
namespace Go.Bf
open Go Go.Ab
def Fine (n:Nat) (st:PS):Prop:=(st.bad=0∨st.bad=5∨st.bad=6)∧0≤st.place∧st.place≤n
def InText (n:Nat) (ts:List TokD):Prop:=∀i,0≤(ts.getD i ⟨7,0,0,[]⟩).pos∧(ts.getD i ⟨7,0,0,[]⟩).pos≤n
theorem fine_wrong {n:Nat} {st:PS} {e p:Int} (h:Fine n st) (he:e=5∨e=6) (h0:0≤p) (h1:p≤n):Fine n (wrongD st e p):=by
 unfold wrongD; split
 ·exact ⟨.inr he,h0,h1⟩
 ·exact h
theorem fine_rch {n:Nat} {a b:PS} (h:Rch a b) (ht:InText n a.ts) (hf:Fine n a):Fine n b:=by
 induction h with
 |refl=>exact hf
 |wrong e p h1 he hp ih=>
  obtain ⟨i,_,rfl⟩:=hp
  rw [(rch_pos h1).1]
  exact fine_wrong ih he (ht i).1 (ht i).2
 |next _ _ _ ih=>exact ih
theorem rchR_ts {a b:PS} (h:RchR a b):b.ts=a.ts:=by
 induction h with
 |refl=>rfl
 |small _ h1 ih=>exact (rch_pos h1).1.trans ih
 |rule _ _ _ _ ih=>exact ih
theorem fine_rchR {n:Nat} {a b:PS} (h:RchR a b) (ht:InText n a.ts) (hf:Fine n a):Fine n b:=by
 induction h with
 |refl=>exact hf
 |small h1 h2 ih=>exact fine_rch h2 (by rw [rchR_ts h1]; exact ht) ih
 |rule _ _ _ _ ih=>exact ih
theorem inText_lex {s:Txt} {ts:List TokD} (h:lexD s= .ok ts):InText s.length ts:=by
 obtain ⟨pre,rfl,_,h3,_⟩:=lexD_form h
 intro i
 rw [List.getD_eq_getElem?_getD]
 by_cases hi:i<pre.length
 ·rw [List.getElem?_append_left hi,List.getElem?_eq_getElem hi]
  have:=h3 _ (List.getElem_mem hi)
  exact ⟨this.1,by simp only [Option.getD_some]; omega⟩
 ·rw [List.getElem?_append_right (by omega)]
  by_cases h0:i - pre.length=0
  ·rw [h0]; simp
  ·rw [List.getElem?_eq_none (by simp; omega)]; simp
theorem fine_end {s:Txt} {ts:List TokD} (h:lexD s= .ok ts):Fine s.length (endP s (polF 4 ⟨ts,0,0,0,0⟩)):=by
 have h0:Fine s.length ⟨ts,0,0,0,0⟩:=⟨.inl rfl,Int.le_refl _,by show (0:Int)≤_; omega⟩
 have hr:=rch_pol 4 ⟨ts,0,0,0,0⟩
 have h1:=fine_rchR hr (inText_lex h) h0
 have ht:InText s.length (polF 4 ⟨ts,0,0,0,0⟩).2.ts:=by rw [rchR_ts hr]; exact inText_lex h
 have h2:Fine s.length (if (hereD (polF 4 ⟨ts,0,0,0,0⟩).2).kind=7 then (polF 4 ⟨ts,0,0,0,0⟩).2 else stuckD (polF 4 ⟨ts,0,0,0,0⟩).2):=by
  split
  ·exact h1
  ·exact fine_rch (rch_stuck _) ht h1
 unfold endP
 generalize (if (hereD (polF 4 ⟨ts,0,0,0,0⟩).2).kind=7 then (polF 4 ⟨ts,0,0,0,0⟩).2 else stuckD (polF 4 ⟨ts,0,0,0,0⟩).2)=st1 at h2⊢
 split
 ·exact fine_wrong h2 (.inl rfl) (by omega) (Int.le_refl _)
 ·exact h2
theorem parseD_fine (s:Txt):(parseD s).2.1=0∧(parseD s).2.2=0∧rightE (parseD s).1=0∨
  ((parseD s).2.1=5∨(parseD s).2.1=6)∧0≤(parseD s).2.2∧(parseD s).2.2≤s.length∧(parseD s).1=zeroP:=by
 unfold parseD
 cases h:lexD s with
 |bad e a=>
  have:=lexD_bad h
  exact .inr ⟨this.1,this.2.1,this.2.2,rfl⟩
 |ok ts=>
  have hf:=fine_end h
  simp only [parseT]
  split
  ·rename_i hb
   refine .inl ⟨rfl,rfl, ?_⟩
   simp only
   unfold endP at hb
   generalize (if (hereD (polF 4 ⟨ts,0,0,0,0⟩).2).kind=7 then (polF 4 ⟨ts,0,0,0,0⟩).2 else stuckD (polF 4 ⟨ts,0,0,0,0⟩).2)=st1 at hb
   split at hb
   ·rename_i hc
    unfold wrongD at hb
    rw [if_pos hc.1] at hb
    exact absurd hb (by show¬(5:Int)=0; decide)
   ·rename_i hc
    exact Classical.byContradiction fun hn=>hc ⟨hb,hn⟩
  ·rename_i hb
   exact .inr ⟨hf.1.resolve_left hb,hf.2.1,hf.2.2,rfl⟩
end Go.Bf

set_option linter.unusedSimpArgs false
set_option linter.unusedVariables false
namespace Go.Bf
open Go Go.Ab Go.Proofs.YtmlhcdeamjkpjaaGreatDoor
theorem rightE_polE {p:PolD} (h:rightE p=0):polE 1 p:=by
 cases hw:polW ⟨[],0⟩ 1 p with
 |bad e=>
  have:=polW_bad 4 1 _ _ e rfl hw
  rw [rightE,hw] at h
  exact (this h).elim
 |ok m=>exact polW_ok _ _ _ _ hw
theorem any_nz {fs:List FieldD} (h:∀f∈fs,eqV f.val zeroVal=false) (n:Txt):(fs.any fun f=>f.name==n)= !(eqV (fieldD fs n) zeroVal):=by
 induction fs with
 |nil=>rfl
 |cons f fs ih=>
  rw [field_cons,List.any_cons]
  by_cases e:f.name=n
  ·rw [if_pos e,h f (List.mem_cons_self ..)]
   simp [e]
  ·rw [if_neg e]
   have e' :(f.name==n)=false:=by simpa using e
   rw [e',Bool.false_or]
   exact ih fun g hg=>h g (List.mem_cons_of_mem _ hg)
structure CaseOK (c:CaseD):Prop where
 id:nameOK c.id=true
 owner:nameOK c.owner=true
 state:c.state∈states4
 asc:AscF c.fields
 nfields:c.fields.length≤16
 field:∀f∈c.fields,nameOK f.name=true∧valOK f.val=true∧eqV f.val zeroVal=false
 log1:1≤c.log.length
 log2:c.log.length≤256
 actor:∀x∈c.log,nameOK x.actor=true∧i64 x.tick
structure StoreOK (k:Nat) (s:StoreD):Prop where
 tick:0≤s.tick∧s.tick≤1099511627776
 asc:Asc s.cases
 ncases:s.cases.length≤64
 case:∀c∈s.cases,CaseOK c
 nrev:s.reviews.length≤1000
 nnot:s.notices.length≤1000
 roles:s.roles.length≤64
 role:∀r∈s.roles,nameOK r.subj=true∧nameOK r.role=true
 pol:rightE s.policy=0
 ver:0≤s.version∧s.version≤k
theorem StoreOK.few {k:Nat} {s:StoreD} (h:StoreOK k s):Few s:=by
 have h1:=h.ncases
 have h2:=h.nrev
 have h3:=h.nnot
 have h4:=h.roles
 refine ⟨by omega,fun c hc=> ?_,fun c hc=> ?_,by omega,by omega,by omega⟩
 ·have:=(h.case c hc).nfields; omega
 ·have:=(h.case c hc).log2; omega
theorem StoreOK.polE {k:Nat} {s:StoreD} (h:StoreOK k s):polE 1 s.policy:=rightE_polE h.pol
theorem StoreOK.tick64 {k:Nat} {s:StoreD} (h:StoreOK k s):i64 s.tick:=by
 have:=h.tick
 constructor<;>omega
theorem store_new:StoreOK 0 newD:=by
 refine ⟨by decide, .nil,by decide,fun c h=>(by cases h),by decide,by decide,by decide,fun r h=>(by cases h),by kernel_rfl,by decide⟩
theorem empty_name {s:Txt} (h:emptyD s=true) (hn:s≠ []):nameOK s=true:=by
 simp only [emptyD,Bool.or_eq_true,beq_iff_eq] at h
 exact h.resolve_left hn
structure FormOK (o:OpD):Prop where
 subj:nameOK o.subj=true
 kind:1≤o.kind∧o.kind≤8
 case:emptyD o.case=true
 field:emptyD o.field=true
 to:emptyD o.to=true
 val:eqV o.val zeroVal=true∨valOK o.val=true
 text:o.text.length≤4096
 ok:okD o=true
theorem form_ok' {o:OpD} (h:formD o=true):FormOK o:=by
 simp only [formD,Bool.and_eq_true,decide_eq_true_eq,Bool.or_eq_true,takesD] at h
 obtain ⟨⟨⟨⟨⟨⟨⟨h1,h2⟩,h3⟩,h4⟩,h5⟩,h6⟩,h7⟩,⟨⟨h8,h9⟩,h10⟩,h11⟩:=h
 exact ⟨h1,⟨h8,h9⟩,h4,h5,h6,h7,h3,h10⟩
theorem follows_states {a b:Txt} (h:followsD a b=true):b∈states4:=by
 unfold followsD at h
 simp only [states4,List.mem_cons,List.not_mem_nil,or_false]
 split at h
 ·exact .inr (.inl (by simpa using h))
 ·split at h
  ·exact .inr (.inr (.inl (by simpa using h)))
  ·split at h
   ·simp only [Bool.or_eq_true,beq_iff_eq] at h
    rcases h with h|h
    ·exact .inr (.inl h)
    ·exact .inr (.inr (.inr h))
   ·cases h
theorem mem_modify {α:Type} {l:List α} {i:Nat} {f:α→α} {x:α} (h:x∈l.modify i f):x∈l∨∃hi:i<l.length,x=f l[i]:=by
 obtain ⟨j,hj,rfl⟩:=List.mem_iff_getElem.1 h
 have hj' :j<l.length:=by simpa using hj
 rw [List.getElem_modify]
 split
 ·rename_i e; subst e; exact .inr ⟨hj',rfl⟩
 ·exact .inl (List.getElem_mem hj')
theorem map_modify {α β:Type} {l:List α} {i:Nat} {f:α→α} {g:α→β} (h:∀x,g (f x)=g x):(l.modify i f).map g=l.map g:=by
 refine List.ext_getElem (by simp) fun j h1 h2=> ?_
 simp only [List.getElem_map,List.getElem_modify]
 split
 ·exact h _
 ·rfl
theorem asc_map {cs cs' :List CaseD} (h:cs'.map (·.id)=cs.map (·.id)) (ha:Asc cs):Asc cs' :=by
 unfold Asc at*
 have h1:(cs.map (·.id)).Pairwise lt:=by rw [List.pairwise_map]; exact ha
 rw [←h,List.pairwise_map] at h1
 exact h1
theorem mem_ins {cs:List CaseD} {i:Nat} {c d:CaseD} (h:d∈cs.take i++ [c]++cs.drop i):d=c∨d∈cs:=by
 simp only [List.mem_append,List.mem_singleton] at h
 rcases h with (h|h)|h
 ·exact .inr (List.mem_of_mem_take h)
 ·exact .inl h
 ·exact .inr (List.mem_of_mem_drop h)
theorem store_do {k:Nat} {s:StoreD} {o:OpD} (hs:StoreOK k s) (hr:readyD s o=0):StoreOK (k+1) (doD parseD s o):=by
 have hf:formD o=true:=by
  unfold readyD at hr
  cases h:formD o with
  |true=>rfl
  |false=>rw [h] at hr; simp at hr
 have F:=form_ok' hf
 have vk:0≤s.version∧s.version≤((k+1:Nat):Int):=⟨hs.ver.1,by have:=hs.ver.2; omega⟩
 unfold readyD at hr
 rw [hf] at hr
 simp only [Bool.true_eq_false,if_false] at hr
 have hok:=F.ok
 unfold okD at hok
 have t64:=hs.tick64
 unfold doD
 by_cases k1:o.kind=1
 ·simp only [k1,if_true] at hr hok⊢
  have hno:thereD s.cases o.case=false:=by
   cases h:thereD s.cases o.case with
   |false=>rfl
   |true=>rw [h] at hr; simp at hr
  rw [hno] at hr
  simp only [Bool.false_eq_true,if_false] at hr
  have hlt:¬64≤s.cases.length:=fun h=>by simp [h] at hr
  have hc:nameOK o.case=true:=empty_name F.case (by simpa using hok)
  rw [there_iff hs.asc] at hno
  refine {hs with asc:= ?_,ncases:= ?_,case:= ?_,ver:=vk}
  ·exact asc_ins hs.asc (hapD s ⟨o.case,o.subj,openT,[],[]⟩ o.subj [110,101,119]) hno
  ·have:findD s.cases o.case≤s.cases.length:=List.findIdx_le_length
   simp; omega
  ·intro c h
   rcases mem_ins h with rfl|h
   ·exact ⟨hc,F.subj,by simp [hapD,states4], .nil,by simp [hapD],fun f h=>(by cases h),by simp [hapD],by simp [hapD],fun x h=>by
     simp only [hapD,List.nil_append,List.mem_singleton] at h
     subst h
     exact ⟨F.subj,t64⟩⟩
   ·exact hs.case c h
 ·simp only [k1,if_false] at hr hok⊢
  by_cases k3:o.kind=3
  ·have hk:2≤o.kind∧o.kind≤4:=by omega
   simp only [hk,and_self,if_true] at hr
   simp only [k3,if_true]
   have e2:¬(o.kind=2∨o.kind=6):=by omega
   simp only [k3,if_true,show¬((3:Int)=2∨(3:Int)=6) by decide,if_false,Bool.and_eq_true,Bool.not_eq_true'] at hok
   have hth:thereD s.cases o.case=true:=by
    unfold readyCaseD at hr
    cases h:thereD s.cases o.case with
    |true=>rfl
    |false=>rw [h] at hr; simp at hr
   unfold readyCaseD at hr
   rw [hth] at hr
   simp only [Bool.true_eq_false,if_false,k3,true_and] at hr
   obtain ⟨hm,hid⟩:=case_mem hs.asc hth
   have hlt:=thereD_lt hth
   have hce:caseD s.cases o.case=s.cases[findD s.cases o.case]:=by
    unfold caseD; rw [if_pos hth]; simp [hlt]
   rw [hce] at hr hm
   generalize hcc:s.cases[findD s.cases o.case]=c at hr hm
   have hc:=hs.case c hm
   have h16:¬(c.fields.length≥16∧eqV (fieldD c.fields o.field) zeroVal=true):=fun h=>by simp [h.1,h.2] at hr
   rw [if_neg h16] at hr
   have hlg:¬c.log.length≥256:=fun h=>by simp [h] at hr
   have hnf:nameOK o.field=true:=empty_name F.field (by simpa using hok.1.2)
   have hvz:eqV o.val zeroVal=false:=hok.2
   have hv:valOK o.val=true:=F.val.resolve_left (by rw [hvz]; simp)
   refine {hs with asc:= ?_,ncases:= ?_,case:= ?_,ver:=vk}
   ·exact asc_map (map_modify fun x=>rfl) hs.asc
   ·simpa using hs.ncases
   ·intro d hd
    rcases mem_modify hd with hd|⟨hi,rfl⟩
    ·exact hs.case d hd
    ·rw [hcc]
     have hany:=any_nz (fun f hf=>(hc.field f hf).2.2) o.field
     have hlen:=write_len (v:=o.val) (name:=o.field) hc.asc
     refine ⟨hc.id,hc.owner,hc.state,write_asc hc.asc, ?_, ?_,by simp [hapD], ?_, ?_⟩
     ·simp only [hapD]
      rw [hlen,hany]
      have:=hc.nfields
      cases he:eqV (fieldD c.fields o.field) zeroVal
      ·simp; omega
      ·rw [he] at h16; simp at h16⊢; omega
     ·intro f hf
      rcases write_mem hf with rfl|hf
      ·exact ⟨hnf,hv,hvz⟩
      ·exact hc.field f hf
     ·simp only [hapD,List.length_append,List.length_singleton]; omega
     ·intro x hx
      simp only [hapD,List.mem_append,List.mem_singleton] at hx
      rcases hx with hx|rfl
      ·exact hc.actor x hx
      ·exact ⟨F.subj,t64⟩
  ·simp only [k3,if_false] at hok⊢
   by_cases k4:o.kind=4
   ·have hk:2≤o.kind∧o.kind≤4:=by omega
    simp only [hk,and_self,if_true] at hr
    simp only [k4,if_true]
    have hth:thereD s.cases o.case=true:=by
     unfold readyCaseD at hr
     cases h:thereD s.cases o.case with
     |true=>rfl
     |false=>rw [h] at hr; simp at hr
    unfold readyCaseD at hr
    rw [hth] at hr
    simp only [Bool.true_eq_false,if_false,k4] at hr
    obtain ⟨hm,hid⟩:=case_mem hs.asc hth
    have hlt:=thereD_lt hth
    have hce:caseD s.cases o.case=s.cases[findD s.cases o.case]:=by
     unfold caseD; rw [if_pos hth]; simp [hlt]
    rw [hce] at hr hm
    generalize hcc:s.cases[findD s.cases o.case]=c at hr hm
    have hc:=hs.case c hm
    simp only [show¬((4:Int)=3) by decide,false_and,if_false,show ((4:Int)≠2) by decide,ne_eq,not_false_eq_true,true_and,false_or] at hr
    have hlg:¬c.log.length≥256:=fun h=>by simp [h] at hr
    rw [if_neg hlg] at hr
    have hfo:followsD c.state o.to=true:=by
     cases h:followsD c.state o.to with
     |true=>rfl
     |false=>rw [h] at hr; simp at hr
    refine {hs with asc:= ?_,ncases:= ?_,case:= ?_,ver:=vk}
    ·exact asc_map (map_modify fun x=>rfl) hs.asc
    ·simpa using hs.ncases
    ·intro d hd
     rcases mem_modify hd with hd|⟨hi,rfl⟩
     ·exact hs.case d hd
     ·rw [hcc]
      refine ⟨hc.id,hc.owner,follows_states hfo,hc.asc,hc.nfields,hc.field,by simp [hapD], ?_, ?_⟩
      ·simp only [hapD,List.length_append,List.length_singleton]; omega
      ·intro x hx
       simp only [hapD,List.mem_append,List.mem_singleton] at hx
       rcases hx with hx|rfl
       ·exact hc.actor x hx
       ·exact ⟨F.subj,t64⟩
   ·simp only [k4,if_false] at hok⊢
    by_cases k5:o.kind=5
    ·simp only [k5,if_true]
     refine {hs with nrev:= ?_,ver:=vk}
     simpa using hs.nrev
    ·simp only [k5,if_false] at hok⊢
     by_cases k6:o.kind=6
     ·have hk:¬(2≤o.kind∧o.kind≤4):=by omega
      simp only [hk,k5,k6,if_false,if_true] at hr
      simp only [k6,if_true]
      simp only [k6,or_true,if_true,Bool.and_eq_true] at hok
      have hc:nameOK o.case=true:=empty_name F.case (by simpa using hok.1)
      have hfd:nameOK o.field=true:=empty_name F.field (by simpa using hok.2)
      cases hh:hasD s.roles ⟨o.case,o.field⟩ with
      |true=>simp only [if_true]; exact {hs with ver:=vk}
      |false=>
       rw [hh] at hr
       have hlt:¬s.roles.length≥64:=fun h=>by simp [h] at hr
       simp only [Bool.false_eq_true,if_false]
       refine {hs with roles:= ?_,role:= ?_,ver:=vk}
       ·simp only [List.length_append,List.length_singleton]; omega
       ·intro r h
        rcases List.mem_append.1 h with h|h
        ·exact hs.role r h
        ·rw [List.mem_singleton.1 h]; exact ⟨hc,hfd⟩
     ·simp only [k6,if_false]
      by_cases k7:o.kind=7
      ·simp only [k7,if_true]
       by_cases hp:(parseD o.text).2.1=0
       ·simp only [hp,if_true]
        have hr0:rightE (parseD o.text).1=0:=by
         rcases parseD_fine o.text with h|h
         ·exact h.2.2
         ·have:=h.1; exact absurd hp (by simp_all)
        refine {hs with pol:=hr0,ver:= ?_}
        have:=hs.ver
        constructor
        ·show 0≤s.version+1; omega
        ·show s.version+1≤_; omega
       ·simp only [hp,if_false]
        exact {hs with ver:=vk}
      ·simp only [k7,if_false]
       by_cases k8:o.kind=8
       ·simp only [k8,if_true]
        have hk:¬(2≤o.kind∧o.kind≤4):=by omega
        simp only [hk,k5,k6,k8,if_false,if_true] at hr
        have hlt:¬s.tick>1099511627776 - o.review:=fun h=>by simp [h] at hr
        simp only [k8,show¬((8:Int)=2∨(8:Int)=6) by decide,if_false,if_true,Bool.and_eq_true,decide_eq_true_eq] at hok
        refine {hs with tick:= ?_,ver:=vk}
        have:=hs.tick
        constructor
        ·show 0≤s.tick+o.review; omega
        ·show s.tick+o.review≤_; omega
       ·simp only [k8,if_false]
        exact {hs with ver:=vk}
theorem store_done {k:Nat} {s:StoreD} (o:OpD) (hs:StoreOK k s):StoreOK (k+1) (doneD parseD s o):=by
 unfold doneD
 by_cases h:readyD s o=0
 ·rw [if_pos h]; exact store_do hs h
 ·rw [if_neg h]
  exact {hs with ver:=⟨hs.ver.1,by have:=hs.ver.2; omega⟩}
end Go.Bf
namespace Go.Proofs.YtmlhcdeamjkpjaaGreatDoor
open Go Go.Ab Go.Bf
end Go.Proofs.YtmlhcdeamjkpjaaGreatDoor
