/- The law ParseCut: pack 5 of its texts. -/
import Derived.Test.YtdcchpbncckhlaaDoorPk1
import Derived.Test.YtdcchpbncckhlaaDoorPk2
import Derived.Test.YtdcchpbncckhlaaDoorPk3
import Derived.Test.YtdcchpbncckhlaaDoorPk4
set_option linter.unusedSimpArgs false
set_option linter.unusedVariables false
namespace Go.Proofs.YtdcchpbncckhlaaDoor
open Go Go.Ab Go.Bf
theorem uz_k : (U 43).sz = 7 := by simp only [go_sem]
theorem ub_k : (U 43).bytes = 128 := by simp only [go_sem]
theorem sized_k (l : List PolD) : Sized 7 (l.map polA) := fun z hz => by
  obtain ⟨c, _, rfl⟩ := List.mem_map.1 hz
  cases c; rfl
set_option maxRecDepth 20000 in
theorem kids_p (pol : PoF) (d : Nat) (hd5 : d ≤ 5) (hp : ∀ st, WfP st → st.rules ≤ 64 → d ≤ 4 → PC 49 [.v (.int .i64 d)] st (polA (pol st).1) (pol st).2) (hpa : ∀ st, WfP st → Ah st (pol st).2) (hpr : ∀ st, RchR st (pol st).2)
    (st : PS) (hw : WfP st) (hr : st.rules ≤ 64) : PC 83 [.v (.int .i64 d)] st (.sl ((kidsF pol (decide ((4 : Int) < (d : Int))) 17 st []).1.map polA) .no) (kidsF pol (decide ((4 : Int) < (d : Int))) 17 st []).2 := .of fun G id => by
  obtain ⟨M, eM⟩ : ∃ M, kidsF pol (decide ((4 : Int) < (d : Int))) 17 st [] = M := ⟨_, rfl⟩
  rw [eM]
  refine FnOK.body hU hm Tryd.func83 rfl (by kernel_rfl) 33 rfl [.tmp 4] rfl (Nat.le_of_ble_eq_true rfl) (fun hwf => ?_)
  simp -implicitDefEqProofs only [go_sem]
  have hB : upd G id none id = none := upd_same ..
  refine .intro (fun m ρ H => ∃ (f : Nat) (st' : PS) (l : List PolD) (y : AV), H id = some (PO st') ∧ Acc U 43 (upd G id none) H y (l.map polA) ∧ Ah st st' ∧ st'.rules ≤ 64 ∧ kidsF pol (decide ((4 : Int) < (d : Int))) f st' l = M ∧ f + l.length = 17 ∧ l.length ≤ 16 ∧ m = f ∧ lk ρ 0 = some (.ptr id 0) ∧ lk ρ 1 = some (.v (.int .i64 d)) ∧ lk ρ 5 = some y) 17 ?_ ?_
  · refine ⟨17, st, [], .sl ([].map polA) .full, upd_same .., .full (base_start G id _), .refl hw, hr, eM, by simp, by simp, rfl, ?_, ?_, ?_⟩ <;> simp -implicitDefEqProofs only [go_sem] <;> rfl
  · rintro m ρ H ⟨f, st', l, y, hH, hy, ha, hru, hfin, hf, hll, rfl, r0, r1, r5⟩
    have hlen := ha.1.2.2
    have hpos := ha.1.1
    obtain ⟨g, rfl⟩ : ∃ g, m = g + 1 := ⟨m - 1, by omega⟩
    simp -implicitDefEqProofs only [go_sem, r0, r1, r5]
    refine (is_ok st' policyT ha.1).go hH ?_
    rw [upd_self hH]
    have fin : isD st' policyT = false → isD st' setT = false → (l, st') = M := fun d1 d2 => by
      rw [← hfin]; simp [kidsF, d1, d2]
    cases d1 : isD st' policyT
    · simp -implicitDefEqProofs only [go_sem, r0, r1, r5]
      refine (is_ok st' setT ha.1).go hH ?_
      rw [upd_self hH]
      cases d2 : isD st' setT
      · simp -implicitDefEqProofs only [go_sem, r0, r1, r5]
        have e := fin d1 d2
        exact .mk (h' := upd G id (some (PO M.2))) (.sl (M.1.map polA) .no) (by rw [← e]; exact hy.weak) (by rw [← e]; exact base_end hy.1 hH) ⟨rfl, rfl⟩
      · have hd : isD st' policyT = true ∨ isD st' setT = true := by first | exact .inl d1 | exact .inr d2
        have eb := (isD_or hd).1
        have ek := (isD_or hd).2
        have db : (st'.bad != 0) = false := by simp [eb]
        have gP := hH
        unfold PO at gP
        have lim : l.length = 16 ∨ decide ((4 : Int) < (d : Int)) = true → (l, limitD st' true) = M := fun h => by
          rw [← hfin]; simp only [kidsF, if_pos hd, if_pos h]
        have hdl : limitD st' true = wrongD st' 6 (hereD st').pos := rfl
        have hlb : ((limitD st' true).bad != 0) = true := by rw [hdl]; simp [wrongD, eb]
        cases dA : ((l.length : Int) == 16)
        · cases dB : decide ((4 : Int) < (d : Int))
          · have nA : l.length ≠ 16 := fun e => by rw [e] at dA; simp at dA
            have hno : ¬ (l.length = 16 ∨ decide ((4 : Int) < (d : Int)) = true) := fun h => h.elim nA (fun e => by rw [dB] at e; cases e)
            simp only [kidsF, if_pos hd, if_neg hno] at hfin
            rw [dB] at hfin
            have hd4 : d ≤ 4 := by have := of_decide_eq_false dB; omega
            simp -implicitDefEqProofs only [go_sem, r0, r1, r5, hy.len, List.length_map, dA, gP, dB]
            refine (limit_ok st' false ha.1).go hH ?_
            rw [show limitD st' false = st' from rfl, upd_self hH]
            have h3 := hpa st' ha.1
            have hrp := hp st' ha.1 hru hd4
            have hr3 := rules_pol (hpr st') hru
            obtain ⟨x, st2, e2⟩ : ∃ x st2, pol st' = (x, st2) := ⟨_, _, rfl⟩
            rw [e2] at hfin hrp h3 hr3
            obtain ⟨pid, pset, palg, ptgt, prules, pkids, pobls⟩ := x
            simp only [polA] at hrp hfin h3 hr3
            simp -implicitDefEqProofs only [go_sem, r0, r1, r5, gP, db]
            refine hrp.go hH ?_
            simp -implicitDefEqProofs only [go_sem, r0, r1, r5]
            refine (hy.put hB hH _).app (zs := [polA ⟨pid, pset, palg, ptgt, prules, pkids, pobls⟩]) (by rw [uz_k]; decide) (by rw [ub_k]; decide) (fun k hk => hk) (by rw [uz_k]; exact sized_k l) (by rw [uz_k]; exact sized_k [⟨pid, pset, palg, ptgt, prules, pkids, pobls⟩]) (by rw [ub_k]; simp; omega) fun y' H2 hy' hk2 => ?_
            have hH2 : H2 id = some (PO st2) := hk2 _ _ _ (upd_same ..)
            simp -implicitDefEqProofs only [go_sem, r0, r1, r5]
            refine ⟨_, ?_, g, st2, l ++ [⟨pid, pset, palg, ptgt, prules, pkids, pobls⟩], y', hH2, by rw [List.map_append]; exact hy', ha.trans h3, hr3, hfin, by simp; omega, by simp; omega, rfl, ?_, ?_, ?_⟩
            · omega
            all_goals simp -implicitDefEqProofs only [go_sem, r0, r1, r5]
          · have e := lim (.inr dB)
            simp -implicitDefEqProofs only [go_sem, r0, r1, r5, hy.len, List.length_map, dA, gP, dB]
            refine (limit_ok st' true ha.1).go hH ?_
            have g3 : upd H id (some (PO (limitD st' true))) id = some (PO (limitD st' true)) := upd_same ..
            unfold PO at g3
            simp -implicitDefEqProofs only [go_sem, r0, r1, r5, g3, hlb, PO]
            exact .mk (h' := upd G id (some (PO M.2))) (.sl (M.1.map polA) .no) (by rw [← e]; exact hy.weak) (by rw [← e]; exact base_end (hy.put hB hH _).1 (upd_same ..)) ⟨rfl, rfl⟩
        · have nA : l.length = 16 := by have : (l.length : Int) = 16 := by simpa using dA
                                        omega
          have e := lim (.inl nA)
          simp -implicitDefEqProofs only [go_sem, r0, r1, r5, hy.len, List.length_map, dA, gP]
          refine (limit_ok st' true ha.1).go hH ?_
          have g3 : upd H id (some (PO (limitD st' true))) id = some (PO (limitD st' true)) := upd_same ..
          unfold PO at g3
          simp -implicitDefEqProofs only [go_sem, r0, r1, r5, g3, hlb, PO]
          exact .mk (h' := upd G id (some (PO M.2))) (.sl (M.1.map polA) .no) (by rw [← e]; exact hy.weak) (by rw [← e]; exact base_end (hy.put hB hH _).1 (upd_same ..)) ⟨rfl, rfl⟩
    · have hd : isD st' policyT = true ∨ isD st' setT = true := by first | exact .inl d1 | exact .inr d2
      have eb := (isD_or hd).1
      have ek := (isD_or hd).2
      have db : (st'.bad != 0) = false := by simp [eb]
      have gP := hH
      unfold PO at gP
      have lim : l.length = 16 ∨ decide ((4 : Int) < (d : Int)) = true → (l, limitD st' true) = M := fun h => by
        rw [← hfin]; simp only [kidsF, if_pos hd, if_pos h]
      have hdl : limitD st' true = wrongD st' 6 (hereD st').pos := rfl
      have hlb : ((limitD st' true).bad != 0) = true := by rw [hdl]; simp [wrongD, eb]
      cases dA : ((l.length : Int) == 16)
      · cases dB : decide ((4 : Int) < (d : Int))
        · have nA : l.length ≠ 16 := fun e => by rw [e] at dA; simp at dA
          have hno : ¬ (l.length = 16 ∨ decide ((4 : Int) < (d : Int)) = true) := fun h => h.elim nA (fun e => by rw [dB] at e; cases e)
          simp only [kidsF, if_pos hd, if_neg hno] at hfin
          rw [dB] at hfin
          have hd4 : d ≤ 4 := by have := of_decide_eq_false dB; omega
          simp -implicitDefEqProofs only [go_sem, r0, r1, r5, hy.len, List.length_map, dA, gP, dB]
          refine (limit_ok st' false ha.1).go hH ?_
          rw [show limitD st' false = st' from rfl, upd_self hH]
          have h3 := hpa st' ha.1
          have hrp := hp st' ha.1 hru hd4
          have hr3 := rules_pol (hpr st') hru
          obtain ⟨x, st2, e2⟩ : ∃ x st2, pol st' = (x, st2) := ⟨_, _, rfl⟩
          rw [e2] at hfin hrp h3 hr3
          obtain ⟨pid, pset, palg, ptgt, prules, pkids, pobls⟩ := x
          simp only [polA] at hrp hfin h3 hr3
          simp -implicitDefEqProofs only [go_sem, r0, r1, r5, gP, db]
          refine hrp.go hH ?_
          simp -implicitDefEqProofs only [go_sem, r0, r1, r5]
          refine (hy.put hB hH _).app (zs := [polA ⟨pid, pset, palg, ptgt, prules, pkids, pobls⟩]) (by rw [uz_k]; decide) (by rw [ub_k]; decide) (fun k hk => hk) (by rw [uz_k]; exact sized_k l) (by rw [uz_k]; exact sized_k [⟨pid, pset, palg, ptgt, prules, pkids, pobls⟩]) (by rw [ub_k]; simp; omega) fun y' H2 hy' hk2 => ?_
          have hH2 : H2 id = some (PO st2) := hk2 _ _ _ (upd_same ..)
          simp -implicitDefEqProofs only [go_sem, r0, r1, r5]
          refine ⟨_, ?_, g, st2, l ++ [⟨pid, pset, palg, ptgt, prules, pkids, pobls⟩], y', hH2, by rw [List.map_append]; exact hy', ha.trans h3, hr3, hfin, by simp; omega, by simp; omega, rfl, ?_, ?_, ?_⟩
          · omega
          all_goals simp -implicitDefEqProofs only [go_sem, r0, r1, r5]
        · have e := lim (.inr dB)
          simp -implicitDefEqProofs only [go_sem, r0, r1, r5, hy.len, List.length_map, dA, gP, dB]
          refine (limit_ok st' true ha.1).go hH ?_
          have g3 : upd H id (some (PO (limitD st' true))) id = some (PO (limitD st' true)) := upd_same ..
          unfold PO at g3
          simp -implicitDefEqProofs only [go_sem, r0, r1, r5, g3, hlb, PO]
          exact .mk (h' := upd G id (some (PO M.2))) (.sl (M.1.map polA) .no) (by rw [← e]; exact hy.weak) (by rw [← e]; exact base_end (hy.put hB hH _).1 (upd_same ..)) ⟨rfl, rfl⟩
      · have nA : l.length = 16 := by have : (l.length : Int) = 16 := by simpa using dA
                                      omega
        have e := lim (.inl nA)
        simp -implicitDefEqProofs only [go_sem, r0, r1, r5, hy.len, List.length_map, dA, gP]
        refine (limit_ok st' true ha.1).go hH ?_
        have g3 : upd H id (some (PO (limitD st' true))) id = some (PO (limitD st' true)) := upd_same ..
        unfold PO at g3
        simp -implicitDefEqProofs only [go_sem, r0, r1, r5, g3, hlb, PO]
        exact .mk (h' := upd G id (some (PO M.2))) (.sl (M.1.map polA) .no) (by rw [← e]; exact hy.weak) (by rw [← e]; exact base_end (hy.put hB hH _).1 (upd_same ..)) ⟨rfl, rfl⟩
end Go.Proofs.YtdcchpbncckhlaaDoor

set_option linter.unusedSimpArgs false
set_option linter.unusedVariables false
namespace Go.Proofs.YtdcchpbncckhlaaDoor
open Go Go.Ab Go.Bf
set_option maxRecDepth 20000 in
theorem policy_s (r : Nat) (d : Nat) (hrd : r + d = 4) (hp : ∀ st, WfP st → st.rules ≤ 64 → d + 1 ≤ 4 → PC 49 [.v (.int .i64 (d + 1 : Nat))] st (polA (polF r st).1) (polF r st).2) (st : PS) (hw : WfP st) (hr : st.rules ≤ 64) :
    PC 49 [.v (.int .i64 d)] st (polA (polF (r + 1) st).1) (polF (r + 1) st).2 := .of fun G id => by
  have h1 := ah_among kindWs hw
  have h2 := ah_name h1.1
  have h3 := ah_among algWs h2.1
  have h4 := ah_tgt h3.1
  have h5 : Ah _ (headP st).2 := ah_must [123] h4.1
  have ht := tgt_p _ h3.1
  simp only [tgtA] at ht
  have hrh := rules_pol (rch_head st).big hr
  have hset : (headP st).1.1 = ((amongD st kindWs).1 == 2) := rfl
  have w1 : IntKind.i64.wrap ((d : Int) + 1) = ((d + 1 : Nat) : Int) := by rw [wr64 _ (by omega)]; omega
  have hdp : (r == 0) = decide ((4 : Int) < ((d + 1 : Nat) : Int)) := by
    by_cases h : r = 0
    · rw [decide_eq_true (by omega), h]; rfl
    · rw [decide_eq_false (by omega)]; simpa using h
  have hk := kids_p (polF r) (d + 1) (by omega) hp (fun _ h => ah_pol r _ h) (rch_pol r) _ h5.1 hrh
  have hs := some_p _ h5.1 hrh
  refine FnOK.body hU hm Tryd.func49 rfl (by kernel_rfl) 39 rfl [.cell 4 43] rfl (Nat.le_of_ble_eq_true rfl) (fun hwf => ?_)
  simp -implicitDefEqProofs only [go_sem]
  intro i4 hi4
  have n4 := ne_upd hi4
  have hG4 : G i4 = none := by rw [upd_other _ _ n4] at hi4; exact hi4
  have c4 : ∀ (f : Heap) (x y : Option Blk), upd (upd f id x) i4 y = upd (upd f i4 y) id x := fun f x y => upd_comm f x y n4.symm
  simp -implicitDefEqProofs only [go_sem, c4]
  intro i5 hi5
  have n5 := ne_upd hi5
  have hi5' := hi5
  rw [upd_other _ _ n5] at hi5'
  have n54 := ne_upd hi5'
  have m54 : ¬ i5 = i4 := n54
  have m45 : ¬ i4 = i5 := n54.symm
  have hG5 : G i5 = none := by rw [upd_other _ _ n54] at hi5'; exact hi5'
  have c5 : ∀ (f : Heap) (x y : Option Blk), upd (upd f id x) i5 y = upd (upd f i5 y) id x := fun f x y => upd_comm f x y n5.symm
  have c45 : ∀ (f : Heap) (x y : Option Blk), upd (upd f i5 x) i4 y = upd (upd f i4 y) i5 x := fun f x y => upd_comm f x y n54
  simp -implicitDefEqProofs only [go_sem, c4, c5, c45, upd_ne, n4, n5, m54, m45]
  refine (among_ok st kindWs .full (by decide) hw).run ?_
  simp -implicitDefEqProofs only [go_sem, c4, c5, c45, upd_ne, n4, n5, m54, m45]
  refine (pname_ok _ h1.1).run ?_
  simp -implicitDefEqProofs only [go_sem, c4, c5, c45, upd_ne, n4, n5, m54, m45]
  refine (among_ok _ algWs .full (by decide) h2.1).run ?_
  simp -implicitDefEqProofs only [go_sem, c4, c5, c45, upd_ne, n4, n5, m54, m45]
  refine ht.run ?_
  simp -implicitDefEqProofs only [go_sem, c4, c5, c45, upd_ne, n4, n5, m54, m45]
  refine (must_ok _ [123] h4.1).run ?_
  cases ds : ((amongD st kindWs).1 == 2)
  · rw [ds] at hset
    simp -implicitDefEqProofs only [go_sem, c4, c5, c45, upd_ne, n4, n5, m54, m45, ds]
    have eb : bodyP (polF r) (r == 0) (headP st).1.1 (headP st).2 = (((someF 17 (headP st).2 []).1, []), (someF 17 (headP st).2 []).2) := by simp [bodyP, hset]
    have hb := ah_body (fun _ h => ah_pol r _ h) (r == 0) (headP st).1.1 h5.1
    obtain ⟨⟨rl, stb⟩, er⟩ : ∃ x, someF 17 (headP st).2 [] = x := ⟨_, rfl⟩
    rw [er] at eb hs
    rw [eb] at hb
    have ho := duties_p _ (ah_must [125] hb.1).1
    simp only [oblsA] at ho hs
    refine hs.run ?_
    simp -implicitDefEqProofs only [go_sem, c4, c5, c45, upd_ne, n4, n5, m54, m45]
    refine (must_ok _ [125] hb.1).run ?_
    simp -implicitDefEqProofs only [go_sem, c4, c5, c45, upd_ne, n4, n5, m54, m45]
    refine ho.run ?_
    simp -implicitDefEqProofs only [go_sem, c4, c5, c45, upd_ne, n4, n5, m54, m45]
    have efin : polF (r + 1) st = (.mk (headP st).1.2.1 false (headP st).1.2.2.1 (headP st).1.2.2.2 rl [] (oblsP (mustD stb [125])).1, (oblsP (mustD stb [125])).2) := by simp only [polF, eb]; rw [hset]
    exact .mk (h' := upd G id (some (PO (oblsP (mustD stb [125])).2))) (polA (.mk (headP st).1.2.1 false (headP st).1.2.2.1 (headP st).1.2.2.2 rl [] (oblsP (mustD stb [125])).1)) (weak_flat _) (Sub.both (by repeat (first | exact .refl _ | refine Sub.put ?_ (by assumption) _)) _ _) ⟨by rw [efin], by rw [efin]⟩
  · rw [ds] at hset
    simp -implicitDefEqProofs only [go_sem, c4, c5, c45, upd_ne, n4, n5, m54, m45, ds, w1]
    have eb : bodyP (polF r) (r == 0) (headP st).1.1 (headP st).2 = (([], (kidsF (polF r) (r == 0) 17 (headP st).2 []).1), (kidsF (polF r) (r == 0) 17 (headP st).2 []).2) := by simp [bodyP, hset]
    have hb := ah_body (fun _ h => ah_pol r _ h) (r == 0) (headP st).1.1 h5.1
    rw [← hdp] at hk
    obtain ⟨⟨kl, stb⟩, er⟩ : ∃ x, kidsF (polF r) (r == 0) 17 (headP st).2 [] = x := ⟨_, rfl⟩
    rw [er] at eb hk
    rw [eb] at hb
    have ho := duties_p _ (ah_must [125] hb.1).1
    simp only [oblsA] at ho hk
    refine hk.run ?_
    simp -implicitDefEqProofs only [go_sem, c4, c5, c45, upd_ne, n4, n5, m54, m45]
    refine (must_ok _ [125] hb.1).run ?_
    simp -implicitDefEqProofs only [go_sem, c4, c5, c45, upd_ne, n4, n5, m54, m45]
    refine ho.run ?_
    simp -implicitDefEqProofs only [go_sem, c4, c5, c45, upd_ne, n4, n5, m54, m45]
    have efin : polF (r + 1) st = (.mk (headP st).1.2.1 true (headP st).1.2.2.1 (headP st).1.2.2.2 [] kl (oblsP (mustD stb [125])).1, (oblsP (mustD stb [125])).2) := by simp only [polF, eb]; rw [hset]
    exact .mk (h' := upd G id (some (PO (oblsP (mustD stb [125])).2))) (polA (.mk (headP st).1.2.1 true (headP st).1.2.2.1 (headP st).1.2.2.2 [] kl (oblsP (mustD stb [125])).1)) (by simp only [polA, kidsA_eq]; exact weak_flat _) (Sub.both (by repeat (first | exact .refl _ | refine Sub.put ?_ (by assumption) _)) _ _) ⟨by rw [efin], by rw [efin]⟩
theorem policy_p : ∀ (r d : Nat), r + d = 4 → ∀ st, WfP st → st.rules ≤ 64 → PC 49 [.v (.int .i64 d)] st (polA (polF (r + 1) st).1) (polF (r + 1) st).2
  | 0, d, hrd => fun st hw hr => policy_s 0 d hrd (fun _ _ _ h => absurd h (by omega)) st hw hr
  | r + 1, d, hrd => fun st hw hr => policy_s (r + 1) d hrd (fun st hw hr _ => policy_p r (d + 1) (by omega) st hw hr) st hw hr
end Go.Proofs.YtdcchpbncckhlaaDoor

set_option linter.unusedSimpArgs false
set_option linter.unusedVariables false
namespace Go.Proofs.YtdcchpbncckhlaaDoor
open Go Go.Ab Go.Bf
theorem attr_ok (a : AttrD) (h : Heap) : FnOK Tryd.prog 42 [attrA a] h fun r h' => r = .v (.bool (attrOK a)) ∧ h' = h := by
  refine FnOK.body hU hm Tryd.func42 rfl (by kernel_rfl) 16 rfl [.tmp 2] rfl (Nat.le_of_ble_eq_true rfl) (fun hwf => ?_)
  simp -implicitDefEqProofs only [go_sem, attrA]
  intro id hid
  cases d1 : decide (1 ≤ a.cat)
  · simp -implicitDefEqProofs only [go_sem, d1]
    exact .mk _ (.refl _) (.upd_new hid) ⟨by simp [attrOK, d1, oneOr], rfl⟩
  cases d2 : decide (a.cat ≤ 4)
  · simp -implicitDefEqProofs only [go_sem, d1, d2]
    exact .mk _ (.refl _) (.upd_new hid) ⟨by simp [attrOK, d1, d2, oneOr], rfl⟩
  simp -implicitDefEqProofs only [go_sem, d1, d2]
  refine (name_ok _ _).pthen ?_
  simp -implicitDefEqProofs only [go_sem, d1, d2]
  exact .mk _ (.refl _) (.upd_new hid) ⟨by simp [attrOK, d1, d2, oneOr], rfl⟩
theorem valRight_ok (v : ValD) (h : Heap) : FnOK Tryd.prog 67 [valA v] h fun r h' => r = .v (.bool (valOK v)) ∧ h' = h := by
  refine FnOK.body hU hm Tryd.func67 rfl (by kernel_rfl) 61 rfl [.tmp 2] rfl (Nat.le_of_ble_eq_true rfl) (fun hwf => ?_)
  simp -implicitDefEqProofs only [go_sem, valA]
  intro id hid
  cases k1 : (v.kind == 1)
  case true =>
    have e1 : v.kind = 1 := by simpa using k1
    cases d1 : (v.n == 0) <;> cases d2 : (v.n == 1)
    · simp -implicitDefEqProofs only [go_sem, k1, d1, d2]
      exact .mk _ (.refl _) (.upd_new hid) ⟨by simp [valOK, e1, d1, d2, oneOr], rfl⟩
    all_goals
      simp -implicitDefEqProofs only [go_sem, k1, d1, d2]
      exact .mk _ (.refl _) (.upd_new hid) ⟨by simp [valOK, e1, d1, d2, oneOr], rfl⟩
  have n1 : v.kind ≠ 1 := by simpa using k1
  cases k2 : (v.kind == 2)
  case true =>
    have e1 : v.kind = 2 := by simpa using k2
    simp -implicitDefEqProofs only [go_sem, k1, k2]
    exact .mk _ (.refl _) (.upd_new hid) ⟨by simp [valOK, e1, oneOr], rfl⟩
  have n2 : v.kind ≠ 2 := by simpa using k2
  cases k3 : (v.kind == 3)
  case true =>
    have e1 : v.kind = 3 := by simpa using k3
    cases d1 : (v.n == 0)
    all_goals
      simp -implicitDefEqProofs only [go_sem, k1, k2, k3, d1]
      exact .mk _ (.refl _) (.upd_new hid) ⟨by simp [valOK, e1, d1, oneOr] <;> omega, rfl⟩
  have n3 : v.kind ≠ 3 := by simpa using k3
  cases k4 : (v.kind == 4)
  case true =>
    have e1 : v.kind = 4 := by simpa using k4
    cases d1 : decide (0 ≤ v.n) <;> cases d2 : decide (v.n ≤ 1099511627776)
    all_goals
      simp -implicitDefEqProofs only [go_sem, k1, k2, k3, k4, d1, d2]
      exact .mk _ (.refl _) (.upd_new hid) ⟨by simp [valOK, e1, d1, d2, oneOr], rfl⟩
  have n4 : v.kind ≠ 4 := by simpa using k4
  cases k5 : (v.kind == 5)
  case true =>
    have e1 : v.kind = 5 := by simpa using k5
    cases d1 : (v.n == 0)
    · simp -implicitDefEqProofs only [go_sem, k1, k2, k3, k4, k5, d1]
      exact .mk _ (.refl _) (.upd_new hid) ⟨by simp [valOK, e1, d1, oneOr], rfl⟩
    · simp -implicitDefEqProofs only [go_sem, k1, k2, k3, k4, k5, d1]
      refine (name_ok _ _).pthen ?_
      simp -implicitDefEqProofs only [go_sem, d1]
      exact .mk _ (.refl _) (.upd_new hid) ⟨by simp [valOK, e1, d1, oneOr], rfl⟩
  have n5 : v.kind ≠ 5 := by simpa using k5
  simp -implicitDefEqProofs only [go_sem, k1, k2, k3, k4, k5]
  exact .mk _ (.refl _) (.upd_new hid) ⟨by simp [valOK, n1, n2, n3, n4, n5, oneOr], rfl⟩
theorem match_ok (m : MatchD) (h : Heap) : FnOK Tryd.prog 142 [matchA m] h fun r h' => r = .v (.bool (matchOK m)) ∧ h' = h := by
  refine FnOK.body hU hm Tryd.func142 rfl (by kernel_rfl) 21 rfl [.tmp 2] rfl (Nat.le_of_ble_eq_true rfl) (fun hwf => ?_)
  simp -implicitDefEqProofs only [go_sem, matchA]
  intro id hid
  simp -implicitDefEqProofs only [go_sem]
  refine (attr_ok m.attr _).pthen ?_
  cases d0 : attrOK m.attr
  · simp -implicitDefEqProofs only [go_sem, d0]
    exact .mk _ (.refl _) (.upd_new hid) ⟨by simp [matchOK, d0, oneOr], rfl⟩
  cases d1 : decide (1 ≤ m.op)
  · simp -implicitDefEqProofs only [go_sem, d0, d1]
    exact .mk _ (.refl _) (.upd_new hid) ⟨by simp [matchOK, d0, d1, oneOr], rfl⟩
  cases d2 : decide (m.op ≤ 3)
  · simp -implicitDefEqProofs only [go_sem, d0, d1, d2]
    exact .mk _ (.refl _) (.upd_new hid) ⟨by simp [matchOK, d0, d1, d2, oneOr], rfl⟩
  simp -implicitDefEqProofs only [go_sem, d0, d1, d2]
  refine (valRight_ok m.val _).pthen ?_
  simp -implicitDefEqProofs only [go_sem, d0, d1, d2]
  exact .mk _ (.refl _) (.upd_new hid) ⟨by simp [matchOK, d0, d1, d2, oneOr], rfl⟩
theorem many_ok (n : Nat) (h : Heap) : FnOK Tryd.prog 129 [.v (.int .i64 n)] h fun r h' => r = .v (.int .i64 (manyE n)) ∧ h' = h := by
  refine FnOK.body hU hm Tryd.func129 rfl (by kernel_rfl) 9 rfl [.tmp 2] rfl (Nat.le_of_ble_eq_true rfl) (fun hwf => ?_)
  cases d1 : ((n : Int) == 0)
  case true =>
    have e1 : n = 0 := by simpa using d1
    simp -implicitDefEqProofs only [go_sem, d1]
    exact .same (.refl _) ⟨by simp [manyE, e1, oneOr], rfl⟩
  have e1 : n ≠ 0 := by simpa using d1
  cases d2 : decide (8 < (n : Int))
  · have e2 : ¬ n > 8 := by have := of_decide_eq_false d2; omega
    simp -implicitDefEqProofs only [go_sem, d1, d2]
    exact .same (.refl _) ⟨by simp [manyE, e1, e2, oneOr], rfl⟩
  · have e2 : n > 8 := by have := of_decide_eq_true d2; omega
    simp -implicitDefEqProofs only [go_sem, d1, d2]
    exact .same (.refl _) ⟨by simp [manyE, e1, e2, oneOr], rfl⟩
theorem manyE_le {n : Nat} (h : manyE n = 0) : 1 ≤ n ∧ n ≤ 8 := by
  unfold manyE at h
  split at h
  · cases h
  · split at h
    · cases h
    · omega
theorem allOf_ok (l : List MatchD) (h : Heap) : FnOK Tryd.prog 130 [allA l] h fun r h' => r = .v (.int .i64 (allE l)) ∧ h' = h := by
  refine FnOK.body hU hm Tryd.func130 rfl (by kernel_rfl) 22 rfl [.tmp 2] rfl (Nat.le_of_ble_eq_true rfl) (fun hwf => ?_)
  simp -implicitDefEqProofs only [go_sem, allA, List.length_map]
  refine (many_ok _ _).pthen ?_
  cases d1 : (manyE l.length != 0)
  case true =>
    have e1 : manyE l.length ≠ 0 := by simpa using d1
    simp -implicitDefEqProofs only [go_sem, d1]
    exact .same (.refl _) ⟨by simp [allE, e1, oneOr], rfl⟩
  have e1 : manyE l.length = 0 := by simpa using d1
  have hlen := manyE_le e1
  simp -implicitDefEqProofs only [go_sem, d1, List.length_map]
  refine .intro (fun m ρ h' => Ab.Sub h h' ∧ ∃ i : Nat, i ≤ l.length ∧ m = l.length - i ∧ (l.take i).all matchOK = true ∧ lk ρ 12 = some (allA l) ∧ lk ρ 13 = some (.v (.int .i64 l.length)) ∧ lk ρ 14 = some (.v (.int .i64 i))) l.length ?_ ?_
  · refine ⟨.refl _, 0, by omega, rfl, rfl, ?_, ?_, ?_⟩ <;> simp -implicitDefEqProofs only [go_sem, allA]
  · rintro m ρ h' ⟨hs, i, hi, rfl, hc, r12, r13, r14⟩
    simp -implicitDefEqProofs only [go_sem, r12, r13, r14]
    refine .intro (fun e => ?_) (fun e => ?_)
    · have hlt : i < l.length := Int.ofNat_lt.1 (of_decide_eq_true e)
      have w1 : IntKind.i64.wrap ((i : Int) + 1) = ((i + 1 : Nat) : Int) := by rw [wr64 _ (by omega)]; omega
      simp -implicitDefEqProofs only [go_sem, r12, r13, r14, allA]
      refine .at i (by simpa using hlt) (by rw [List.getElem_map]; rfl) ?_
      simp -implicitDefEqProofs only [go_sem, r12, r13, r14, List.getElem_map, matchA]
      intro id hid
      simp -implicitDefEqProofs only [go_sem, r12, r13, r14]
      refine (match_ok l[i] _).pthen ?_
      cases d2 : matchOK l[i]
      · simp -implicitDefEqProofs only [go_sem, r12, r13, r14, d2]
        refine .mk _ (.refl _) (hs.new hid _) ⟨?_, rfl⟩
        have : l.all matchOK = false := List.all_eq_false.2 ⟨_, List.getElem_mem hlt, by simp [d2]⟩
        simp [allE, e1, this, oneOr]
      · simp -implicitDefEqProofs only [go_sem, r12, r13, r14, d2, w1]
        refine ⟨_, ?_, hs.new hid _, i + 1, by omega, rfl, ?_, ?_, ?_, ?_⟩
        · omega
        · rw [List.take_succ_eq_append_getElem hlt, List.all_append, hc]; simp [d2]
        all_goals simp -implicitDefEqProofs only [go_sem, r12, r13, r14, w1, allA]
    · have hge : i = l.length := by have := of_decide_eq_false e; omega
      subst hge
      rw [List.take_length] at hc
      simp -implicitDefEqProofs only [go_sem, r12, r13, r14]
      exact .mk _ (.refl _) hs ⟨by simp [allE, e1, hc, oneOr], rfl⟩
end Go.Proofs.YtdcchpbncckhlaaDoor

set_option linter.unusedSimpArgs false
set_option linter.unusedVariables false
namespace Go.Proofs.YtdcchpbncckhlaaDoor
open Go Go.Ab Go.Bf
theorem anyOf_ok (l : List (List MatchD)) (h : Heap) : FnOK Tryd.prog 116 [anyA l] h fun r h' => r = .v (.int .i64 (anyE l)) ∧ h' = h := by
  refine FnOK.body hU hm Tryd.func116 rfl (by kernel_rfl) 25 rfl [.tmp 2] rfl (Nat.le_of_ble_eq_true rfl) (fun hwf => ?_)
  simp -implicitDefEqProofs only [go_sem, anyA, List.length_map]
  refine (many_ok _ _).pthen ?_
  cases d1 : (manyE l.length != 0)
  case true =>
    have e1 : manyE l.length ≠ 0 := by simpa using d1
    simp -implicitDefEqProofs only [go_sem, d1]
    exact .same (.refl _) ⟨by simp [anyE, e1, oneOr], rfl⟩
  have e1 : manyE l.length = 0 := by simpa using d1
  have hlen := manyE_le e1
  simp -implicitDefEqProofs only [go_sem, d1, List.length_map]
  refine .intro (fun m ρ h' => Ab.Sub h h' ∧ ∃ i : Nat, i ≤ l.length ∧ m = l.length - i ∧ firstE allE (l.take i) = 0 ∧ lk ρ 13 = some (anyA l) ∧ lk ρ 14 = some (.v (.int .i64 l.length)) ∧ lk ρ 15 = some (.v (.int .i64 i))) l.length ?_ ?_
  · refine ⟨.refl _, 0, by omega, rfl, rfl, ?_, ?_, ?_⟩ <;> simp -implicitDefEqProofs only [go_sem, anyA]
  · rintro m ρ h' ⟨hs, i, hi, rfl, hc, r12, r13, r14⟩
    simp -implicitDefEqProofs only [go_sem, r12, r13, r14]
    refine .intro (fun e => ?_) (fun e => ?_)
    · have hlt : i < l.length := Int.ofNat_lt.1 (of_decide_eq_true e)
      have w1 : IntKind.i64.wrap ((i : Int) + 1) = ((i + 1 : Nat) : Int) := by rw [wr64 _ (by omega)]; omega
      simp -implicitDefEqProofs only [go_sem, r12, r13, r14, anyA]
      refine .at i (by simpa using hlt) (by rw [List.getElem_map]; rfl) ?_
      simp -implicitDefEqProofs only [go_sem, r12, r13, r14, List.getElem_map, allA]
      refine (allOf_ok l[i] _).pthen ?_
      cases d2 : (allE l[i] != 0)
      · have e2 : allE l[i] = 0 := by simpa using d2
        simp -implicitDefEqProofs only [go_sem, r12, r13, r14, d2, w1]
        refine ⟨_, ?_, hs, i + 1, by omega, rfl, firstE_take hlt hc e2, ?_, ?_, ?_⟩
        · omega
        all_goals simp -implicitDefEqProofs only [go_sem, r12, r13, r14, w1, anyA]
      · have e2 : allE l[i] ≠ 0 := by simpa using d2
        simp -implicitDefEqProofs only [go_sem, r12, r13, r14, d2]
        refine .mk _ (.refl _) hs ⟨?_, rfl⟩
        simp [anyE, e1, firstE_at hlt hc e2, oneOr]
    · have hge : i = l.length := by have := of_decide_eq_false e; omega
      subst hge
      rw [List.take_length] at hc
      simp -implicitDefEqProofs only [go_sem, r12, r13, r14]
      exact .mk _ (.refl _) hs ⟨by simp [anyE, e1, hc, oneOr], rfl⟩
theorem target_ok (l : TgtD) (h : Heap) : FnOK Tryd.prog 100 [tgtA l] h fun r h' => r = .v (.int .i64 (tgtE l)) ∧ h' = h := by
  refine FnOK.body hU hm Tryd.func100 rfl (by kernel_rfl) 21 rfl [.tmp 2] rfl (Nat.le_of_ble_eq_true rfl) (fun hwf => ?_)
  cases d1 : decide (8 < (l.length : Int))
  case true =>
    have e1 : 8 < l.length := by have := of_decide_eq_true d1; omega
    simp -implicitDefEqProofs only [go_sem, tgtA, List.length_map, d1]
    exact .same (.refl _) ⟨by simp [tgtE, e1, oneOr], rfl⟩
  have e1 : ¬ 8 < l.length := by have := of_decide_eq_false d1; omega
  simp -implicitDefEqProofs only [go_sem, d1, tgtA, List.length_map]
  refine .intro (fun m ρ h' => Ab.Sub h h' ∧ ∃ i : Nat, i ≤ l.length ∧ m = l.length - i ∧ firstE anyE (l.take i) = 0 ∧ lk ρ 9 = some (tgtA l) ∧ lk ρ 10 = some (.v (.int .i64 l.length)) ∧ lk ρ 11 = some (.v (.int .i64 i))) l.length ?_ ?_
  · refine ⟨.refl _, 0, by omega, rfl, rfl, ?_, ?_, ?_⟩ <;> simp -implicitDefEqProofs only [go_sem, tgtA]
  · rintro m ρ h' ⟨hs, i, hi, rfl, hc, r12, r13, r14⟩
    simp -implicitDefEqProofs only [go_sem, r12, r13, r14]
    refine .intro (fun e => ?_) (fun e => ?_)
    · have hlt : i < l.length := Int.ofNat_lt.1 (of_decide_eq_true e)
      have w1 : IntKind.i64.wrap ((i : Int) + 1) = ((i + 1 : Nat) : Int) := by rw [wr64 _ (by omega)]; omega
      simp -implicitDefEqProofs only [go_sem, r12, r13, r14, tgtA]
      refine .at i (by simpa using hlt) (by rw [List.getElem_map]; rfl) ?_
      simp -implicitDefEqProofs only [go_sem, r12, r13, r14, List.getElem_map, anyA]
      refine (anyOf_ok l[i] _).pthen ?_
      cases d2 : (anyE l[i] != 0)
      · have e2 : anyE l[i] = 0 := by simpa using d2
        simp -implicitDefEqProofs only [go_sem, r12, r13, r14, d2, w1]
        refine ⟨_, ?_, hs, i + 1, by omega, rfl, firstE_take hlt hc e2, ?_, ?_, ?_⟩
        · omega
        all_goals simp -implicitDefEqProofs only [go_sem, r12, r13, r14, w1, tgtA]
      · have e2 : anyE l[i] ≠ 0 := by simpa using d2
        simp -implicitDefEqProofs only [go_sem, r12, r13, r14, d2]
        refine .mk _ (.refl _) hs ⟨?_, rfl⟩
        simp [tgtE, e1, firstE_at hlt hc e2, oneOr]
    · have hge : i = l.length := by have := of_decide_eq_false e; omega
      subst hge
      rw [List.take_length] at hc
      simp -implicitDefEqProofs only [go_sem, r12, r13, r14]
      exact .mk _ (.refl _) hs ⟨by simp [tgtE, e1, hc, oneOr], rfl⟩
theorem obls_ok (l : List OblD) (h : Heap) : FnOK Tryd.prog 101 [oblsA l] h fun r h' => r = .v (.int .i64 (oblsE l)) ∧ h' = h := by
  refine FnOK.body hU hm Tryd.func101 rfl (by kernel_rfl) 39 rfl [.tmp 2] rfl (Nat.le_of_ble_eq_true rfl) (fun hwf => ?_)
  cases d1 : decide (8 < (l.length : Int))
  case true =>
    have e1 : 8 < l.length := by have := of_decide_eq_true d1; omega
    simp -implicitDefEqProofs only [go_sem, oblsA, List.length_map, d1]
    exact .same (.refl _) ⟨by simp [oblsE, e1, oneOr], rfl⟩
  have e1 : ¬ 8 < l.length := by have := of_decide_eq_false d1; omega
  simp -implicitDefEqProofs only [go_sem, d1, oblsA, List.length_map]
  refine .intro (fun m ρ h' => Ab.Sub h h' ∧ ∃ i : Nat, i ≤ l.length ∧ m = l.length - i ∧ (l.take i).all oblOK = true ∧ lk ρ 8 = some (oblsA l) ∧ lk ρ 9 = some (.v (.int .i64 l.length)) ∧ lk ρ 10 = some (.v (.int .i64 i))) l.length ?_ ?_
  · refine ⟨.refl _, 0, by omega, rfl, rfl, ?_, ?_, ?_⟩ <;> simp -implicitDefEqProofs only [go_sem, oblsA]
  · rintro m ρ h' ⟨hs, i, hi, rfl, hc, r12, r13, r14⟩
    simp -implicitDefEqProofs only [go_sem, r12, r13, r14]
    refine .intro (fun e => ?_) (fun e => ?_)
    · have hlt : i < l.length := Int.ofNat_lt.1 (of_decide_eq_true e)
      have w1 : IntKind.i64.wrap ((i : Int) + 1) = ((i + 1 : Nat) : Int) := by rw [wr64 _ (by omega)]; omega
      simp -implicitDefEqProofs only [go_sem, r12, r13, r14, oblsA]
      refine .at i (by simpa using hlt) (by rw [List.getElem_map]; rfl) ?_
      simp -implicitDefEqProofs only [go_sem, r12, r13, r14, List.getElem_map, oblA]
      intro id hid
      have bad : oblOK l[i] = false → oblsE l = 1 := fun hb => by
        have : l.all oblOK = false := List.all_eq_false.2 ⟨_, List.getElem_mem hlt, by simp [hb]⟩
        simp [oblsE, e1, this]
      cases c1 : decide (l[i].on < 1)
      case true =>
        simp -implicitDefEqProofs only [go_sem, r12, r13, r14, c1]
        exact .mk _ (.refl _) (hs.new hid _) ⟨by rw [bad (by have := of_decide_eq_true c1; simp [oblOK]; omega)]; rfl, rfl⟩
      cases c2 : decide (2 < l[i].on)
      case true =>
        simp -implicitDefEqProofs only [go_sem, r12, r13, r14, c1, c2]
        exact .mk _ (.refl _) (hs.new hid _) ⟨by rw [bad (by have := of_decide_eq_true c2; simp [oblOK]; omega)]; rfl, rfl⟩
      cases c3 : decide (l[i].kind < 1)
      case true =>
        simp -implicitDefEqProofs only [go_sem, r12, r13, r14, c1, c2, c3]
        exact .mk _ (.refl _) (hs.new hid _) ⟨by rw [bad (by have := of_decide_eq_true c3; simp [oblOK]; omega)]; rfl, rfl⟩
      cases c4 : decide (4 < l[i].kind)
      case true =>
        simp -implicitDefEqProofs only [go_sem, r12, r13, r14, c1, c2, c3, c4]
        exact .mk _ (.refl _) (hs.new hid _) ⟨by rw [bad (by have := of_decide_eq_true c4; simp [oblOK]; omega)]; rfl, rfl⟩
      simp -implicitDefEqProofs only [go_sem, r12, r13, r14, c1, c2, c3, c4]
      refine (name_ok _ _).pthen ?_
      cases d2 : nameOK l[i].arg
      · simp -implicitDefEqProofs only [go_sem, r12, r13, r14, d2]
        exact .mk _ (.refl _) (hs.new hid _) ⟨by rw [bad (by simp [oblOK, d2])]; rfl, rfl⟩
      · simp -implicitDefEqProofs only [go_sem, r12, r13, r14, d2, w1]
        refine ⟨_, ?_, hs.new hid _, i + 1, by omega, rfl, ?_, ?_, ?_, ?_⟩
        · omega
        · have f1 := of_decide_eq_false c1
          have f2 := of_decide_eq_false c2
          have f3 := of_decide_eq_false c3
          have f4 := of_decide_eq_false c4
          rw [List.take_succ_eq_append_getElem hlt, List.all_append, hc]; simp [oblOK, d2]; omega
        all_goals simp -implicitDefEqProofs only [go_sem, r12, r13, r14, w1, oblsA]
    · have hge : i = l.length := by have := of_decide_eq_false e; omega
      subst hge
      rw [List.take_length] at hc
      simp -implicitDefEqProofs only [go_sem, r12, r13, r14]
      exact .mk _ (.refl _) hs ⟨by simp [oblsE, e1, hc, oneOr], rfl⟩
end Go.Proofs.YtdcchpbncckhlaaDoor

set_option linter.unusedSimpArgs false
set_option linter.unusedVariables false
namespace Go.Proofs.YtdcchpbncckhlaaDoor
open Go Go.Ab Go.Bf
theorem wants_ok (op : Int) (h : Heap) : FnOK Tryd.prog 92 [.v (.int .i64 op)] h fun r h' => r = (match wantsD op with
    | none => .tup [.sl [] .no, .v (.bool false)]
    | some w => .tup [.sl (w.map boolA) .no, .v (.bool true)]) ∧ h' = h := by
  refine FnOK.body hU hm Tryd.func92 rfl (by kernel_rfl) 35 rfl [.tmp 2, .tmp 3] rfl (Nat.le_of_ble_eq_true rfl) (fun hwf => ?_)
  cases k1 : (op == 1)
  case true =>
    have e1 : op = 1 := by simpa using k1
    simp -implicitDefEqProofs only [go_sem, k1]
    exact .mk _ (weak_strip _) (.refl _) ⟨by simp [wantsD, e1, oneOr, strip, stripL, boolA], rfl⟩
  have n1 : op ≠ 1 := by simpa using k1
  cases k2 : (op == 2)
  case true =>
    have e1 : op = 2 := by simpa using k2
    simp -implicitDefEqProofs only [go_sem, k1, k2]
    exact .mk _ (weak_strip _) (.refl _) ⟨by simp [wantsD, e1, oneOr, strip, stripL, boolA], rfl⟩
  have n2 : op ≠ 2 := by simpa using k2
  cases k3 : (op == 3)
  case true =>
    have e1 : op = 3 := by simpa using k3
    simp -implicitDefEqProofs only [go_sem, k1, k2, k3]
    exact .mk _ (weak_strip _) (.refl _) ⟨by simp [wantsD, e1, oneOr, strip, stripL, boolA], rfl⟩
  have n3 : op ≠ 3 := by simpa using k3
  cases k4 : (op == 4)
  case true =>
    have e1 : op = 4 := by simpa using k4
    simp -implicitDefEqProofs only [go_sem, k1, k2, k3, k4]
    exact .mk _ (weak_strip _) (.refl _) ⟨by simp [wantsD, e1, oneOr, strip, stripL, boolA], rfl⟩
  have n4 : op ≠ 4 := by simpa using k4
  cases k5 : (op == 5)
  case true =>
    have e1 : op = 5 := by simpa using k5
    simp -implicitDefEqProofs only [go_sem, k1, k2, k3, k4, k5]
    exact .mk _ (weak_strip _) (.refl _) ⟨by simp [wantsD, e1, oneOr, strip, stripL, boolA], rfl⟩
  have n5 : op ≠ 5 := by simpa using k5
  cases k11 : (op == 11)
  case true =>
    have e1 : op = 11 := by simpa using k11
    simp -implicitDefEqProofs only [go_sem, k1, k2, k3, k4, k5, k11]
    exact .mk _ (weak_strip _) (.refl _) ⟨by simp [wantsD, e1, oneOr, strip, stripL, boolA], rfl⟩
  have n11 : op ≠ 11 := by simpa using k11
  cases k6 : decide (6 ≤ op)
  · have n6 := of_decide_eq_false k6
    simp -implicitDefEqProofs only [go_sem, k1, k2, k3, k4, k5, k11, k6]
    exact .mk _ (weak_strip _) (.refl _) ⟨by simp [wantsD, n1, n2, n3, n4, n5, n11, n6, oneOr, strip, stripL, boolA], rfl⟩
  cases k13 : decide (op ≤ 13)
  · have n13 := of_decide_eq_false k13
    simp -implicitDefEqProofs only [go_sem, k1, k2, k3, k4, k5, k11, k6, k13]
    exact .mk _ (weak_strip _) (.refl _) ⟨by simp [wantsD, n1, n2, n3, n4, n5, n11, n13, oneOr, strip, stripL, boolA], rfl⟩
  have n6 := of_decide_eq_true k6
  have n13 := of_decide_eq_true k13
  simp -implicitDefEqProofs only [go_sem, k1, k2, k3, k4, k5, k11, k6, k13]
  exact .mk _ (weak_strip _) (.refl _) ⟨by simp [wantsD, n1, n2, n3, n4, n5, n11, n6, n13, oneOr, strip, stripL, boolA], rfl⟩
theorem fields_ok (n : NodeD) (h : Heap) : FnOK Tryd.prog 93 [nodeA n] h fun r h' => r = .v (.bool (fieldsOK n)) ∧ h' = h := by
  refine FnOK.body hU hm Tryd.func93 rfl (by kernel_rfl) 37 rfl [.tmp 2] rfl (Nat.le_of_ble_eq_true rfl) (fun hwf => ?_)
  simp -implicitDefEqProofs only [go_sem, nodeA]
  intro id hid
  have fa : ∀ x y z : Bool, (x && (y && (z && true))) = (x && (y && (z && true))) := fun _ _ _ => rfl
  cases k1 : (n.op == 1)
  case true =>
    have e1 : n.op = 1 := by simpa using k1
    simp -implicitDefEqProofs only [go_sem, k1]
    refine (valRight_ok n.val _).pthen ?_
    cases d0 : valOK n.val
    · simp -implicitDefEqProofs only [go_sem, d0]
      exact .mk _ (.refl _) (.upd_new hid) ⟨by simp [fieldsOK, e1, d0, oneOr], rfl⟩
    · simp -implicitDefEqProofs only [go_sem, d0]
      exact .mk _ (.refl _) (.upd_new hid) ⟨by simp [fieldsOK, e1, d0, oneOr, zeroAt], rfl⟩
  have n1 : n.op ≠ 1 := by simpa using k1
  cases k2 : (n.op == 2)
  case true =>
    have e1 : n.op = 2 := by simpa using k2
    simp -implicitDefEqProofs only [go_sem, k1, k2]
    refine (attr_ok n.attr _).pthen ?_
    cases d0 : attrOK n.attr
    · simp -implicitDefEqProofs only [go_sem, d0]
      exact .mk _ (.refl _) (.upd_new hid) ⟨by simp [fieldsOK, e1, d0, oneOr], rfl⟩
    · simp -implicitDefEqProofs only [go_sem, d0]
      exact .mk _ (.refl _) (.upd_new hid) ⟨by simp [fieldsOK, e1, d0, oneOr, zeroV], rfl⟩
  have n2 : n.op ≠ 2 := by simpa using k2
  cases d0 : zeroV n.val
  · have d1 := d0
    unfold zeroV at d1
    simp -implicitDefEqProofs only [go_sem, k1, k2, d1]
    exact .mk _ (.refl _) (.upd_new hid) ⟨by simp [fieldsOK, n1, n2, d0, oneOr], rfl⟩
  · have d1 := d0
    unfold zeroV at d1
    simp -implicitDefEqProofs only [go_sem, k1, k2, d1]
    exact .mk _ (.refl _) (.upd_new hid) ⟨by simp [fieldsOK, n1, n2, d0, oneOr, zeroAt], rfl⟩
end Go.Proofs.YtdcchpbncckhlaaDoor

set_option linter.unusedSimpArgs false
set_option linter.unusedVariables false
namespace Go.Proofs.YtdcchpbncckhlaaDoor
open Go Go.Ab Go.Bf
theorem u4 : (U 4).sz = 1 := by simp only [go_sem]
theorem u4a : (U 4).k.agg = false := by simp only [go_sem]
theorem u4b : (U 4).bytes = 1 := by simp only [go_sem]
theorem u4f : fit (U 4).zero 1 := by simp only [go_sem]
theorem u4n : isAggA (U 4).zero = false := by simp only [go_sem]
theorem b_one (l : List Bool) : One (l.map boolA) := One.map (fun _ => rfl) l
theorem step_ok (y : AV) (st : List Bool) (n : NodeD) (h0 h : Heap) (hy : WrA 4 h0 h y (st.map boolA)) (hl : st.length ≤ 1000000) :
    FnOK Tryd.prog 66 [y, nodeA n] h fun r h' => ∃ z, r = .tup [z, .v (.bool (stepD st n).isSome)] ∧ match stepD st n with
      | none => Ab.Sub h0 h'
      | some st' => WrA 4 h0 h' z (st'.map boolA) := by
  refine FnOK.body hU hm Tryd.func66 rfl (by kernel_rfl) 60 rfl [.tmp 4, .tmp 5] rfl (Nat.le_of_ble_eq_true rfl) (fun hwf => ?_)
  simp -implicitDefEqProofs only [go_sem, nodeA]
  intro id hid
  simp -implicitDefEqProofs only [go_sem]
  have hyb := hy.base hid (some (.obj [.v (.int .i64 n.op), .v (.int .i64 n.val.kind), .v (.int .i64 n.val.n), .s n.val.s, .v (.int .i64 n.attr.cat), .s n.attr.name, .v (.bool n.attr.must)] 33))
  have hw := wants_ok n.op (upd h id (some (.obj [.v (.int .i64 n.op), .v (.int .i64 n.val.kind), .v (.int .i64 n.val.n), .s n.val.s, .v (.int .i64 n.attr.cat), .s n.attr.name, .v (.bool n.attr.must)] 33)))
  cases hwd : wantsD n.op with
  | none =>
    rw [hwd] at hw
    have hst : stepD st n = none := by simp [stepD, hwd]
    refine hw.pthen ?_
    simp -implicitDefEqProofs only [go_sem]
    exact .mk _ (.refl _) (.upd_new hid) ⟨_, by rw [hst]; rfl, by rw [hst]; exact hy.1⟩
  | some w =>
    rw [hwd] at hw
    have hwl : w.length ≤ 2 := by
      unfold wantsD at hwd
      repeat' split at hwd
      all_goals first | (cases hwd; simp; done) | (cases hwd)
    refine hw.pthen ?_
    simp -implicitDefEqProofs only [go_sem]
    refine (fields_ok n _).pthen ?_
    cases d1 : fieldsOK n
    · have hst : stepD st n = none := by simp [stepD, hwd, d1]
      simp -implicitDefEqProofs only [go_sem, d1]
      exact .mk _ (.refl _) (.upd_new hid) ⟨_, by rw [hst]; rfl, by rw [hst]; exact hy.1⟩
    cases d2 : decide ((st.length : Int) < (w.length : Int))
    case true =>
      have e2 : ¬ w.length ≤ st.length := by have := of_decide_eq_true d2; omega
      have hst : stepD st n = none := by simp [stepD, hwd, d1, e2]
      simp -implicitDefEqProofs only [go_sem, d1, hyb.len, List.length_map, d2]
      exact .mk _ (.refl _) (.upd_new hid) ⟨_, by rw [hst]; rfl, by rw [hst]; exact hy.1⟩
    have e2 : w.length ≤ st.length := by have := of_decide_eq_false d2; omega
    have w1 : IntKind.i64.wrap ((st.length : Int) - (w.length : Int)) = ((st.length - w.length : Nat) : Int) := by rw [wr64 _ (by omega)]; omega
    obtain ⟨hb, ehb⟩ : ∃ hb, upd h id (some (.obj [.v (.int .i64 n.op), .v (.int .i64 n.val.kind), .v (.int .i64 n.val.n), .s n.val.s, .v (.int .i64 n.attr.cat), .s n.attr.name, .v (.bool n.attr.must)] 33)) = hb := ⟨_, rfl⟩
    have hbid : hb id = some (.obj [.v (.int .i64 n.op), .v (.int .i64 n.val.kind), .v (.int .i64 n.val.n), .s n.val.s, .v (.int .i64 n.attr.cat), .s n.attr.name, .v (.bool n.attr.must)] 33) := by rw [← ehb]; exact upd_same ..
    have hsub : Ab.Sub h hb := by rw [← ehb]; exact .upd_new hid
    rw [ehb] at hyb ⊢
    simp -implicitDefEqProofs only [go_sem, d1, hyb.len, List.length_map, d2, w1]
    refine .intro (fun m ρ h' => h' = hb ∧ ∃ i : Nat, i ≤ w.length ∧ m = w.length - i ∧ (∀ j, j < i → st[st.length - w.length + j]? = w[j]?) ∧ lk ρ 0 = some y ∧ lk ρ 3 = some (.ptr id 0) ∧ lk ρ 8 = some (.v (.int .i64 ((st.length - w.length : Nat) : Int))) ∧ lk ρ 36 = some (.sl (w.map boolA) .no) ∧ lk ρ 37 = some (.v (.int .i64 w.length)) ∧ lk ρ 38 = some (.v (.int .i64 i))) w.length ?_ ?_
    · refine ⟨rfl, 0, by omega, rfl, fun j hj => (by omega), ?_, ?_, ?_, ?_, ?_, ?_⟩ <;> simp -implicitDefEqProofs only [go_sem]
    · rintro m ρ h' ⟨rfl, i, hi, rfl, hc, r0, r3, r8, r36, r37, r38⟩
      simp -implicitDefEqProofs only [go_sem, r0, r3, r8, r36, r37, r38]
      refine .intro (fun e => ?_) (fun e => ?_)
      · have hlt : i < w.length := Int.ofNat_lt.1 (of_decide_eq_true e)
        have w2 : IntKind.i64.wrap ((i : Int) + 1) = ((i + 1 : Nat) : Int) := by rw [wr64 _ (by omega)]; omega
        have w3 : IntKind.i64.wrap (((st.length - w.length : Nat) : Int) + (i : Int)) = ((st.length - w.length + i : Nat) : Int) := by rw [wr64 _ (by omega)]; omega
        have hlt2 : st.length - w.length + i < st.length := by omega
        simp -implicitDefEqProofs only [go_sem, r0, r3, r8, r36, r37, r38]
        refine .at i (by simpa using hlt) (by rw [List.getElem_map]; rfl) ?_
        simp -implicitDefEqProofs only [go_sem, r0, r3, r8, r36, r37, r38, List.getElem_map, boolA, w3]
        refine hyb.idx (b_one st) (st.length - w.length + i) rfl (by simpa using hlt2) u4 u4a fun p hp => ?_
        simp -implicitDefEqProofs only [go_sem, r0, r3, r8, r36, r37, r38, hp _, List.getElem_map, boolA]
        cases d3 : (st[st.length - w.length + i] == w[i])
        · have hst : stepD st n = none := by
            have : st.drop (st.length - w.length) ≠ w := fun hh => by
              have := congrArg (fun q => q[i]?) hh
              simp only [List.getElem?_drop, List.getElem?_eq_getElem hlt, List.getElem?_eq_getElem hlt2, Option.some.injEq] at this
              rw [this] at d3; simp at d3
            simp [stepD, hwd, this]
          simp -implicitDefEqProofs only [go_sem, r0, r3, r8, r36, r37, r38, d3]
          exact .mk _ (.refl _) hsub ⟨_, by rw [hst]; rfl, by rw [hst]; exact hy.1⟩
        · simp -implicitDefEqProofs only [go_sem, r0, r3, r8, r36, r37, r38, d3, w2]
          refine ⟨_, ?_, rfl, i + 1, by omega, rfl, fun j hj => ?_, ?_, ?_, ?_, ?_, ?_, ?_⟩
          · omega
          · by_cases hji : j = i
            · subst hji
              rw [List.getElem?_eq_getElem hlt2, List.getElem?_eq_getElem hlt]
              simpa using d3
            · exact hc j (by omega)
          all_goals simp -implicitDefEqProofs only [go_sem, r0, r3, r8, r36, r37, r38, w2]
      · have hge : i = w.length := by have := of_decide_eq_false e; omega
        subst hge
        have hdrop : st.drop (st.length - w.length) = w := by
          apply List.ext_getElem?
          intro j
          rw [List.getElem?_drop]
          by_cases hj : j < w.length
          · exact hc j hj
          · rw [List.getElem?_eq_none (by omega), List.getElem?_eq_none (by omega)]
        have hst : stepD st n = some (st.take (st.length - w.length) ++ [n.op == 2]) := by
          simp [stepD, hwd, d1, e2, hdrop]
        simp -implicitDefEqProofs only [go_sem, r0, r3, r8, r36, r37, r38]
        refine .calls (hm1 id _) [0, 1, 2, 3, 4, 5, 6, 7, 8, 9] (.hm1 hbid) (by kernel_rfl) rfl ?_
        simp -implicitDefEqProofs only [go_sem, r0, r3, r8, r36, r37, r38]
        refine hyb.cut (x := .i64) (st.length - w.length) (by simp -implicitDefEqProofs only [go_sem, r0, r3, r8]) rfl (by simp) u4 fun z hz => ?_
        rw [← List.map_take] at hz
        simp -implicitDefEqProofs only [go_sem, r0, r3, r8, r36, r37, r38, hm1_same]
        refine hz.app (zs := [.v (.bool (n.op == 2))]) (b_one _) (b_one [n.op == 2]) u4 (by rw [u4b]; decide) u4f u4n (fun k hk => hk) (by rw [u4b]; simp; omega) fun z' h2 hz' => ?_
        refine ⟨fun j b hj => ((Sub.hm1 (upd_same ..)).trans hz'.1) j b hj, ?_⟩
        simp -implicitDefEqProofs only [go_sem, r0, r3, r8]
        have hz2 := hz'.less (Sub.upd_new (hy.1.none hid))
        refine .same (.refl _) ⟨z', by rw [hst]; rfl, ?_⟩
        rw [hst]
        simp only [List.map_append]
        exact hz2
theorem condE_none {l : List NodeD} (h : l.length ≤ 32) (hs : stepsD [] l = none) : exprE l = 1 := by
  simp [exprE, hs, Nat.not_lt.2 h]
theorem stepsD_split (st : List Bool) : ∀ (l : List NodeD) (i : Nat), stepsD st l = (match stepsD st (l.take i) with
    | none => none
    | some st' => stepsD st' (l.drop i))
  | [], i => by simp [stepsD]
  | n :: r, 0 => by simp [stepsD]
  | n :: r, i + 1 => by
    simp only [List.take_succ_cons, List.drop_succ_cons, stepsD]
    cases stepD st n with
    | none => rfl
    | some st' => simp only; exact stepsD_split st' r i
theorem stepsD_length (st st' : List Bool) (l : List NodeD) (h : stepsD st l = some st') : st'.length ≤ st.length + l.length := by
  induction l generalizing st with
  | nil => simp only [stepsD, Option.some.injEq] at h; subst h; simp
  | cons n r ih =>
    simp only [stepsD] at h
    cases hs : stepD st n with
    | none => rw [hs] at h; cases h
    | some s2 =>
      rw [hs] at h
      have := ih s2 h
      unfold stepD at hs
      split at hs
      · cases hs
      · split at hs
        · cases hs
          simp at this ⊢
          omega
        · cases hs
theorem expr_ok (l : List NodeD) (h : Heap) : FnOK Tryd.prog 38 [condA l] h fun r h' => r = .v (.int .i64 (exprE l)) ∧ h' = h := by
  refine FnOK.body hU hm Tryd.func38 rfl (by kernel_rfl) 38 rfl [.tmp 2] rfl (Nat.le_of_ble_eq_true rfl) (fun hwf => ?_)
  cases d1 : decide (32 < (l.length : Int))
  case true =>
    have e1 : 32 < l.length := by have := of_decide_eq_true d1; omega
    simp -implicitDefEqProofs only [go_sem, condA, List.length_map, d1]
    exact .same (.refl _) ⟨by simp [exprE, e1, oneOr], rfl⟩
  have e1 : l.length ≤ 32 := by have := of_decide_eq_false d1; omega
  simp -implicitDefEqProofs only [go_sem, condA, List.length_map, d1]
  refine .intro (fun m ρ h' => ∃ (i : Nat) (y : AV) (st : List Bool), WrA 4 h h' y (st.map boolA) ∧ stepsD [] (l.take i) = some st ∧ i ≤ l.length ∧ m = l.length - i ∧
    lk ρ 0 = some (condA l) ∧ lk ρ 3 = some y ∧ lk ρ 10 = some (condA l) ∧ lk ρ 11 = some (.v (.int .i64 l.length)) ∧ lk ρ 12 = some (.v (.int .i64 i))) l.length ?_ ?_
  · refine ⟨0, _, [], .nil (.refl _), rfl, by omega, rfl, ?_, ?_, ?_, ?_, ?_⟩ <;> simp -implicitDefEqProofs only [go_sem, condA]
  · rintro m ρ h' ⟨i, y, st, hy, hst, hi, rfl, r0, r3, r10, r11, r12⟩
    have hsl := stepsD_length _ _ _ hst
    have hsl : st.length ≤ i := by simpa [Nat.min_eq_left hi] using hsl
    simp -implicitDefEqProofs only [go_sem, r0, r3, r10, r11, r12]
    refine .intro (fun e => ?_) (fun e => ?_)
    · have hlt : i < l.length := Int.ofNat_lt.1 (of_decide_eq_true e)
      have w1 : IntKind.i64.wrap ((i : Int) + 1) = ((i + 1 : Nat) : Int) := by rw [wr64 _ (by omega)]; omega
      have hnx : stepsD [] (l.take (i + 1)) = stepD st l[i] := by
        rw [stepsD_split [] _ i, List.take_take, Nat.min_eq_left (by omega), hst, List.take_succ_eq_append_getElem hlt, List.drop_append_of_le_length (by simp; omega), List.drop_of_length_le (by simp; omega)]
        simp only [List.nil_append, stepsD]
        cases stepD st l[i] <;> rfl
      simp -implicitDefEqProofs only [go_sem, r0, r3, r10, r11, r12, condA]
      refine .at i (by simpa using hlt) (by rw [List.getElem_map]; rfl) ?_
      simp -implicitDefEqProofs only [go_sem, r0, r3, r10, r11, r12, List.getElem_map, nodeA]
      intro id hid
      simp -implicitDefEqProofs only [go_sem, r0, r3, r10, r11, r12]
      have hyb := hy.sub (Sub.upd_new (k := some (.obj [.v (.int .i64 l[i].op), .v (.int .i64 l[i].val.kind), .v (.int .i64 l[i].val.n), .s l[i].val.s, .v (.int .i64 l[i].attr.cat), .s l[i].attr.name, .v (.bool l[i].attr.must)] 33)) hid)
      refine (step_ok y st l[i] h _ hyb (by omega)).mono fun r h2 ⟨z, e2, hz⟩ => ?_
      subst e2
      cases hsd : stepD st l[i] with
      | none =>
        rw [hsd] at hz
        simp -implicitDefEqProofs only [go_sem, r0, r3, r10, r11, r12, Option.isSome_none]
        refine .mk _ (.refl _) hz ⟨?_, rfl⟩
        rw [condE_none e1 (by rw [stepsD_split [] l (i + 1), hnx, hsd])]; rfl
      | some st' =>
        rw [hsd] at hz hnx
        simp -implicitDefEqProofs only [go_sem, r0, r3, r10, r11, r12, Option.isSome_some, w1]
        refine ⟨_, ?_, i + 1, z, st', hz, hnx, by omega, rfl, ?_, ?_, ?_, ?_, ?_⟩
        · omega
        all_goals simp -implicitDefEqProofs only [go_sem, r0, r3, r10, r11, r12, w1, condA]
    · have hge : i = l.length := by have := of_decide_eq_false e; omega
      subst hge
      rw [List.take_length] at hst
      have he : exprE l = if l = [] ∨ st = [false] then 0 else 1 := by
        simp only [exprE, hst]
        rw [if_neg (by omega)]
      cases d2 : decide (0 < (l.length : Int))
      · have e2 : l = [] := by have := of_decide_eq_false d2; exact List.length_eq_zero_iff.1 (by omega)
        simp -implicitDefEqProofs only [go_sem, r0, r3, r10, r11, r12, condA, List.length_map, d2]
        exact .mk _ (.refl _) hy.1 ⟨by rw [he, if_pos (.inl e2)]; rfl, rfl⟩
      have e2 : l ≠ [] := by rintro rfl; simp at d2
      cases d3 : ((st.length : Int) != 1)
      case true =>
        have e3 : st ≠ [false] := by rintro rfl; simp at d3
        simp -implicitDefEqProofs only [go_sem, r0, r3, r10, r11, r12, condA, List.length_map, d2, hy.len, d3]
        exact .mk _ (.refl _) hy.1 ⟨by rw [he, if_neg (by simp [e2, e3])]; rfl, rfl⟩
      have e3 : st.length = 1 := by
        have : (st.length : Int) = 1 := by simpa using d3
        omega
      obtain ⟨b, rfl⟩ := List.length_eq_one_iff.1 e3
      simp -implicitDefEqProofs only [go_sem, r0, r3, r10, r11, r12, condA, List.length_map, d2, hy.len, d3]
      refine hy.idx (b_one [b]) 0 rfl (by simp) u4 u4a fun p hp => ?_
      simp -implicitDefEqProofs only [go_sem, r0, r3, r10, r11, r12, hp _, List.getElem_map, boolA, List.getElem_cons_zero]
      cases b
      · simp -implicitDefEqProofs only [go_sem, r0, r3, r10, r11, r12]
        exact .mk _ (.refl _) hy.1 ⟨by rw [he, if_pos (.inr rfl)]; rfl, rfl⟩
      · simp -implicitDefEqProofs only [go_sem, r0, r3, r10, r11, r12]
        exact .mk _ (.refl _) hy.1 ⟨by rw [he, if_neg (by simp [e2])]; rfl, rfl⟩
end Go.Proofs.YtdcchpbncckhlaaDoor

set_option linter.unusedSimpArgs false
set_option linter.unusedVariables false
namespace Go.Proofs.YtdcchpbncckhlaaDoor
open Go Go.Ab Go.Bf
def Keeps (S : List Nat) (h h' : Heap) : Prop := ∀ j k, j ∉ S → h j = some k → h' j = some k
theorem Keeps.refl (S : List Nat) (h : Heap) : Keeps S h h := fun _ _ _ e => e
theorem Keeps.trans {S : List Nat} {a b c : Heap} (x : Keeps S a b) (y : Keeps S b c) : Keeps S a c := fun j k hj e => y j k hj (x j k hj e)
theorem Keeps.of {S : List Nat} {a b : Heap} (x : Ab.Sub a b) : Keeps S a b := fun j k _ e => x j k e
theorem Keeps.upd {S : List Nat} {a : Heap} {i : Nat} {b : Option Blk} (hi : i ∈ S) : Keeps S a (Ab.upd a i b) := fun j k hj e => by
  rw [upd_other _ _ (fun e => hj (by rw [e]; exact hi))]; exact e
def WalkAt (h : Heap) (idw mid : Nat) (m : MetD) : Prop := h idw = some (.obj [.mp mid, .v (.int .i64 m.rules)] 87) ∧ h mid = some (.mp (setA m.met)) ∧ (∀ l ∈ m.met, l.length ≤ 16) ∧ m.rules ≤ 64
theorem WalkAt.ne {h : Heap} {idw mid : Nat} {m : MetD} (hw : WalkAt h idw mid m) : idw ≠ mid := fun e => by
  have h1 := hw.1; have h2 := hw.2.1
  rw [e, h2] at h1; cases h1
theorem WalkAt.keep {h h' : Heap} {idw mid : Nat} {m : MetD} (hw : WalkAt h idw mid m) (hs : Ab.Sub h h') : WalkAt h' idw mid m := ⟨hs _ _ hw.1, hs _ _ hw.2.1, hw.2.2⟩
theorem u158 : (U 158).sz = 0 := by simp only [go_sem]
theorem nameOK_len {s : Txt} (h : nameOK s = true) : s.length ≤ 16 := by
  simp [nameOK] at h; exact h.2
theorem meetD_none {m : MetD} {s : Txt} (h : s ∈ m.met ∨ nameOK s = false) : meetD m s = none := by
  unfold meetD
  rw [if_neg]
  rintro ⟨h1, h2⟩
  rcases h with h | h
  · exact h1 h
  · rw [h] at h2; cases h2
theorem wname_ok (idw mid : Nat) (m : MetD) (s : Txt) (h : Heap) (hw : WalkAt h idw mid m) : FnOK Tryd.prog 99 [.ptr idw 0, .s s] h fun r h' => match meetD m s with
    | none => r = .v (.bool false) ∧ Ab.Sub h h'
    | some m' => r = .v (.bool true) ∧ Keeps [idw, mid] h h' ∧ WalkAt h' idw mid m' := by
  refine FnOK.body hU hm Tryd.func99 rfl (by kernel_rfl) 28 rfl [.tmp 4] rfl (Nat.le_of_ble_eq_true rfl) (fun hwf => ?_)
  obtain ⟨w1, w2, w3, w4⟩ := hw
  have hlen : s.length ≤ maxLen := by
    have := hwf (.s s) (by simp)
    simp only [wfA, wf1, lim] at this
    unfold maxLen; omega
  have hkeys : KeysA .str (setA m.met) := keysA_set fun l hl => by have := w3 l hl; unfold maxLen; omega
  simp -implicitDefEqProofs only [go_sem, w1, w2, u158]
  refine ⟨hlen, .inr (by simp only [go_sem]), hkeys, ?_⟩
  rw [lookM_set _ _ u158]
  simp -implicitDefEqProofs only [go_sem, w1, w2]
  intro idv hidv
  simp -implicitDefEqProofs only [go_sem]
  cases d1 : decide (s ∈ m.met)
  case true =>
    have hm := meetD_none (.inl (of_decide_eq_true d1))
    simp -implicitDefEqProofs only [go_sem, d1]
    rw [hm]
    exact .mk _ (.refl _) (.upd_new hidv) ⟨rfl, .refl _⟩
  have e1 := of_decide_eq_false d1
  simp -implicitDefEqProofs only [go_sem, d1]
  refine (name_ok _ _).pthen ?_
  cases d2 : nameOK s
  · have hm := meetD_none (m := m) (.inr d2)
    simp -implicitDefEqProofs only [go_sem, d1, d2]
    rw [hm]
    exact .mk _ (.refl _) (.upd_new hidv) ⟨rfl, .refl _⟩
  have hm : meetD m s = some ⟨m.met ++ [s], m.rules⟩ := by simp [meetD, e1, d2]
  have hne := WalkAt.ne ⟨w1, w2, w3, w4⟩
  have n1 : idw ≠ idv := fun e => by rw [e, hidv] at w1; cases w1
  have n2 : mid ≠ idv := fun e => by rw [e, hidv] at w2; cases w2
  have w1' : upd h idv (some (.obj [] 158)) idw = some (.obj [.mp mid, .v (.int .i64 m.rules)] 87) := by rw [upd_other _ _ n1]; exact w1
  have w2' : upd h idv (some (.obj [] 158)) mid = some (.mp (setA m.met)) := by rw [upd_other _ _ n2]; exact w2
  simp -implicitDefEqProofs only [go_sem, d1, d2, w1', w2']
  refine ⟨hlen, hkeys, ?_⟩
  rw [setM_new e1]
  rw [hm]
  refine .same (.refl _) ⟨rfl, (Keeps.of (.upd_new hidv)).trans (.upd (by simp)), ?_, ?_, ?_, w4⟩
  · rw [upd_other _ _ hne]; exact w1'
  · rw [upd_same]
  · intro l hl
    rcases List.mem_append.1 hl with hl | hl
    · exact w3 l hl
    · rw [List.mem_singleton.1 hl]; exact nameOK_len d2
theorem wrule_ok (idw mid : Nat) (m : MetD) (r : RuleD) (h : Heap) (hw : WalkAt h idw mid m) : FnOK Tryd.prog 77 [.ptr idw 0, ruleA r] h fun x h' => x = .v (.int .i64 (ruleW m r).err) ∧ Keeps [idw, mid] h h' ∧ ∀ m', ruleW m r = .ok m' → WalkAt h' idw mid m' := by
  refine FnOK.body hU hm Tryd.func77 rfl (by kernel_rfl) 39 rfl [.tmp 4] rfl (Nat.le_of_ble_eq_true rfl) (fun hwf => ?_)
  simp -implicitDefEqProofs only [go_sem, ruleA, tgtA, condA, oblsA]
  intro id hid
  have n1 : idw ≠ id := fun e => by have := hw.1; rw [e, hid] at this; cases this
  have n2 : mid ≠ id := fun e => by have := hw.2.1; rw [e, hid] at this; cases this
  have hwb := hw.keep (Sub.upd_new (k := some (.obj [.s r.id, .v (.bool r.deny), .sl (r.tgt.map anyA) .no, .sl (r.cond.map nodeA) .no, .sl (r.obls.map oblA) .no] 37)) hid)
  have hk0 : Keeps [idw, mid] h (upd h id (some (.obj [.s r.id, .v (.bool r.deny), .sl (r.tgt.map anyA) .no, .sl (r.cond.map nodeA) .no, .sl (r.obls.map oblA) .no] 37))) := .of (.upd_new hid)
  simp -implicitDefEqProofs only [go_sem]
  obtain ⟨hb, ehb⟩ : ∃ hb, upd h id (some (.obj [.s r.id, .v (.bool r.deny), .sl (r.tgt.map anyA) .no, .sl (r.cond.map nodeA) .no, .sl (r.obls.map oblA) .no] 37)) = hb := ⟨_, rfl⟩
  have hbid : hb id = some (.obj [.s r.id, .v (.bool r.deny), .sl (r.tgt.map anyA) .no, .sl (r.cond.map nodeA) .no, .sl (r.obls.map oblA) .no] 37) := by rw [← ehb]; exact upd_same ..
  rw [ehb] at hwb hk0 ⊢
  refine (wname_ok idw mid m r.id hb hwb).mono fun x h2 hx => ?_
  cases hm : meetD m r.id with
  | none =>
    rw [hm] at hx
    obtain ⟨rfl, hs⟩ := hx
    have hr : ruleW m r = .bad 1 := by simp [ruleW, hm]
    simp -implicitDefEqProofs only [go_sem]
    exact .same (.refl _) ⟨by rw [hr]; rfl, hk0.trans (.of hs), fun m' h' => by rw [hr] at h'; cases h'⟩
  | some m1 =>
    rw [hm] at hx
    obtain ⟨rfl, hk, hw2⟩ := hx
    have g2 := hw2.1
    have hle := hw2.2.2.2
    have hid2 : h2 id = some (.obj [.s r.id, .v (.bool r.deny), .sl (r.tgt.map anyA) .no, .sl (r.cond.map nodeA) .no, .sl (r.obls.map oblA) .no] 37) := hk id _ (by simp [n1.symm, n2.symm]) hbid
    have w1 : IntKind.i64.wrap ((m1.rules : Int) + 1) = ((m1.rules + 1 : Nat) : Int) := by rw [wr64 _ (by omega)]; omega
    have hk3 : Keeps [idw, mid] h (upd h2 idw (some (.obj [.mp mid, .v (.int .i64 ((m1.rules + 1 : Nat) : Int))] 87))) := (hk0.trans hk).trans (.upd (by simp))
    have hid3 : upd h2 idw (some (.obj [.mp mid, .v (.int .i64 ((m1.rules + 1 : Nat) : Int))] 87)) id = some (.obj [.s r.id, .v (.bool r.deny), .sl (r.tgt.map anyA) .no, .sl (r.cond.map nodeA) .no, .sl (r.obls.map oblA) .no] 37) := by
      rw [upd_other _ _ n1.symm]; exact hid2
    cases d1 : decide (64 < ((m1.rules + 1 : Nat) : Int))
    case true =>
      have e1 : m1.rules + 1 > 64 := by have := of_decide_eq_true d1; omega
      have hr : ruleW m r = .bad 6 := by simp [ruleW, hm, e1]
      simp -implicitDefEqProofs only [go_sem, g2, w1, d1]
      exact .same (.refl _) ⟨by rw [hr]; rfl, hk3, fun m' h' => by rw [hr] at h'; cases h'⟩
    have e1 : ¬ m1.rules + 1 > 64 := by have := of_decide_eq_false d1; omega
    have hr : ruleW m r = need (tgtE r.tgt) (need (exprE r.cond) (need (oblsE r.obls) (.ok ⟨m1.met, m1.rules + 1⟩))) := by simp [ruleW, hm, e1]
    simp -implicitDefEqProofs only [go_sem, g2, w1, d1, hid3]
    refine (target_ok r.tgt _).pthen ?_
    cases d2 : (tgtE r.tgt != 0)
    case true =>
      have e2 : tgtE r.tgt ≠ 0 := by simpa using d2
      have hr : ruleW m r = .bad (tgtE r.tgt) := by rw [hr]; simp [need, e2]
      simp -implicitDefEqProofs only [go_sem, d2]
      exact .same (.refl _) ⟨by rw [hr]; rfl, hk3, fun m' h' => by rw [hr] at h'; cases h'⟩
    have e2 : tgtE r.tgt = 0 := by simpa using d2
    rw [need, if_pos e2] at hr
    simp -implicitDefEqProofs only [go_sem, d2, hid3]
    refine (expr_ok r.cond _).pthen ?_
    cases d3 : (exprE r.cond != 0)
    case true =>
      have e3 : exprE r.cond ≠ 0 := by simpa using d3
      have hr : ruleW m r = .bad (exprE r.cond) := by rw [hr]; simp [need, e3]
      simp -implicitDefEqProofs only [go_sem, d3]
      exact .same (.refl _) ⟨by rw [hr]; rfl, hk3, fun m' h' => by rw [hr] at h'; cases h'⟩
    have e3 : exprE r.cond = 0 := by simpa using d3
    rw [need, if_pos e3] at hr
    simp -implicitDefEqProofs only [go_sem, d3, hid3]
    refine (obls_ok r.obls _).pthen ?_
    simp -implicitDefEqProofs only [go_sem]
    by_cases e4 : oblsE r.obls = 0
    · rw [need, if_pos e4] at hr
      refine .same (.refl _) ⟨by rw [hr, e4]; rfl, hk3, fun m' h' => ?_⟩
      rw [hr] at h'
      cases h'
      refine ⟨upd_same .., ?_, hw2.2.2.1, by show m1.rules + 1 ≤ 64; omega⟩
      rw [upd_other _ _ hw2.ne.symm]; exact hw2.2.1
    · rw [need, if_neg e4] at hr
      exact .same (.refl _) ⟨by rw [hr]; rfl, hk3, fun m' h' => by rw [hr] at h'; cases h'⟩
end Go.Proofs.YtdcchpbncckhlaaDoor

set_option linter.unusedSimpArgs false
set_option linter.unusedVariables false
namespace Go.Proofs.YtdcchpbncckhlaaDoor
open Go Go.Ab Go.Bf
theorem headW_none {m : MetD} {id : Txt} {set : Bool} {alg : Int} {tgt : TgtD} {nr nk : Nat} {obls : List OblD} (h : meetD m id = none) : headW m id set alg tgt nr nk obls = .bad 1 := by
  simp [headW, h]
theorem whead_ok (idw mid : Nat) (m : MetD) (id : Txt) (set : Bool) (alg : Int) (tgt : TgtD) (rules : List RuleD) (kids : List PolD) (obls : List OblD) (h : Heap) (hw : WalkAt h idw mid m) :
    FnOK Tryd.prog 76 [.ptr idw 0, polA (.mk id set alg tgt rules kids obls)] h fun x h' => x = .v (.int .i64 (headW m id set alg tgt rules.length kids.length obls).err) ∧ Keeps [idw, mid] h h' ∧ ∀ m', headW m id set alg tgt rules.length kids.length obls = .ok m' → WalkAt h' idw mid m' := by
  refine FnOK.body hU hm Tryd.func76 rfl (by kernel_rfl) 68 rfl [.tmp 4] rfl (Nat.le_of_ble_eq_true rfl) (fun hwf => ?_)
  simp -implicitDefEqProofs only [go_sem, polA, tgtA, oblsA]
  intro ip hip
  have n1 : idw ≠ ip := fun e => by have := hw.1; rw [e, hip] at this; cases this
  have n2 : mid ≠ ip := fun e => by have := hw.2.1; rw [e, hip] at this; cases this
  have hwb := hw.keep (Sub.upd_new (k := some (.obj [.s id, .v (.bool set), .v (.int .i64 alg), .sl (tgt.map anyA) .no, .sl (rules.map ruleA) .no, .sl (kidsA kids) .no, .sl (obls.map oblA) .no] 43)) hip)
  have hk0 : Keeps [idw, mid] h (upd h ip (some (.obj [.s id, .v (.bool set), .v (.int .i64 alg), .sl (tgt.map anyA) .no, .sl (rules.map ruleA) .no, .sl (kidsA kids) .no, .sl (obls.map oblA) .no] 43))) := .of (.upd_new hip)
  simp -implicitDefEqProofs only [go_sem]
  obtain ⟨hb, ehb⟩ : ∃ hb, upd h ip (some (.obj [.s id, .v (.bool set), .v (.int .i64 alg), .sl (tgt.map anyA) .no, .sl (rules.map ruleA) .no, .sl (kidsA kids) .no, .sl (obls.map oblA) .no] 43)) = hb := ⟨_, rfl⟩
  have hbip : hb ip = some (.obj [.s id, .v (.bool set), .v (.int .i64 alg), .sl (tgt.map anyA) .no, .sl (rules.map ruleA) .no, .sl (kidsA kids) .no, .sl (obls.map oblA) .no] 43) := by rw [← ehb]; exact upd_same ..
  rw [ehb] at hwb hk0 ⊢
  refine (wname_ok idw mid m id hb hwb).mono fun x h2 hx => ?_
  cases hm : meetD m id with
  | none =>
    rw [hm] at hx
    obtain ⟨rfl, hs⟩ := hx
    simp -implicitDefEqProofs only [go_sem]
    exact .same (.refl _) ⟨by rw [headW_none hm]; rfl, hk0.trans (.of hs), fun m' h' => by rw [headW_none hm] at h'; cases h'⟩
  | some m1 =>
    rw [hm] at hx
    obtain ⟨rfl, hk, hw2⟩ := hx
    have hip2 : h2 ip = some (.obj [.s id, .v (.bool set), .v (.int .i64 alg), .sl (tgt.map anyA) .no, .sl (rules.map ruleA) .no, .sl (kidsA kids) .no, .sl (obls.map oblA) .no] 43) := hk ip _ (by simp [n1.symm, n2.symm]) hbip
    have hkk := hk0.trans hk
    have bad : ∀ e, headW m id set alg tgt rules.length kids.length obls = .bad e → (.v (.int .i64 e) : AV) = .v (.int .i64 (headW m id set alg tgt rules.length kids.length obls).err) ∧ Keeps [idw, mid] h h2 ∧ ∀ m', headW m id set alg tgt rules.length kids.length obls = .ok m' → WalkAt h2 idw mid m' :=
      fun e he => ⟨by rw [he]; rfl, hkk, fun m' h' => by rw [he] at h'; cases h'⟩
    cases d1 : decide (alg < 1)
    case true =>
      have e1 := of_decide_eq_true d1
      simp -implicitDefEqProofs only [go_sem, d1, hip2]
      exact .same (.refl _) (bad 1 (by simp [headW, hm, e1]))
    cases d2 : decide (6 < alg)
    case true =>
      have e2 := of_decide_eq_true d2
      simp -implicitDefEqProofs only [go_sem, d1, d2, hip2]
      exact .same (.refl _) (bad 1 (by simp [headW, hm, e2]))
    have e1 : ¬ (alg < 1 ∨ alg > 6) := by have := of_decide_eq_false d1; have := of_decide_eq_false d2; omega
    have tail : ∀ (z : Unit), ¬ (set = true ∧ rules.length > 0 ∨ set = false ∧ (kids.length > 0 ∨ alg = 4)) → headW m id set alg tgt rules.length kids.length obls = need (tgtE tgt) (need (oblsE obls) (if rules.length > 16 ∨ kids.length > 16 then .bad 6 else .ok m1)) := fun _ hh => by
      simp only [headW, hm]
      rw [if_neg e1, if_neg hh]
    cases set
    · cases d4 : decide (0 < (kids.length : Int))
      case true =>
        have f4 : 0 < kids.length := by have := of_decide_eq_true d4; omega
        simp -implicitDefEqProofs only [go_sem, d1, d2, hip2, kidsA_eq, List.length_map, d4]
        exact .same (.refl _) (bad 1 (by simp [headW, hm, e1, f4]))
      have g4 : ¬ 0 < kids.length := by have := of_decide_eq_false d4; omega
      cases d5 : (alg == 4)
      case true =>
        have f5 : alg = 4 := by simpa using d5
        simp -implicitDefEqProofs only [go_sem, d1, d2, hip2, kidsA_eq, List.length_map, d4, d5]
        exact .same (.refl _) (bad 1 (by simp [headW, hm, f5]))
      have g5 : alg ≠ 4 := by simpa using d5
      simp -implicitDefEqProofs only [go_sem, d1, d2, hip2, kidsA_eq, List.length_map, d4, d5]
      have e3 := tail () (by simp [g4, g5])
      refine (target_ok tgt _).pthen ?_
      cases t1 : (tgtE tgt != 0)
      case true =>
        have f1 : tgtE tgt ≠ 0 := by simpa using t1
        simp -implicitDefEqProofs only [go_sem, t1]
        exact .same (.refl _) (bad _ (by rw [e3]; simp [need, f1]))
      have f1 : tgtE tgt = 0 := by simpa using t1
      simp -implicitDefEqProofs only [go_sem, t1, hip2]
      refine (obls_ok obls _).pthen ?_
      cases t2 : (oblsE obls != 0)
      case true =>
        have f2 : oblsE obls ≠ 0 := by simpa using t2
        simp -implicitDefEqProofs only [go_sem, t2]
        exact .same (.refl _) (bad _ (by rw [e3]; simp [need, f1, f2]))
      have f2 : oblsE obls = 0 := by simpa using t2
      cases t3 : decide (16 < (rules.length : Int))
      case true =>
        have f3 : 16 < rules.length := by have := of_decide_eq_true t3; omega
        simp -implicitDefEqProofs only [go_sem, t2, hip2, List.length_map, t3]
        exact .same (.refl _) (bad _ (by rw [e3]; simp [need, f1, f2, f3]))
      have f3 : ¬ 16 < rules.length := by have := of_decide_eq_false t3; omega
      cases t4 : decide (16 < (kids.length : Int))
      case true =>
        have f4 : 16 < kids.length := by have := of_decide_eq_true t4; omega
        simp -implicitDefEqProofs only [go_sem, t2, hip2, List.length_map, t3, kidsA_eq, t4]
        exact .same (.refl _) (bad _ (by rw [e3]; simp [need, f1, f2, f4]))
      have f4 : ¬ 16 < kids.length := by have := of_decide_eq_false t4; omega
      simp -implicitDefEqProofs only [go_sem, t2, hip2, List.length_map, t3, kidsA_eq, t4]
      have e4 : headW m id false alg tgt rules.length kids.length obls = .ok m1 := by rw [e3]; simp [need, f1, f2, f3, f4]
      exact .same (.refl _) ⟨by rw [e4]; rfl, hkk, fun m' h' => by rw [e4] at h'; cases h'; exact hw2⟩
    · cases d3 : decide (0 < (rules.length : Int))
      case true =>
        have f3 : 0 < rules.length := by have := of_decide_eq_true d3; omega
        simp -implicitDefEqProofs only [go_sem, d1, d2, hip2, List.length_map, d3]
        exact .same (.refl _) (bad 1 (by simp [headW, hm, e1, f3]))
      have g3 : ¬ 0 < rules.length := by have := of_decide_eq_false d3; omega
      simp -implicitDefEqProofs only [go_sem, d1, d2, hip2, List.length_map, d3]
      have e3 := tail () (by simp [g3])
      refine (target_ok tgt _).pthen ?_
      cases t1 : (tgtE tgt != 0)
      case true =>
        have f1 : tgtE tgt ≠ 0 := by simpa using t1
        simp -implicitDefEqProofs only [go_sem, t1]
        exact .same (.refl _) (bad _ (by rw [e3]; simp [need, f1]))
      have f1 : tgtE tgt = 0 := by simpa using t1
      simp -implicitDefEqProofs only [go_sem, t1, hip2]
      refine (obls_ok obls _).pthen ?_
      cases t2 : (oblsE obls != 0)
      case true =>
        have f2 : oblsE obls ≠ 0 := by simpa using t2
        simp -implicitDefEqProofs only [go_sem, t2]
        exact .same (.refl _) (bad _ (by rw [e3]; simp [need, f1, f2]))
      have f2 : oblsE obls = 0 := by simpa using t2
      cases t3 : decide (16 < (rules.length : Int))
      case true =>
        have f3 : 16 < rules.length := by have := of_decide_eq_true t3; omega
        simp -implicitDefEqProofs only [go_sem, t2, hip2, List.length_map, t3]
        exact .same (.refl _) (bad _ (by rw [e3]; simp [need, f1, f2, f3]))
      have f3 : ¬ 16 < rules.length := by have := of_decide_eq_false t3; omega
      cases t4 : decide (16 < (kids.length : Int))
      case true =>
        have f4 : 16 < kids.length := by have := of_decide_eq_true t4; omega
        simp -implicitDefEqProofs only [go_sem, t2, hip2, List.length_map, t3, kidsA_eq, t4]
        exact .same (.refl _) (bad _ (by rw [e3]; simp [need, f1, f2, f4]))
      have f4 : ¬ 16 < kids.length := by have := of_decide_eq_false t4; omega
      simp -implicitDefEqProofs only [go_sem, t2, hip2, List.length_map, t3, kidsA_eq, t4]
      have e4 : headW m id true alg tgt rules.length kids.length obls = .ok m1 := by rw [e3]; simp [need, f1, f2, f3, f4]
      exact .same (.refl _) ⟨by rw [e4]; rfl, hkk, fun m' h' => by rw [e4] at h'; cases h'; exact hw2⟩
end Go.Proofs.YtdcchpbncckhlaaDoor

set_option linter.unusedSimpArgs false
set_option linter.unusedVariables false
namespace Go.Proofs.YtdcchpbncckhlaaDoor
open Go Go.Ab Go.Bf
theorem polA_len (k : PolD) : (polA k).cells.length = 7 := by
  cases k; simp [polA, AV.cells]
theorem polW_deep {m : MetD} {d : Nat} {p : PolD} (h : 4 < d) : polW m d p = .bad 6 := by
  cases p; simp [polW, h]
theorem polW_head {m : MetD} {d : Nat} {id : Txt} {set : Bool} {alg : Int} {tgt : TgtD} {rules : List RuleD} {kids : List PolD} {obls : List OblD} {e : Int} (h : ¬ 4 < d)
    (hh : headW m id set alg tgt rules.length kids.length obls = .bad e) : polW m d (.mk id set alg tgt rules kids obls) = .bad e := by
  simp [polW, h, hh]
theorem polW_rules {m m1 : MetD} {d : Nat} {id : Txt} {set : Bool} {alg : Int} {tgt : TgtD} {rules : List RuleD} {kids : List PolD} {obls : List OblD} {e : Int} (h : ¬ 4 < d)
    (hh : headW m id set alg tgt rules.length kids.length obls = .ok m1) (hr : rulesW m1 rules = .bad e) : polW m d (.mk id set alg tgt rules kids obls) = .bad e := by
  simp [polW, h, hh, hr]
theorem polW_kids {m m1 m2 : MetD} {d : Nat} {id : Txt} {set : Bool} {alg : Int} {tgt : TgtD} {rules : List RuleD} {kids : List PolD} {obls : List OblD} (h : ¬ 4 < d)
    (hh : headW m id set alg tgt rules.length kids.length obls = .ok m1) (hr : rulesW m1 rules = .ok m2) : polW m d (.mk id set alg tgt rules kids obls) = kidsW m2 (d + 1) kids := by
  simp [polW, h, hh, hr]
theorem polW_bad : ∀ (n d : Nat) (m : MetD) (p : PolD) (e : Int), d + n = 5 → polW m d p = .bad e → e ≠ 0
  | 0, d, m, p, e, hd, h => by rw [polW_deep (by omega)] at h; cases h; decide
  | n + 1, d, m, .mk id set alg tgt rules kids obls, e, hd, h => by
    by_cases h4 : 4 < d
    · rw [polW_deep h4] at h; cases h; decide
    cases hh : headW m id set alg tgt rules.length kids.length obls with
    | bad e' => rw [polW_head h4 hh] at h; cases h; exact headW_bad hh
    | ok m1 =>
      cases hr : rulesW m1 rules with
      | bad e' =>
        rw [polW_rules h4 hh hr] at h; cases h
        clear hh hd
        induction rules generalizing m1 with
        | nil => cases hr
        | cons r l ih =>
          simp only [rulesW] at hr
          cases hx : ruleW m1 r with
          | bad x => rw [hx] at hr; cases hr; exact ruleW_bad hx
          | ok m2 => rw [hx] at hr; exact ih m2 hr
      | ok m2 =>
        rw [polW_kids h4 hh hr] at h
        have ih := fun m p e => polW_bad n (d + 1) m p e (by omega)
        clear hh hr
        induction kids generalizing m2 with
        | nil => cases h
        | cons k l ihk =>
          simp only [kidsW] at h
          cases hx : polW m2 (d + 1) k with
          | bad x => rw [hx] at h; cases h; exact ih _ _ _ hx
          | ok m3 => rw [hx] at h; exact ihk m3 h
theorem need_ok {e : Int} {w : Went} {m : MetD} (h : need e w = .ok m) : e = 0 ∧ w = .ok m := by
  unfold need at h
  split at h
  · exact ⟨by assumption, h⟩
  · cases h
theorem headW_ok {m m1 : MetD} {id : Txt} {set : Bool} {alg : Int} {tgt : TgtD} {nr nk : Nat} {obls : List OblD} (h : headW m id set alg tgt nr nk obls = .ok m1) :
    meetD m id = some m1 ∧ 1 ≤ alg ∧ alg ≤ 6 ∧ (set = true → nr = 0) ∧ (set = false → nk = 0 ∧ alg ≠ 4) ∧ tgtE tgt = 0 ∧ oblsE obls = 0 ∧ nr ≤ 16 ∧ nk ≤ 16 := by
  unfold headW at h
  split at h
  · cases h
  rename_i m2 hm
  split at h
  · cases h
  split at h
  · cases h
  rename_i h1 h2
  obtain ⟨h3, h⟩ := need_ok h
  obtain ⟨h4, h⟩ := need_ok h
  split at h
  · cases h
  cases h
  have h5 : (set = true → nr = 0) ∧ (set = false → nk = 0 ∧ alg ≠ 4) := by
    cases set <;> simp at h2 ⊢ <;> omega
  exact ⟨hm, by omega, by omega, h5.1, h5.2, h3, h4, by omega, by omega⟩
theorem wpol_ok : ∀ (n d : Nat), d + n = 5 → ∀ (idw mid : Nat) (m : MetD) (p : PolD) (h : Heap), WalkAt h idw mid m →
    FnOK Tryd.prog 47 [.ptr idw 0, polA p, .v (.int .i64 d)] h fun x h' => x = .v (.int .i64 (polW m d p).err) ∧ Keeps [idw, mid] h h' ∧ ∀ m', polW m d p = .ok m' → WalkAt h' idw mid m'
  | n, d, hd, idw, mid, m, .mk id set alg tgt rules kids obls, h, hw => by
    refine FnOK.body hU hm Tryd.func47 rfl (by kernel_rfl) 52 rfl [.tmp 6] rfl (Nat.le_of_ble_eq_true rfl) (fun hwf => ?_)
    simp -implicitDefEqProofs only [go_sem, polA, tgtA, oblsA]
    intro ip hip
    have n1 : idw ≠ ip := fun e => by have := hw.1; rw [e, hip] at this; cases this
    have n2 : mid ≠ ip := fun e => by have := hw.2.1; rw [e, hip] at this; cases this
    have hwb := hw.keep (Sub.upd_new (k := some (.obj [.s id, .v (.bool set), .v (.int .i64 alg), .sl (tgt.map anyA) .no, .sl (rules.map ruleA) .no, .sl (kidsA kids) .no, .sl (obls.map oblA) .no] 43)) hip)
    have hk0 : Keeps [idw, mid] h (upd h ip (some (.obj [.s id, .v (.bool set), .v (.int .i64 alg), .sl (tgt.map anyA) .no, .sl (rules.map ruleA) .no, .sl (kidsA kids) .no, .sl (obls.map oblA) .no] 43))) := .of (.upd_new hip)
    obtain ⟨hb, ehb⟩ : ∃ hb, upd h ip (some (.obj [.s id, .v (.bool set), .v (.int .i64 alg), .sl (tgt.map anyA) .no, .sl (rules.map ruleA) .no, .sl (kidsA kids) .no, .sl (obls.map oblA) .no] 43)) = hb := ⟨_, rfl⟩
    have hbip : hb ip = some (.obj [.s id, .v (.bool set), .v (.int .i64 alg), .sl (tgt.map anyA) .no, .sl (rules.map ruleA) .no, .sl (kidsA kids) .no, .sl (obls.map oblA) .no] 43) := by rw [← ehb]; exact upd_same ..
    rw [ehb] at hwb hk0 ⊢
    cases d0 : decide (4 < (d : Int))
    case true =>
      have e0 : 4 < d := by have := of_decide_eq_true d0; omega
      simp -implicitDefEqProofs only [go_sem, d0]
      exact .same (.refl _) ⟨by rw [polW_deep e0]; rfl, hk0, fun m' h' => by rw [polW_deep e0] at h'; cases h'⟩
    have e0 : ¬ 4 < d := by have := of_decide_eq_false d0; omega
    simp -implicitDefEqProofs only [go_sem, d0, hbip]
    have hhead := whead_ok idw mid m id set alg tgt rules kids obls hb hwb
    simp only [polA, tgtA, oblsA] at hhead
    refine hhead.mono fun x h2 ⟨ex, hk, hw2⟩ => ?_
    subst ex
    have hk2 := hk0.trans hk
    cases hh : headW m id set alg tgt rules.length kids.length obls with
    | bad e =>
      have hne := headW_bad hh
      have t1 : (e != 0) = true := by simpa using hne
      simp -implicitDefEqProofs only [go_sem, Went.err, t1]
      exact .same (.refl _) ⟨by rw [polW_head e0 hh]; rfl, hk2, fun m' h' => by rw [polW_head e0 hh] at h'; cases h'⟩
    | ok m1 =>
      have hw2 := hw2 _ hh
      have hle := (headW_ok hh).2.2.2.2.2.2.2
      have hip2 := hk ip _ (by simp [n1.symm, n2.symm]) hbip
      simp -implicitDefEqProofs only [go_sem, Went.err, hip2, List.length_map]
      refine .intro (fun k ρ h' => ∃ (i : Nat) (mi : MetD), i ≤ rules.length ∧ k = rules.length - i ∧ rulesW m1 (rules.take i) = .ok mi ∧ Keeps [idw, mid] h h' ∧ WalkAt h' idw mid mi ∧
        h' ip = some (.obj [.s id, .v (.bool set), .v (.int .i64 alg), .sl (tgt.map anyA) .no, .sl (rules.map ruleA) .no, .sl (kidsA kids) .no, .sl (obls.map oblA) .no] 43) ∧
        lk ρ 0 = some (.ptr idw 0) ∧ lk ρ 2 = some (.v (.int .i64 d)) ∧ lk ρ 4 = some (.ptr ip 0) ∧ lk ρ 23 = some (.sl (rules.map ruleA) .no) ∧ lk ρ 24 = some (.v (.int .i64 rules.length)) ∧ lk ρ 25 = some (.v (.int .i64 i))) rules.length ?_ ?_
      · refine ⟨0, m1, by omega, rfl, rfl, hk2, hw2, hip2, ?_, ?_, ?_, ?_, ?_, ?_⟩ <;> simp -implicitDefEqProofs only [go_sem]
      · rintro k ρ h' ⟨i, mi, hi, rfl, hri, hki, hwi, hipi, r0, r2, r4, r23, r24, r25⟩
        simp -implicitDefEqProofs only [go_sem, r0, r2, r4, r23, r24, r25]
        refine .intro (fun e => ?_) (fun e => ?_)
        · have hlt : i < rules.length := Int.ofNat_lt.1 (of_decide_eq_true e)
          have w1 : IntKind.i64.wrap ((i : Int) + 1) = ((i + 1 : Nat) : Int) := by rw [wr64 _ (by omega)]; omega
          simp -implicitDefEqProofs only [go_sem, r0, r2, r4, r23, r24, r25]
          refine .at i (by simpa using hlt) (by rw [List.getElem_map]; rfl) ?_
          simp -implicitDefEqProofs only [go_sem, r0, r2, r4, r23, r24, r25, List.getElem_map, ruleA]
          intro ir hir
          have hrl := wrule_ok idw mid mi rules[i] _ (hwi.keep (Sub.upd_new (k := some (.obj [.s rules[i].id, .v (.bool rules[i].deny), tgtA rules[i].tgt, condA rules[i].cond, oblsA rules[i].obls] 37)) hir))
          simp only [ruleA] at hrl
          simp -implicitDefEqProofs only [go_sem, r0, r2, r4, r23, r24, r25]
          refine hrl.mono fun x h3 ⟨ex, hk3, hw3⟩ => ?_
          subst ex
          have hk4 := (hki.trans (.of (Sub.upd_new hir))).trans hk3
          have hip3 := hk3 ip _ (by simp [n1.symm, n2.symm]) ((Sub.upd_new hir) _ _ hipi)
          cases hx : ruleW mi rules[i] with
          | bad x =>
            have t1 : (x != 0) = true := by simpa using ruleW_bad hx
            simp -implicitDefEqProofs only [go_sem, r0, r2, r4, r23, r24, r25, Went.err, t1]
            have hp := polW_rules (d := d) (kids := kids) e0 hh (rulesW_stop hlt hri hx)
            exact .same (.refl _) ⟨by rw [hp]; rfl, hk4, fun m' h' => by rw [hp] at h'; cases h'⟩
          | ok m3 =>
            simp -implicitDefEqProofs only [go_sem, r0, r2, r4, r23, r24, r25, Went.err, w1]
            refine ⟨_, ?_, i + 1, m3, by omega, rfl, by rw [rulesW_next hlt hri, hx], hk4, hw3 _ hx, hip3, ?_, ?_, ?_, ?_, ?_, ?_⟩
            · omega
            all_goals simp -implicitDefEqProofs only [go_sem, r0, r2, r4, r23, r24, r25, w1]
        · have hge : i = rules.length := by have := of_decide_eq_false e; omega
          subst hge
          rw [List.take_length] at hri
          have hpk := polW_kids (d := d) (kids := kids) e0 hh hri
          simp -implicitDefEqProofs only [go_sem, r0, r2, r4, r23, r24, r25, hipi, kidsA_eq, List.length_map]
          refine .intro (fun k ρ h' => ∃ (i : Nat) (mj : MetD), i ≤ kids.length ∧ k = kids.length - i ∧ kidsW mi (d + 1) (kids.take i) = .ok mj ∧ Keeps [idw, mid] h h' ∧ WalkAt h' idw mid mj ∧
            lk ρ 0 = some (.ptr idw 0) ∧ lk ρ 2 = some (.v (.int .i64 d)) ∧ lk ρ 37 = some (.sl (kids.map polA) .no) ∧ lk ρ 38 = some (.v (.int .i64 kids.length)) ∧ lk ρ 39 = some (.v (.int .i64 i))) kids.length ?_ ?_
          · refine ⟨0, mi, by omega, rfl, rfl, hki, hwi, ?_, ?_, ?_, ?_, ?_⟩ <;> simp -implicitDefEqProofs only [go_sem, r0, r2, r4]
          · rintro k ρ h' ⟨i, mj, hi, rfl, hkj, hki, hwi, r0, r2, r37, r38, r39⟩
            simp -implicitDefEqProofs only [go_sem, r0, r2, r37, r38, r39]
            refine .intro (fun e => ?_) (fun e => ?_)
            · have hlt : i < kids.length := Int.ofNat_lt.1 (of_decide_eq_true e)
              have w1 : IntKind.i64.wrap ((i : Int) + 1) = ((i + 1 : Nat) : Int) := by rw [wr64 _ (by omega)]; omega
              have w2 : IntKind.i64.wrap ((d : Int) + 1) = ((d + 1 : Nat) : Int) := by rw [wr64 _ (by omega)]; omega
              obtain ⟨n', rfl⟩ : ∃ n', n = n' + 1 := ⟨n - 1, by omega⟩
              have hrec := wpol_ok n' (d + 1) (by omega) idw mid mj kids[i]
              cases hki' : kids[i] with
              | mk kid kset kalg ktgt krules kkids kobls =>
              rw [hki'] at hrec
              simp only [polA, tgtA, oblsA] at hrec
              simp -implicitDefEqProofs only [go_sem, r0, r2, r37, r38, r39]
              refine .at i (by simpa using hlt) (by rw [List.getElem_map]; exact polA_len _) ?_
              simp -implicitDefEqProofs only [go_sem, r0, r2, r37, r38, r39, List.getElem_map, hki', polA, tgtA, oblsA]
              intro ir hir
              simp -implicitDefEqProofs only [go_sem, r0, r2, r37, r38, r39, w2]
              refine (hrec _ (hwi.keep (Sub.upd_new hir))).mono fun x h3 ⟨ex, hk3, hw3⟩ => ?_
              subst ex
              have hk4 := (hki.trans (.of (Sub.upd_new hir))).trans hk3
              cases hx : polW mj (d + 1) (.mk kid kset kalg ktgt krules kkids kobls) with
              | bad x =>
                have t1 : (x != 0) = true := by simpa using polW_bad n' (d + 1) _ _ _ (by omega) hx
                simp -implicitDefEqProofs only [go_sem, r0, r2, r37, r38, r39, Went.err, t1]
                have hp := kidsW_stop hlt hkj (by rw [hki']; exact hx)
                exact .same (.refl _) ⟨by rw [hpk, hp]; rfl, hk4, fun m' h' => by rw [hpk, hp] at h'; cases h'⟩
              | ok m3 =>
                simp -implicitDefEqProofs only [go_sem, r0, r2, r37, r38, r39, Went.err, w1]
                refine ⟨_, ?_, i + 1, m3, by omega, rfl, by rw [kidsW_next hlt hkj, hki', hx], hk4, hw3 _ hx, ?_, ?_, ?_, ?_, ?_⟩
                · omega
                all_goals simp -implicitDefEqProofs only [go_sem, r0, r2, r37, r38, r39, w1]
            · have hge : i = kids.length := by have := of_decide_eq_false e; omega
              subst hge
              rw [List.take_length] at hkj
              simp -implicitDefEqProofs only [go_sem, r0, r2, r37, r38, r39]
              exact .same (.refl _) ⟨by rw [hpk, hkj]; rfl, hki, fun m' h' => by rw [hpk, hkj] at h'; cases h'; exact hwi⟩
theorem ne_new {h : Heap} {i j : Nat} {b : Blk} (e : upd h i (some b) j = none) : j ≠ i := fun hh => by
  subst hh; rw [upd_same] at e; cases e
theorem right_ok (p : PolD) (h : Heap) : FnOK Tryd.prog 24 [polA p] h fun r h' => r = .v (.int .i64 (rightE p)) ∧ h' = h := by
  cases p with
  | mk id set alg tgt rules kids obls =>
  refine FnOK.body hU hm Tryd.func24 rfl (by kernel_rfl) 10 rfl [.tmp 2] rfl (Nat.le_of_ble_eq_true rfl) (fun hwf => ?_)
  simp -implicitDefEqProofs only [go_sem, polA, tgtA, oblsA]
  intro ip hip
  simp -implicitDefEqProofs only [go_sem]
  intro im him
  simp -implicitDefEqProofs only [go_sem]
  intro iw hiw
  have n1 := ne_new him
  have n2 := ne_new hiw
  have hiw1 := hiw
  rw [upd_other _ _ n2] at hiw1
  have n3 := ne_new hiw1
  have s1 : Ab.Sub h (upd (upd (upd h ip (some (.obj [.s id, .v (.bool set), .v (.int .i64 alg), .sl (tgt.map anyA) .no, .sl (rules.map ruleA) .no, .sl (kidsA kids) .no, .sl (obls.map oblA) .no] 43))) im (some (.mp []))) iw (some (.obj [.mp im, .v (.int .i64 0)] 87))) :=
    ((Sub.upd_new hip).trans (.upd_new him)).trans (.upd_new hiw)
  obtain ⟨h3, e3⟩ : ∃ h3, upd (upd (upd h ip (some (.obj [.s id, .v (.bool set), .v (.int .i64 alg), .sl (tgt.map anyA) .no, .sl (rules.map ruleA) .no, .sl (kidsA kids) .no, .sl (obls.map oblA) .no] 43))) im (some (.mp []))) iw (some (.obj [.mp im, .v (.int .i64 0)] 87)) = h3 := ⟨_, rfl⟩
  have g1 : h3 ip = some (.obj [.s id, .v (.bool set), .v (.int .i64 alg), .sl (tgt.map anyA) .no, .sl (rules.map ruleA) .no, .sl (kidsA kids) .no, .sl (obls.map oblA) .no] 43) := by
    rw [← e3, upd_other _ _ n3.symm, upd_other _ _ n1.symm, upd_same]
  have g2 : WalkAt h3 iw im ⟨[], 0⟩ := by
    refine ⟨by rw [← e3, upd_same]; rfl, by rw [← e3, upd_other _ _ n2.symm, upd_same]; rfl, fun l hl => (by cases hl), by decide⟩
  have hi0 : h im = none := by rw [upd_other _ _ n1] at him; exact him
  have hw0 : h iw = none := by rw [upd_other _ _ n3] at hiw1; exact hiw1
  simp -implicitDefEqProofs only [go_sem]
  rw [e3] at s1 ⊢
  simp -implicitDefEqProofs only [go_sem, g1]
  have hp := wpol_ok 4 1 rfl iw im ⟨[], 0⟩ (.mk id set alg tgt rules kids obls) h3 g2
  simp only [polA, tgtA, oblsA, Int.ofNat_one, Int.cast_ofNat_Int] at hp
  refine hp.mono fun x h4 ⟨ex, hk, _⟩ => ?_
  subst ex
  simp -implicitDefEqProofs only [go_sem]
  refine .mk _ (.refl _) (fun j k hj => ?_) ⟨rfl, rfl⟩
  refine hk j k ?_ (s1 _ _ hj)
  simp only [List.mem_cons, List.not_mem_nil, or_false, not_or]
  exact ⟨fun e => (by rw [e, hw0] at hj; cases hj), fun e => (by rw [e, hi0] at hj; cases hj)⟩
end Go.Proofs.YtdcchpbncckhlaaDoor

set_option linter.unusedSimpArgs false
set_option linter.unusedVariables false
namespace Go.Proofs.YtdcchpbncckhlaaDoor
open Go Go.Ab Go.Bf
def parsedA (x : PolD × Int × Int) : AV := .tup [polA x.1, .v (.int .i64 x.2.1), .v (.int .i64 x.2.2)]
theorem weak_flat3 (a b c : AV) (h : Weak a b) (d : AV) : Weak (.tup [a, c, d]) (.tup [b, c, d]) := .tup _ _ rfl fun i h1 h2 => by
  rcases i with _ | _ | _ | i
  · exact h
  · exact .refl _
  · exact .refl _
  · simp at h1; omega
set_option maxRecDepth 20000 in
theorem parse_ok (s : Txt) (h : Heap) (he : ErrT h) : FnOK Tryd.prog 26 [.s s] h fun r h' => r = parsedA (parseD s) ∧ h' = h := by
  refine FnOK.body hU hm Tryd.func26 rfl (by kernel_rfl) 61 rfl [.cell 2 43, .tmp 3, .tmp 4] rfl (Nat.le_of_ble_eq_true rfl) (fun hwf => ?_)
  simp -implicitDefEqProofs only [go_sem]
  intro i2 hi2
  simp -implicitDefEqProofs only [go_sem]
  refine (all_tok_ok s _ (he.sub (.upd_new hi2))).pthen ?_
  cases el : lexD s with
  | bad e a =>
    have e1 := lexD_bad el
    have d1 : (e != 0) = true := by
      have : e ≠ 0 := by rcases e1.1 with h | h <;> rw [h] <;> decide
      simpa using this
    have efin : parseD s = (zeroP, e, a) := by simp only [parseD, el]
    simp -implicitDefEqProofs only [go_sem, lexR, d1]
    rw [efin]
    exact .mk (h' := h) (parsedA (zeroP, e, a)) (weak_flat3 _ _ _ (weak_flat _) _) (.upd_new hi2) ⟨rfl, rfl⟩
  | ok ts =>
    have efin : parseD s = parseT s ts := by simp only [parseD, el]
    have hw := wfP_start el 0 0 0
    have hpol := policy_p 3 1 rfl ⟨ts, 0, 0, 0, 0⟩ hw (Nat.zero_le _)
    have hap := ah_pol 4 ⟨ts, 0, 0, 0, 0⟩ hw
    obtain ⟨⟨⟨pid, pset, palg, ptgt, prules, pkids, pobls⟩, st1⟩, ep⟩ : ∃ x, polF 4 ⟨ts, 0, 0, 0, 0⟩ = x := ⟨_, rfl⟩
    rw [show 3 + 1 = 4 from rfl, ep] at hpol
    rw [ep] at hap
    simp only [polA] at hpol hap
    simp only [parseT, ep] at efin
    simp -implicitDefEqProofs only [go_sem, lexR]
    intro i8 hi8
    have n8 := ne_upd hi8
    have m82 : ¬ i8 = i2 := n8
    have m28 : ¬ i2 = i8 := fun e => n8 e.symm
    have hh8 : h i8 = none := by rw [upd_other _ _ n8] at hi8; exact hi8
    simp -implicitDefEqProofs only [go_sem, upd_ne, m82, m28]
    refine hpol.go (upd_same ..) ?_
    rw [upd_upd]
    simp -implicitDefEqProofs only [go_sem, upd_ne, m82, m28]
    intro i9 hi9
    have n9 := ne_upd hi9
    have hi9' := hi9
    rw [upd_other _ _ n9] at hi9'
    have n92 := ne_upd hi9'
    have m92 : ¬ i9 = i2 := n92
    have m29 : ¬ i2 = i9 := fun e => n92 e.symm
    have m98 : ¬ i9 = i8 := n9
    have m89 : ¬ i8 = i9 := fun e => n9 e.symm
    have hh9 : h i9 = none := by rw [upd_other _ _ n92] at hi9'; exact hi9'
    have c9 : ∀ (f : Heap) (x y : Option Blk), upd (upd f i8 x) i9 y = upd (upd f i9 y) i8 x := fun f x y => upd_comm f x y n9.symm
    simp -implicitDefEqProofs only [go_sem, c9, upd_ne, m82, m28, m92, m29, m98, m89]
    refine (here_ok st1 hap.1).run ?_
    have subs : ∀ x y z, Sub h (upd (upd (upd h i2 x) i9 y) i8 z) := fun x y z => ((Sub.upd_new hi2).put hh9 _).put hh8 _
    cases d1 : ((hereD st1).kind != 7)
    · have k1 : (hereD st1).kind = 7 := by simpa using d1
      have e2 : (if (hereD st1).kind = 7 then st1 else stuckD st1) = st1 := if_pos k1
      simp -implicitDefEqProofs only [go_sem, c9, tokA, d1, upd_ne, m82, m28, m92, m29, m98, m89]
      cases db : ((st1).bad == 0)
      · have eb : (st1).bad ≠ 0 := by simpa using db
        simp -implicitDefEqProofs only [go_sem, c9, upd_ne, m82, m28, m92, m29, m98, m89, PO, db]
        have eend : endP s (.mk pid pset palg ptgt prules pkids pobls, st1) = st1 := by
          unfold endP; simp only [e2]; rw [if_neg (fun h => eb h.1)]
        have hbb : (st1).bad ≠ 0 := eb
        have dn : ((st1).bad != 0) = true := by simpa using hbb
        simp -implicitDefEqProofs only [go_sem, c9, upd_ne, m82, m28, m92, m29, m98, m89, PO, dn]
        refine .calls (hm1 i8 (PO (st1))) [0, 1, 2, 3, 4, 5, 6, 7, 8, 9, 10, 11] (.hm1 (upd_same ..)) (by kernel_rfl) rfl ?_
        simp -implicitDefEqProofs only [go_sem, c9, upd_ne, m82, m28, m92, m29, m98, m89, PO, hm1_same]
        refine ⟨.hm1 ((upd_other _ _ n8).trans (upd_same ..)), ?_⟩
        have efin2 : parseD s = (zeroP, (st1).bad, (st1).place) := by rw [efin, if_neg (by rw [eend]; exact hbb), eend]
        rw [efin2]
        exact .mk (h' := h) (parsedA (zeroP, (st1).bad, (st1).place)) (weak_flat3 _ _ _ (weak_flat _) _) (Sub.put (subs _ _ _) hi2 _) ⟨rfl, rfl⟩
      · have eb : (st1).bad = 0 := by simpa using db
        simp -implicitDefEqProofs only [go_sem, c9, upd_ne, m82, m28, m92, m29, m98, m89, PO, db]
        refine (right_ok (.mk pid pset palg ptgt prules pkids pobls) _).pthen ?_
        cases dr : (rightE (.mk pid pset palg ptgt prules pkids pobls) != 0)
        · have er : rightE (.mk pid pset palg ptgt prules pkids pobls) = 0 := by simpa using dr
          have dn : ((st1).bad != 0) = false := by simpa using eb
          simp -implicitDefEqProofs only [go_sem, c9, upd_ne, m82, m28, m92, m29, m98, m89, PO, dr, dn]
          have eend : endP s (.mk pid pset palg ptgt prules pkids pobls, st1) = st1 := by
            unfold endP; simp only [e2]; rw [if_neg (fun h => h.2 er)]
          have efin2 : parseD s = (.mk pid pset palg ptgt prules pkids pobls, 0, 0) := by rw [efin, if_pos (by rw [eend]; exact eb)]
          rw [efin2]
          exact .mk (h' := h) (parsedA (.mk pid pset palg ptgt prules pkids pobls, 0, 0)) (weak_flat3 _ _ _ (weak_flat _) _) (Sub.put (subs _ _ _) hi2 _) ⟨rfl, rfl⟩
        · have er : rightE (.mk pid pset palg ptgt prules pkids pobls) ≠ 0 := by simpa using dr
          simp -implicitDefEqProofs only [go_sem, c9, upd_ne, m82, m28, m92, m29, m98, m89, PO, dr]
          refine (wrong_ok (st1) 5 s.length).run ?_
          have eend : endP s (.mk pid pset palg ptgt prules pkids pobls, st1) = wrongD (st1) 5 s.length := by
            unfold endP; simp only [e2]; rw [if_pos ⟨eb, er⟩]
          have hwb : wrongD (st1) 5 s.length = { (st1) with bad := 5, place := s.length } := by rw [wrongD, if_pos eb]
          have hbb : (wrongD (st1) 5 s.length).bad ≠ 0 := by rw [hwb]; show (5 : Int) ≠ 0; decide
          have dn : ((wrongD (st1) 5 s.length).bad != 0) = true := by simpa using hbb
          simp -implicitDefEqProofs only [go_sem, c9, upd_ne, m82, m28, m92, m29, m98, m89, PO, dn]
          refine .calls (hm1 i8 (PO (wrongD (st1) 5 s.length))) [0, 1, 2, 3, 4, 5, 6, 7, 8, 9, 10, 11] (.hm1 (upd_same ..)) (by kernel_rfl) rfl ?_
          simp -implicitDefEqProofs only [go_sem, c9, upd_ne, m82, m28, m92, m29, m98, m89, PO, hm1_same]
          refine ⟨.hm1 ((upd_other _ _ n8).trans (upd_same ..)), ?_⟩
          have efin2 : parseD s = (zeroP, (wrongD (st1) 5 s.length).bad, (wrongD (st1) 5 s.length).place) := by rw [efin, if_neg (by rw [eend]; exact hbb), eend]
          rw [efin2]
          exact .mk (h' := h) (parsedA (zeroP, (wrongD (st1) 5 s.length).bad, (wrongD (st1) 5 s.length).place)) (weak_flat3 _ _ _ (weak_flat _) _) (Sub.put (subs _ _ _) hi2 _) ⟨rfl, rfl⟩
    · have k1 : (hereD st1).kind ≠ 7 := by simpa using d1
      have e2 : (if (hereD st1).kind = 7 then st1 else stuckD st1) = stuckD st1 := if_neg k1
      simp -implicitDefEqProofs only [go_sem, c9, tokA, d1, upd_ne, m82, m28, m92, m29, m98, m89]
      refine (stuck_ok st1 hap.1).run ?_
      simp -implicitDefEqProofs only [go_sem, c9, upd_ne, m82, m28, m92, m29, m98, m89]
      cases db : ((stuckD st1).bad == 0)
      · have eb : (stuckD st1).bad ≠ 0 := by simpa using db
        simp -implicitDefEqProofs only [go_sem, c9, upd_ne, m82, m28, m92, m29, m98, m89, PO, db]
        have eend : endP s (.mk pid pset palg ptgt prules pkids pobls, st1) = stuckD st1 := by
          unfold endP; simp only [e2]; rw [if_neg (fun h => eb h.1)]
        have hbb : (stuckD st1).bad ≠ 0 := eb
        have dn : ((stuckD st1).bad != 0) = true := by simpa using hbb
        simp -implicitDefEqProofs only [go_sem, c9, upd_ne, m82, m28, m92, m29, m98, m89, PO, dn]
        refine .calls (hm1 i8 (PO (stuckD st1))) [0, 1, 2, 3, 4, 5, 6, 7, 8, 9, 10, 11] (.hm1 (upd_same ..)) (by kernel_rfl) rfl ?_
        simp -implicitDefEqProofs only [go_sem, c9, upd_ne, m82, m28, m92, m29, m98, m89, PO, hm1_same]
        refine ⟨.hm1 ((upd_other _ _ n8).trans (upd_same ..)), ?_⟩
        have efin2 : parseD s = (zeroP, (stuckD st1).bad, (stuckD st1).place) := by rw [efin, if_neg (by rw [eend]; exact hbb), eend]
        rw [efin2]
        exact .mk (h' := h) (parsedA (zeroP, (stuckD st1).bad, (stuckD st1).place)) (weak_flat3 _ _ _ (weak_flat _) _) (Sub.put (subs _ _ _) hi2 _) ⟨rfl, rfl⟩
      · have eb : (stuckD st1).bad = 0 := by simpa using db
        simp -implicitDefEqProofs only [go_sem, c9, upd_ne, m82, m28, m92, m29, m98, m89, PO, db]
        refine (right_ok (.mk pid pset palg ptgt prules pkids pobls) _).pthen ?_
        cases dr : (rightE (.mk pid pset palg ptgt prules pkids pobls) != 0)
        · have er : rightE (.mk pid pset palg ptgt prules pkids pobls) = 0 := by simpa using dr
          have dn : ((stuckD st1).bad != 0) = false := by simpa using eb
          simp -implicitDefEqProofs only [go_sem, c9, upd_ne, m82, m28, m92, m29, m98, m89, PO, dr, dn]
          have eend : endP s (.mk pid pset palg ptgt prules pkids pobls, st1) = stuckD st1 := by
            unfold endP; simp only [e2]; rw [if_neg (fun h => h.2 er)]
          have efin2 : parseD s = (.mk pid pset palg ptgt prules pkids pobls, 0, 0) := by rw [efin, if_pos (by rw [eend]; exact eb)]
          rw [efin2]
          exact .mk (h' := h) (parsedA (.mk pid pset palg ptgt prules pkids pobls, 0, 0)) (weak_flat3 _ _ _ (weak_flat _) _) (Sub.put (subs _ _ _) hi2 _) ⟨rfl, rfl⟩
        · have er : rightE (.mk pid pset palg ptgt prules pkids pobls) ≠ 0 := by simpa using dr
          simp -implicitDefEqProofs only [go_sem, c9, upd_ne, m82, m28, m92, m29, m98, m89, PO, dr]
          refine (wrong_ok (stuckD st1) 5 s.length).run ?_
          have eend : endP s (.mk pid pset palg ptgt prules pkids pobls, st1) = wrongD (stuckD st1) 5 s.length := by
            unfold endP; simp only [e2]; rw [if_pos ⟨eb, er⟩]
          have hwb : wrongD (stuckD st1) 5 s.length = { (stuckD st1) with bad := 5, place := s.length } := by rw [wrongD, if_pos eb]
          have hbb : (wrongD (stuckD st1) 5 s.length).bad ≠ 0 := by rw [hwb]; show (5 : Int) ≠ 0; decide
          have dn : ((wrongD (stuckD st1) 5 s.length).bad != 0) = true := by simpa using hbb
          simp -implicitDefEqProofs only [go_sem, c9, upd_ne, m82, m28, m92, m29, m98, m89, PO, dn]
          refine .calls (hm1 i8 (PO (wrongD (stuckD st1) 5 s.length))) [0, 1, 2, 3, 4, 5, 6, 7, 8, 9, 10, 11] (.hm1 (upd_same ..)) (by kernel_rfl) rfl ?_
          simp -implicitDefEqProofs only [go_sem, c9, upd_ne, m82, m28, m92, m29, m98, m89, PO, hm1_same]
          refine ⟨.hm1 ((upd_other _ _ n8).trans (upd_same ..)), ?_⟩
          have efin2 : parseD s = (zeroP, (wrongD (stuckD st1) 5 s.length).bad, (wrongD (stuckD st1) 5 s.length).place) := by rw [efin, if_neg (by rw [eend]; exact hbb), eend]
          rw [efin2]
          exact .mk (h' := h) (parsedA (zeroP, (wrongD (stuckD st1) 5 s.length).bad, (wrongD (stuckD st1) 5 s.length).place)) (weak_flat3 _ _ _ (weak_flat _) _) (Sub.put (subs _ _ _) hi2 _) ⟨rfl, rfl⟩
end Go.Proofs.YtdcchpbncckhlaaDoor

set_option linter.unusedSimpArgs false
set_option linter.unusedVariables false
namespace Go.Bf
open Go Go.Ab
def eqMatch (a b : MatchD) : Bool := a.attr.cat == b.attr.cat && (a.attr.name == b.attr.name && (a.attr.must == b.attr.must && (a.op == b.op && (a.val.kind == b.val.kind && (a.val.n == b.val.n && a.val.s == b.val.s)))))
def eqNode (a b : NodeD) : Bool := a.op == b.op && (a.val.kind == b.val.kind && (a.val.n == b.val.n && (a.val.s == b.val.s && (a.attr.cat == b.attr.cat && (a.attr.name == b.attr.name && a.attr.must == b.attr.must)))))
def eqObl (a b : OblD) : Bool := a.on == b.on && (a.kind == b.kind && a.arg == b.arg)
def eqL {α : Type} (f : α → α → Bool) : List α → List α → Bool
  | [], [] => true
  | x :: a, y :: b => f x y && eqL f a b
  | _, _ => false
theorem eqL_true {α : Type} {f : α → α → Bool} : ∀ {a b : List α}, a.length = b.length → (∀ j (h1 : j < a.length) (h2 : j < b.length), f a[j] b[j] = true) → eqL f a b = true
  | [], [], _, _ => rfl
  | x :: a, y :: b, hl, h => by
    simp only [eqL, Bool.and_eq_true]
    exact ⟨h 0 (by simp) (by simp), eqL_true (by simpa using hl) fun j h1 h2 => h (j + 1) (by simpa using h1) (by simpa using h2)⟩
theorem eqL_len {α : Type} {f : α → α → Bool} : ∀ {a b : List α}, a.length ≠ b.length → eqL f a b = false
  | [], [], h => (h rfl).elim
  | [], _ :: _, _ => rfl
  | _ :: _, [], _ => rfl
  | x :: a, y :: b, h => by
    simp only [eqL]
    rw [eqL_len (fun e => h (by simp [e])), Bool.and_false]
theorem eqL_at {α : Type} {f : α → α → Bool} : ∀ {a b : List α} (j : Nat) (h1 : j < a.length) (h2 : j < b.length), f a[j] b[j] = false → eqL f a b = false
  | x :: a, y :: b, 0, _, _, h => by simp only [List.getElem_cons_zero] at h; simp [eqL, h]
  | x :: a, y :: b, j + 1, h1, h2, h => by
    simp only [eqL]
    rw [eqL_at j (by simpa using h1) (by simpa using h2) (by simpa using h), Bool.and_false]
end Go.Bf
namespace Go.Proofs.YtdcchpbncckhlaaDoor
open Go Go.Ab Go.Bf
theorem sameMatch_ok (a b : List MatchD) (h : Heap) : FnOK Tryd.prog 75 [allA a, allA b] h fun r h' => r = .v (.bool (eqL eqMatch a b)) ∧ h' = h := by
  refine FnOK.body hU hm Tryd.func75 rfl (by kernel_rfl) 26 rfl [.tmp 4] rfl (Nat.le_of_ble_eq_true rfl) (fun hwf => ?_)
  cases d1 : ((a.length : Int) != (b.length : Int))
  case true =>
    have e1 : a.length ≠ b.length := by
      intro e; rw [e] at d1; simp at d1
    simp -implicitDefEqProofs only [go_sem, allA, List.length_map, d1]
    exact .same (.refl _) ⟨by rw [eqL_len e1]; rfl, rfl⟩
  have e1 : a.length = b.length := by have : (a.length : Int) = b.length := by simpa using d1
                                      omega
  simp -implicitDefEqProofs only [go_sem, allA, List.length_map, d1]
  refine .intro (fun m ρ h' => Ab.Sub h h' ∧ ∃ i : Nat, i ≤ a.length ∧ m = a.length - i ∧ (∀ j (h1 : j < a.length) (h2 : j < b.length), j < i → eqMatch a[j] b[j] = true) ∧ lk ρ 0 = some (.sl (a.map matchA) .no) ∧ lk ρ 1 = some (.sl (b.map matchA) .no) ∧ lk ρ 5 = some (.v (.int .i64 i))) a.length ?_ ?_
  · refine ⟨.refl _, 0, by omega, rfl, fun j _ _ hj => (by omega), ?_, ?_, ?_⟩ <;> simp -implicitDefEqProofs only [go_sem]
  · rintro m ρ h' ⟨hs, i, hi, rfl, hc, r0, r1, r5⟩
    simp -implicitDefEqProofs only [go_sem, r0, r1, r5, List.length_map]
    refine .intro (fun e => ?_) (fun e => ?_)
    · have hlt : i < a.length := Int.ofNat_lt.1 (of_decide_eq_true e)
      have hlt2 : i < b.length := by omega
      have w1 : IntKind.i64.wrap ((i : Int) + 1) = ((i + 1 : Nat) : Int) := by
        have := hwf (allA a) (by simp)
        simp only [allA, wfA, wf1, lim, List.length_map] at this
        rw [wr64 _ (by omega)]; omega
      simp -implicitDefEqProofs only [go_sem, r0, r1, r5, List.length_map]
      refine ⟨.of (by kernel_rfl), ?_⟩
      refine .at i (by simpa using hlt) (by rw [List.getElem_map]; rfl) ?_
      simp -implicitDefEqProofs only [go_sem, r0, r1, r5, List.getElem_map, matchA]
      refine .at i (by simpa using hlt2) (by rw [List.getElem_map]; rfl) ?_
      simp -implicitDefEqProofs only [go_sem, r0, r1, r5, List.getElem_map, matchA]
      cases d3 : eqMatch a[i] b[i]
      · have d4 := d3
        simp only [eqMatch] at d4
        simp -implicitDefEqProofs only [go_sem, r0, r1, r5, d4]
        exact .mk _ (.refl _) hs ⟨by rw [eqL_at i hlt hlt2 d3]; rfl, rfl⟩
      · have d4 := d3
        simp only [eqMatch] at d4
        simp -implicitDefEqProofs only [go_sem, r0, r1, r5, d4, w1]
        refine ⟨_, ?_, hs, i + 1, by omega, rfl, fun j h1 h2 hj => ?_, ?_, ?_, ?_⟩
        · omega
        · by_cases hji : j = i
          · subst hji; exact d3
          · exact hc j h1 h2 (by omega)
        all_goals simp -implicitDefEqProofs only [go_sem, r0, r1, r5, w1]
    · have hge : i = a.length := by have := of_decide_eq_false e; omega
      subst hge
      simp -implicitDefEqProofs only [go_sem, r0, r1, r5]
      exact .mk _ (.refl _) hs ⟨by rw [eqL_true e1 fun j h1 h2 => hc j h1 h2 h1]; rfl, rfl⟩
theorem sameObl_ok (a b : List OblD) (h : Heap) : FnOK Tryd.prog 45 [oblsA a, oblsA b] h fun r h' => r = .v (.bool (eqL eqObl a b)) ∧ h' = h := by
  refine FnOK.body hU hm Tryd.func45 rfl (by kernel_rfl) 26 rfl [.tmp 4] rfl (Nat.le_of_ble_eq_true rfl) (fun hwf => ?_)
  cases d1 : ((a.length : Int) != (b.length : Int))
  case true =>
    have e1 : a.length ≠ b.length := by
      intro e; rw [e] at d1; simp at d1
    simp -implicitDefEqProofs only [go_sem, oblsA, List.length_map, d1]
    exact .same (.refl _) ⟨by rw [eqL_len e1]; rfl, rfl⟩
  have e1 : a.length = b.length := by have : (a.length : Int) = b.length := by simpa using d1
                                      omega
  simp -implicitDefEqProofs only [go_sem, oblsA, List.length_map, d1]
  refine .intro (fun m ρ h' => Ab.Sub h h' ∧ ∃ i : Nat, i ≤ a.length ∧ m = a.length - i ∧ (∀ j (h1 : j < a.length) (h2 : j < b.length), j < i → eqObl a[j] b[j] = true) ∧ lk ρ 0 = some (.sl (a.map oblA) .no) ∧ lk ρ 1 = some (.sl (b.map oblA) .no) ∧ lk ρ 5 = some (.v (.int .i64 i))) a.length ?_ ?_
  · refine ⟨.refl _, 0, by omega, rfl, fun j _ _ hj => (by omega), ?_, ?_, ?_⟩ <;> simp -implicitDefEqProofs only [go_sem]
  · rintro m ρ h' ⟨hs, i, hi, rfl, hc, r0, r1, r5⟩
    simp -implicitDefEqProofs only [go_sem, r0, r1, r5, List.length_map]
    refine .intro (fun e => ?_) (fun e => ?_)
    · have hlt : i < a.length := Int.ofNat_lt.1 (of_decide_eq_true e)
      have hlt2 : i < b.length := by omega
      have w1 : IntKind.i64.wrap ((i : Int) + 1) = ((i + 1 : Nat) : Int) := by
        have := hwf (oblsA a) (by simp)
        simp only [oblsA, wfA, wf1, lim, List.length_map] at this
        rw [wr64 _ (by omega)]; omega
      simp -implicitDefEqProofs only [go_sem, r0, r1, r5, List.length_map]
      refine ⟨.of (by kernel_rfl), ?_⟩
      refine .at i (by simpa using hlt) (by rw [List.getElem_map]; rfl) ?_
      simp -implicitDefEqProofs only [go_sem, r0, r1, r5, List.getElem_map, oblA]
      refine .at i (by simpa using hlt2) (by rw [List.getElem_map]; rfl) ?_
      simp -implicitDefEqProofs only [go_sem, r0, r1, r5, List.getElem_map, oblA]
      cases d3 : eqObl a[i] b[i]
      · have d4 := d3
        simp only [eqObl] at d4
        simp -implicitDefEqProofs only [go_sem, r0, r1, r5, d4]
        exact .mk _ (.refl _) hs ⟨by rw [eqL_at i hlt hlt2 d3]; rfl, rfl⟩
      · have d4 := d3
        simp only [eqObl] at d4
        simp -implicitDefEqProofs only [go_sem, r0, r1, r5, d4, w1]
        refine ⟨_, ?_, hs, i + 1, by omega, rfl, fun j h1 h2 hj => ?_, ?_, ?_, ?_⟩
        · omega
        · by_cases hji : j = i
          · subst hji; exact d3
          · exact hc j h1 h2 (by omega)
        all_goals simp -implicitDefEqProofs only [go_sem, r0, r1, r5, w1]
    · have hge : i = a.length := by have := of_decide_eq_false e; omega
      subst hge
      simp -implicitDefEqProofs only [go_sem, r0, r1, r5]
      exact .mk _ (.refl _) hs ⟨by rw [eqL_true e1 fun j h1 h2 => hc j h1 h2 h1]; rfl, rfl⟩
theorem sameNode_ok (a b : List NodeD) (h : Heap) : FnOK Tryd.prog 46 [condA a, condA b] h fun r h' => r = .v (.bool (eqL eqNode a b)) ∧ h' = h := by
  refine FnOK.body hU hm Tryd.func46 rfl (by kernel_rfl) 26 rfl [.tmp 4] rfl (Nat.le_of_ble_eq_true rfl) (fun hwf => ?_)
  cases d1 : ((a.length : Int) != (b.length : Int))
  case true =>
    have e1 : a.length ≠ b.length := by
      intro e; rw [e] at d1; simp at d1
    simp -implicitDefEqProofs only [go_sem, condA, List.length_map, d1]
    exact .same (.refl _) ⟨by rw [eqL_len e1]; rfl, rfl⟩
  have e1 : a.length = b.length := by have : (a.length : Int) = b.length := by simpa using d1
                                      omega
  simp -implicitDefEqProofs only [go_sem, condA, List.length_map, d1]
  refine .intro (fun m ρ h' => Ab.Sub h h' ∧ ∃ i : Nat, i ≤ a.length ∧ m = a.length - i ∧ (∀ j (h1 : j < a.length) (h2 : j < b.length), j < i → eqNode a[j] b[j] = true) ∧ lk ρ 0 = some (.sl (a.map nodeA) .no) ∧ lk ρ 1 = some (.sl (b.map nodeA) .no) ∧ lk ρ 5 = some (.v (.int .i64 i))) a.length ?_ ?_
  · refine ⟨.refl _, 0, by omega, rfl, fun j _ _ hj => (by omega), ?_, ?_, ?_⟩ <;> simp -implicitDefEqProofs only [go_sem]
  · rintro m ρ h' ⟨hs, i, hi, rfl, hc, r0, r1, r5⟩
    simp -implicitDefEqProofs only [go_sem, r0, r1, r5, List.length_map]
    refine .intro (fun e => ?_) (fun e => ?_)
    · have hlt : i < a.length := Int.ofNat_lt.1 (of_decide_eq_true e)
      have hlt2 : i < b.length := by omega
      have w1 : IntKind.i64.wrap ((i : Int) + 1) = ((i + 1 : Nat) : Int) := by
        have := hwf (condA a) (by simp)
        simp only [condA, wfA, wf1, lim, List.length_map] at this
        rw [wr64 _ (by omega)]; omega
      simp -implicitDefEqProofs only [go_sem, r0, r1, r5, List.length_map]
      refine ⟨.of (by kernel_rfl), ?_⟩
      refine .at i (by simpa using hlt) (by rw [List.getElem_map]; rfl) ?_
      simp -implicitDefEqProofs only [go_sem, r0, r1, r5, List.getElem_map, nodeA]
      refine .at i (by simpa using hlt2) (by rw [List.getElem_map]; rfl) ?_
      simp -implicitDefEqProofs only [go_sem, r0, r1, r5, List.getElem_map, nodeA]
      cases d3 : eqNode a[i] b[i]
      · have d4 := d3
        simp only [eqNode] at d4
        simp -implicitDefEqProofs only [go_sem, r0, r1, r5, d4]
        exact .mk _ (.refl _) hs ⟨by rw [eqL_at i hlt hlt2 d3]; rfl, rfl⟩
      · have d4 := d3
        simp only [eqNode] at d4
        simp -implicitDefEqProofs only [go_sem, r0, r1, r5, d4, w1]
        refine ⟨_, ?_, hs, i + 1, by omega, rfl, fun j h1 h2 hj => ?_, ?_, ?_, ?_⟩
        · omega
        · by_cases hji : j = i
          · subst hji; exact d3
          · exact hc j h1 h2 (by omega)
        all_goals simp -implicitDefEqProofs only [go_sem, r0, r1, r5, w1]
    · have hge : i = a.length := by have := of_decide_eq_false e; omega
      subst hge
      simp -implicitDefEqProofs only [go_sem, r0, r1, r5]
      exact .mk _ (.refl _) hs ⟨by rw [eqL_true e1 fun j h1 h2 => hc j h1 h2 h1]; rfl, rfl⟩
end Go.Proofs.YtdcchpbncckhlaaDoor

set_option linter.unusedSimpArgs false
set_option linter.unusedVariables false
namespace Go.Bf
open Go Go.Ab
def eqT (a b : TgtD) : Bool := eqL (eqL (eqL eqMatch)) a b
def eqR (r s : RuleD) : Bool := r.id == s.id && (r.deny == s.deny && (eqT r.tgt s.tgt && (eqL eqNode r.cond s.cond && eqL eqObl r.obls s.obls)))
mutual
def eqP : PolD → PolD → Bool
  | .mk i1 s1 a1 t1 r1 k1 o1, .mk i2 s2 a2 t2 r2 k2 o2 => i1 == i2 && (s1 == s2 && (a1 == a2 && (eqT t1 t2 && (eqL eqObl o1 o2 && (eqL eqR r1 r2 && eqK k1 k2)))))
def eqK : List PolD → List PolD → Bool
  | [], [] => true
  | x :: a, y :: b => eqP x y && eqK a b
  | _, _ => false
end
theorem eqK_eqL : ∀ a b : List PolD, eqK a b = eqL eqP a b
  | [], [] => rfl
  | [], _ :: _ => rfl
  | _ :: _, [] => rfl
  | x :: a, y :: b => by simp only [eqK, eqL, eqK_eqL a b]
end Go.Bf
namespace Go.Proofs.YtdcchpbncckhlaaDoor
open Go Go.Ab Go.Bf
theorem targets_ok (a b : TgtD) (h : Heap) : FnOK Tryd.prog 44 [tgtA a, tgtA b] h fun r h' => r = .v (.bool (eqT a b)) ∧ h' = h := by
  refine FnOK.body hU hm Tryd.func44 rfl (by kernel_rfl) 54 rfl [.tmp 4] rfl (Nat.le_of_ble_eq_true rfl) (fun hwf => ?_)
  cases d1 : ((a.length : Int) != (b.length : Int))
  case true =>
    have e1 : a.length ≠ b.length := by
      intro e; rw [e] at d1; simp at d1
    simp -implicitDefEqProofs only [go_sem, tgtA, List.length_map, d1]
    exact .same (.refl _) ⟨by rw [eqT, eqL_len e1]; rfl, rfl⟩
  have e1 : a.length = b.length := by have : (a.length : Int) = b.length := by simpa using d1
                                      omega
  have hwa := hwf (tgtA a) (by simp)
  simp only [tgtA, wfA, wf1, lim, List.length_map] at hwa
  simp -implicitDefEqProofs only [go_sem, tgtA, List.length_map, d1]
  refine .intro (fun m ρ h' => Ab.Sub h h' ∧ ∃ i : Nat, i ≤ a.length ∧ m = a.length - i ∧ (∀ j (h1 : j < a.length) (h2 : j < b.length), j < i → eqL (eqL eqMatch) a[j] b[j] = true) ∧ lk ρ 0 = some (.sl (a.map anyA) .no) ∧ lk ρ 1 = some (.sl (b.map anyA) .no) ∧ lk ρ 13 = some (.v (.int .i64 a.length)) ∧ lk ρ 14 = some (.v (.int .i64 i))) a.length ?_ ?_
  · refine ⟨.refl _, 0, by omega, rfl, fun j _ _ hj => (by omega), ?_, ?_, ?_, ?_⟩ <;> simp -implicitDefEqProofs only [go_sem]
  · rintro m ρ h' ⟨hs, i, hi, rfl, hc, r0, r1, r13, r14⟩
    simp -implicitDefEqProofs only [go_sem, r0, r1, r13, r14, List.length_map]
    refine .intro (fun e => ?_) (fun e => ?_)
    · have hlt : i < a.length := Int.ofNat_lt.1 (of_decide_eq_true e)
      have hlt2 : i < b.length := by omega
      have w1 : IntKind.i64.wrap ((i : Int) + 1) = ((i + 1 : Nat) : Int) := by rw [wr64 _ (by omega)]; omega
      simp -implicitDefEqProofs only [go_sem, r0, r1, r13, r14, List.length_map]
      refine ⟨.of (by kernel_rfl), ?_⟩
      refine .at i (by simpa using hlt) (by rw [List.getElem_map]; rfl) ?_
      simp -implicitDefEqProofs only [go_sem, r0, r1, r13, r14, List.getElem_map, anyA]
      refine .at i (by simpa using hlt2) (by rw [List.getElem_map]; rfl) ?_
      cases d2 : ((a[i].length : Int) != (b[i].length : Int))
      case true =>
        have e2 : a[i].length ≠ b[i].length := by
          intro e; rw [e] at d2; simp at d2
        simp -implicitDefEqProofs only [go_sem, r0, r1, r13, r14, List.getElem_map, anyA, List.length_map, d2]
        exact .mk _ (.refl _) hs ⟨by rw [eqT, eqL_at i hlt hlt2 (eqL_len e2)]; rfl, rfl⟩
      have e2 : a[i].length = b[i].length := by have : (a[i].length : Int) = b[i].length := by simpa using d2
                                                omega
      simp -implicitDefEqProofs only [go_sem, r0, r1, r13, r14, List.getElem_map, anyA, List.length_map, d2]
      refine .at i (by simpa using hlt) (by rw [List.getElem_map]; rfl) ?_
      simp -implicitDefEqProofs only [go_sem, r0, r1, r13, r14, List.getElem_map, anyA, List.length_map]
      refine LoopC.wf fun hwi => ?_
      have hwk := hwi 31 (.sl (a[i].map allA) .no) (by simp -implicitDefEqProofs only [go_sem])
      simp only [wfA, wf1, lim, List.length_map] at hwk
      refine .intro (fun m ρ h' => Ab.Sub h h' ∧ ∃ k : Nat, k ≤ a[i].length ∧ m = a[i].length - k ∧ (∀ j (h1 : j < a[i].length) (h2 : j < b[i].length), j < k → eqL eqMatch a[i][j] b[i][j] = true) ∧ lk ρ 5 = some (.v (.int .i64 i)) ∧ lk ρ 0 = some (.sl (a.map anyA) .no) ∧ lk ρ 1 = some (.sl (b.map anyA) .no) ∧ lk ρ 13 = some (.v (.int .i64 a.length)) ∧ lk ρ 14 = some (.v (.int .i64 i)) ∧ lk ρ 32 = some (.v (.int .i64 a[i].length)) ∧ lk ρ 33 = some (.v (.int .i64 k))) a[i].length ?_ ?_
      · refine ⟨hs, 0, by omega, rfl, fun j _ _ hj => (by omega), ?_, ?_, ?_, ?_, ?_, ?_, ?_⟩ <;> simp -implicitDefEqProofs only [go_sem, r0, r1, r13, r14]
      · rintro m ρ h' ⟨hs, k, hk, rfl, hck, r5, r0, r1, r13, r14, r32, r33⟩
        simp -implicitDefEqProofs only [go_sem, r0, r1, r5, r13, r14, r32, r33]
        refine .intro (fun e3 => ?_) (fun e3 => ?_)
        · have hkt : k < a[i].length := Int.ofNat_lt.1 (of_decide_eq_true e3)
          have hkt2 : k < b[i].length := by omega
          simp -implicitDefEqProofs only [go_sem, r0, r1, r5, r13, r14, r32, r33]
          refine .quiet (by kernel_rfl) ?_
          simp -implicitDefEqProofs only [go_sem, r0, r1, r5, r13, r14, r32, r33]
          refine .at i (by simpa using hlt) (by rw [List.getElem_map]; rfl) ?_
          simp -implicitDefEqProofs only [go_sem, r0, r1, r5, r13, r14, r32, r33, List.getElem_map, anyA]
          have w2 : IntKind.i64.wrap ((k : Int) + 1) = ((k + 1 : Nat) : Int) := by rw [wr64 _ (by omega)]; omega
          refine .at k (by simpa using hkt) (by rw [List.getElem_map]; rfl) ?_
          simp -implicitDefEqProofs only [go_sem, r0, r1, r5, r13, r14, r32, r33, List.getElem_map, allA]
          refine .at i (by simpa using hlt2) (by rw [List.getElem_map]; rfl) ?_
          simp -implicitDefEqProofs only [go_sem, r0, r1, r5, r13, r14, r32, r33, List.getElem_map, anyA]
          refine .at k (by simpa using hkt2) (by rw [List.getElem_map]; rfl) ?_
          simp -implicitDefEqProofs only [go_sem, r0, r1, r5, r13, r14, r32, r33, List.getElem_map, allA]
          have hsm := fun h => sameMatch_ok a[i][k] b[i][k] h
          simp only [allA] at hsm
          refine ⟨_, hsm _, ?_⟩
          cases d3 : eqL eqMatch a[i][k] b[i][k]
          · simp -implicitDefEqProofs only [go_sem, r0, r1, r5, r13, r14, r32, r33, d3]
            exact .mk _ (.refl _) hs ⟨by rw [eqT, eqL_at i hlt hlt2 (eqL_at k hkt hkt2 d3)]; rfl, rfl⟩
          · simp -implicitDefEqProofs only [go_sem, r0, r1, r5, r13, r14, r32, r33, d3, w2]
            refine ⟨_, ?_, hs, k + 1, by omega, rfl, fun j h1 h2 hj => ?_, ?_, ?_, ?_, ?_, ?_, ?_, ?_⟩
            · omega
            · by_cases hji : j = k
              · subst hji; exact d3
              · exact hck j h1 h2 (by omega)
            all_goals simp -implicitDefEqProofs only [go_sem, r0, r1, r5, r13, r14, r32, r33, w2]
        · have hge : k = a[i].length := by have := of_decide_eq_false e3; omega
          subst hge
          simp -implicitDefEqProofs only [go_sem, r0, r1, r5, r13, r14, r32, r33, w1]
          refine ⟨_, ?_, hs, i + 1, by omega, rfl, fun j h1 h2 hj => ?_, ?_, ?_, ?_, ?_⟩
          · omega
          · by_cases hji : j = i
            · subst hji; exact eqL_true e2 fun j h1 h2 => hck j h1 h2 h1
            · exact hc j h1 h2 (by omega)
          all_goals simp -implicitDefEqProofs only [go_sem, r0, r1, r13, r14, w1]
    · have hge : i = a.length := by have := of_decide_eq_false e; omega
      subst hge
      simp -implicitDefEqProofs only [go_sem, r0, r1, r13, r14]
      exact .mk _ (.refl _) hs ⟨by rw [eqT, eqL_true e1 fun j h1 h2 => hc j h1 h2 h1]; rfl, rfl⟩
end Go.Proofs.YtdcchpbncckhlaaDoor

set_option linter.unusedSimpArgs false
set_option linter.unusedVariables false
namespace Go.Proofs.YtdcchpbncckhlaaDoor
open Go Go.Ab Go.Bf
set_option maxRecDepth 100000 in
theorem policies_ok : ∀ (p q : PolD) (h : Heap), FnOK Tryd.prog 23 [polA p, polA q] h fun r h' => r = .v (.bool (eqP p q)) ∧ h' = h
  | .mk i1 s1 a1 t1 r1 k1 o1, .mk i2 s2 a2 t2 r2 k2 o2, h => by
    have ihk : ∀ (j : Nat) (hj : j < k1.length) (q : PolD) (h : Heap), FnOK Tryd.prog 23 [polA k1[j], polA q] h fun r h' => r = .v (.bool (eqP k1[j] q)) ∧ h' = h :=
      fun j hj q h => policies_ok k1[j] q h
    refine FnOK.body hU hm Tryd.func23 rfl (by kernel_rfl) 134 rfl [.tmp 4] rfl (Nat.le_of_ble_eq_true rfl) (fun hwf => ?_)
    have hlen : k1.length < 9223372036854775808 ∧ r1.length < 9223372036854775808 := by
      have := hwf (polA (.mk i1 s1 a1 t1 r1 k1 o1)) (by simp)
      simp only [polA, wfA] at this
      have g1 := this (.sl (kidsA k1) .no) (by simp)
      have g2 := this (.sl (r1.map ruleA) .no) (by simp)
      simp only [wf1, List.length_map, kidsA_eq] at g1 g2
      exact ⟨g1, g2⟩
    simp -implicitDefEqProofs only [go_sem, polA, tgtA, oblsA]
    intro ia hia
    simp -implicitDefEqProofs only [go_sem]
    intro ib hib
    have nab := ne_new hib
    have hs0 : Ab.Sub h (upd (upd h ia (some (.obj [.s i1, .v (.bool s1), .v (.int .i64 a1), .sl (t1.map anyA) .no, .sl (r1.map ruleA) .no, .sl (kidsA k1) .no, .sl (o1.map oblA) .no] 43))) ib (some (.obj [.s i2, .v (.bool s2), .v (.int .i64 a2), .sl (t2.map anyA) .no, .sl (r2.map ruleA) .no, .sl (kidsA k2) .no, .sl (o2.map oblA) .no] 43))) := (Sub.upd_new hia).trans (.upd_new hib)
    obtain ⟨hb, ehb⟩ : ∃ hb, upd (upd h ia (some (.obj [.s i1, .v (.bool s1), .v (.int .i64 a1), .sl (t1.map anyA) .no, .sl (r1.map ruleA) .no, .sl (kidsA k1) .no, .sl (o1.map oblA) .no] 43))) ib (some (.obj [.s i2, .v (.bool s2), .v (.int .i64 a2), .sl (t2.map anyA) .no, .sl (r2.map ruleA) .no, .sl (kidsA k2) .no, .sl (o2.map oblA) .no] 43)) = hb := ⟨_, rfl⟩
    have ga : hb ia = some (.obj [.s i1, .v (.bool s1), .v (.int .i64 a1), .sl (t1.map anyA) .no, .sl (r1.map ruleA) .no, .sl (kidsA k1) .no, .sl (o1.map oblA) .no] 43) := by rw [← ehb, upd_other _ _ nab.symm, upd_same]
    have gb : hb ib = some (.obj [.s i2, .v (.bool s2), .v (.int .i64 a2), .sl (t2.map anyA) .no, .sl (r2.map ruleA) .no, .sl (kidsA k2) .no, .sl (o2.map oblA) .no] 43) := by rw [← ehb, upd_same]
    rw [ehb] at hs0 ⊢
    have bad : eqP (.mk i1 s1 a1 t1 r1 k1 o1) (.mk i2 s2 a2 t2 r2 k2 o2) = false → (.v (.bool false) : AV) = .v (.bool (eqP (.mk i1 s1 a1 t1 r1 k1 o1) (.mk i2 s2 a2 t2 r2 k2 o2))) ∧ h = h := fun e => ⟨by rw [e], rfl⟩
    cases d1 : (i1 == i2)
    case false =>
      simp -implicitDefEqProofs only [go_sem, ga, gb, d1]
      exact .mk _ (.refl _) hs0 (bad (by simp [eqP, d1]))
    cases d2 : (s1 == s2)
    case false =>
      simp -implicitDefEqProofs only [go_sem, ga, gb, d1, d2]
      exact .mk _ (.refl _) hs0 (bad (by simp only [eqP, d2, Bool.false_and, Bool.and_false]))
    cases d3 : (a1 == a2)
    case false =>
      have d3' : (a1 != a2) = true := by simp only [bne, d3, Bool.not_false]
      simp -implicitDefEqProofs only [go_sem, ga, gb, d1, d2, d3']
      exact .mk _ (.refl _) hs0 (bad (by simp only [eqP, d3, Bool.false_and, Bool.and_false]))
    have d3' : (a1 != a2) = false := by simp only [bne, d3, Bool.not_true]
    have f1 := targets_ok t1 t2 hb
    have f2 := sameObl_ok o1 o2 hb
    simp only [tgtA] at f1
    simp only [oblsA] at f2
    simp -implicitDefEqProofs only [go_sem, ga, gb, d1, d2, d3']
    refine f1.pthen ?_
    cases d4 : eqT t1 t2
    case false =>
      simp -implicitDefEqProofs only [go_sem, ga, gb, d4]
      exact .mk _ (.refl _) hs0 (bad (by simp only [eqP, d4, Bool.false_and, Bool.and_false]))
    simp -implicitDefEqProofs only [go_sem, ga, gb, d4]
    refine f2.pthen ?_
    cases d5 : eqL eqObl o1 o2
    case false =>
      simp -implicitDefEqProofs only [go_sem, ga, gb, d5]
      exact .mk _ (.refl _) hs0 (bad (by simp only [eqP, d5, Bool.false_and, Bool.and_false]))
    cases d6 : ((r1.length : Int) != (r2.length : Int))
    case true =>
      have e6 : r1.length ≠ r2.length := by intro e; rw [e] at d6; simp at d6
      simp -implicitDefEqProofs only [go_sem, ga, gb, d5, List.length_map, d6]
      exact .mk _ (.refl _) hs0 (bad (by simp only [eqP, eqL_len e6, Bool.false_and, Bool.and_false]))
    have e6 : r1.length = r2.length := by have : (r1.length : Int) = r2.length := by simpa using d6
                                          omega
    cases d7 : ((k1.length : Int) != (k2.length : Int))
    case true =>
      have e7 : k1.length ≠ k2.length := by intro e; rw [e] at d7; simp at d7
      simp -implicitDefEqProofs only [go_sem, ga, gb, d5, List.length_map, d6, kidsA_eq, d7]
      exact .mk _ (.refl _) hs0 (bad (by simp only [eqP, eqK_eqL, eqL_len e7, Bool.false_and, Bool.and_false]))
    have e7 : k1.length = k2.length := by have : (k1.length : Int) = k2.length := by simpa using d7
                                          omega
    simp -implicitDefEqProofs only [go_sem, ga, gb, d5, List.length_map, d6, kidsA_eq, d7]
    refine .intro (fun m ρ h' => Ab.Sub hb h' ∧ ∃ i : Nat, i ≤ r1.length ∧ m = r1.length - i ∧ (∀ j (h1 : j < r1.length) (h2 : j < r2.length), j < i → eqR r1[j] r2[j] = true) ∧ lk ρ 2 = some (.ptr ia 0) ∧ lk ρ 3 = some (.ptr ib 0) ∧ lk ρ 64 = some (.v (.int .i64 r1.length)) ∧ lk ρ 65 = some (.v (.int .i64 i))) r1.length ?_ ?_
    · refine ⟨.refl _, 0, by omega, rfl, fun j _ _ hj => (by omega), ?_, ?_, ?_, ?_⟩ <;> simp -implicitDefEqProofs only [go_sem]
    · rintro m ρ h' ⟨hs, i, hi, rfl, hc, q2, q3, q64, q65⟩
      have ga1 := hs _ _ ga
      have gb1 := hs _ _ gb
      simp -implicitDefEqProofs only [go_sem, q2, q3, q64, q65]
      refine .intro (fun e => ?_) (fun e => ?_)
      · have hlt : i < r1.length := Int.ofNat_lt.1 (of_decide_eq_true e)
        have hlt2 : i < r2.length := by omega
        have w1 : IntKind.i64.wrap ((i : Int) + 1) = ((i + 1 : Nat) : Int) := by rw [wr64 _ (by omega)]; omega
        simp -implicitDefEqProofs only [go_sem, q2, q3, q64, q65, ga1, gb1]
        refine .fork (hm2 ia (.obj [.s i1, .v (.bool s1), .v (.int .i64 a1), .sl (t1.map anyA) .no, .sl (r1.map ruleA) .no, .sl (kidsA k1) .no, .sl (o1.map oblA) .no] 43) ib (.obj [.s i2, .v (.bool s2), .v (.int .i64 a2), .sl (t2.map anyA) .no, .sl (r2.map ruleA) .no, .sl (kidsA k2) .no, .sl (o2.map oblA) .no] 43)) (.fork [0, 1, 2, 3, 4, 5, 6, 7, 8, 9] 10 (.seq [11, 12, 13]) 11 (.seq [10, 12, 13])) (fun ρ' h2 => Ab.Sub h' h2 ∧ ∃ j6 j7, h2 j6 = some (.obj [.s r1[i].id, .v (.bool r1[i].deny), .sl (r1[i].tgt.map anyA) .no, .sl (r1[i].cond.map nodeA) .no, .sl (r1[i].obls.map oblA) .no] 37) ∧ h2 j7 = some (.obj [.s r2[i].id, .v (.bool r2[i].deny), .sl (r2[i].tgt.map anyA) .no, .sl (r2[i].cond.map nodeA) .no, .sl (r2[i].obls.map oblA) .no] 37) ∧ lk ρ' 6 = some (.ptr j6 0) ∧ lk ρ' 7 = some (.ptr j7 0) ∧ lk ρ' 2 = some (.ptr ia 0) ∧ lk ρ' 3 = some (.ptr ib 0) ∧ lk ρ' 64 = some (.v (.int .i64 r1.length)) ∧ lk ρ' 65 = some (.v (.int .i64 i))) ?_ (by kernel_rfl) rfl (by simp -implicitDefEqProofs only [go_sem]) ?_ ?_
        · exact .hm2 ga1 gb1
        · have m1 := hm2_fst (i := ia) (.obj [.s i1, .v (.bool s1), .v (.int .i64 a1), .sl (t1.map anyA) .no, .sl (r1.map ruleA) .no, .sl (kidsA k1) .no, .sl (o1.map oblA) .no] 43) (j := ib) (.obj [.s i2, .v (.bool s2), .v (.int .i64 a2), .sl (t2.map anyA) .no, .sl (r2.map ruleA) .no, .sl (kidsA k2) .no, .sl (o2.map oblA) .no] 43) nab.symm
          have m2 := hm2_snd ia (.obj [.s i1, .v (.bool s1), .v (.int .i64 a1), .sl (t1.map anyA) .no, .sl (r1.map ruleA) .no, .sl (kidsA k1) .no, .sl (o1.map oblA) .no] 43) ib (.obj [.s i2, .v (.bool s2), .v (.int .i64 a2), .sl (t2.map anyA) .no, .sl (r2.map ruleA) .no, .sl (kidsA k2) .no, .sl (o2.map oblA) .no] 43)
          simp -implicitDefEqProofs only [go_sem, vcDrT, q2, q3, q64, q65, m1, m2]
          refine .at i (by simpa using hlt) (by rw [List.getElem_map]; rfl) ?_
          simp -implicitDefEqProofs only [go_sem, vcDrT, q2, q3, q64, q65, m1, m2, List.getElem_map, ruleA]
          refine .at i (by simpa using hlt2) (by rw [List.getElem_map]; rfl) ?_
          simp -implicitDefEqProofs only [go_sem, vcDrT, q2, q3, q64, q65, m1, m2, List.getElem_map, ruleA]
          refine ⟨?_, ?_⟩
          · intro j6 h6
            have n6a : j6 ≠ ia := fun e => by rw [e, ga1] at h6; cases h6
            have n6b : j6 ≠ ib := fun e => by rw [e, gb1] at h6; cases h6
            have z6 := hm2_none (.obj [.s i1, .v (.bool s1), .v (.int .i64 a1), .sl (t1.map anyA) .no, .sl (r1.map ruleA) .no, .sl (kidsA k1) .no, .sl (o1.map oblA) .no] 43) (.obj [.s i2, .v (.bool s2), .v (.int .i64 a2), .sl (t2.map anyA) .no, .sl (r2.map ruleA) .no, .sl (kidsA k2) .no, .sl (o2.map oblA) .no] 43) n6a n6b
            refine ⟨(Sub.hm2 ga1 gb1).put z6 _, ?_⟩
            simp -implicitDefEqProofs only [go_sem]
            intro j7 h7
            have n67 : j6 ≠ j7 := (ne_new h7).symm
            have h72 := h7
            rw [upd_other _ _ n67.symm] at h72
            have n7a : j7 ≠ ia := fun e => by rw [e, ga1] at h72; cases h72
            have n7b : j7 ≠ ib := fun e => by rw [e, gb1] at h72; cases h72
            have z7 := hm2_none (.obj [.s i1, .v (.bool s1), .v (.int .i64 a1), .sl (t1.map anyA) .no, .sl (r1.map ruleA) .no, .sl (kidsA k1) .no, .sl (o1.map oblA) .no] 43) (.obj [.s i2, .v (.bool s2), .v (.int .i64 a2), .sl (t2.map anyA) .no, .sl (r2.map ruleA) .no, .sl (kidsA k2) .no, .sl (o2.map oblA) .no] 43) n7a n7b
            refine ⟨((Sub.hm2 ga1 gb1).put z6 _).put z7 _, ?_⟩
            simp -implicitDefEqProofs only [go_sem, upd_other _ _ n67, upd_other _ _ n67.symm, upd_same]
            refine ⟨(by repeat (first | exact .hm2 ga1 gb1 | exact .refl _ | refine Sub.put ?_ (by assumption) _)), (by repeat (first | exact .hm2 ga1 gb1 | exact .refl _ | refine Sub.put ?_ (by assumption) _)), ?_⟩
            refine ⟨(by repeat (first | exact .hm2 ga1 gb1 | exact .refl _ | refine Sub.put ?_ (by assumption) _)), j6, j7, ?_, upd_same .., ?_, ?_, ?_, ?_, ?_, ?_⟩
            · rw [upd_other _ _ (by first | exact n67 | exact n67.symm), upd_same]; rfl
            all_goals simp -implicitDefEqProofs only [go_sem, q2, q3, q64, q65]
          · intro j7 h7
            have n7a : j7 ≠ ia := fun e => by rw [e, ga1] at h7; cases h7
            have n7b : j7 ≠ ib := fun e => by rw [e, gb1] at h7; cases h7
            have z7 := hm2_none (.obj [.s i1, .v (.bool s1), .v (.int .i64 a1), .sl (t1.map anyA) .no, .sl (r1.map ruleA) .no, .sl (kidsA k1) .no, .sl (o1.map oblA) .no] 43) (.obj [.s i2, .v (.bool s2), .v (.int .i64 a2), .sl (t2.map anyA) .no, .sl (r2.map ruleA) .no, .sl (kidsA k2) .no, .sl (o2.map oblA) .no] 43) n7a n7b
            refine ⟨(Sub.hm2 ga1 gb1).put z7 _, ?_⟩
            simp -implicitDefEqProofs only [go_sem]
            intro j6 h6
            have n76 : j7 ≠ j6 := (ne_new h6).symm
            have h62 := h6
            rw [upd_other _ _ n76.symm] at h62
            have n6a : j6 ≠ ia := fun e => by rw [e, ga1] at h62; cases h62
            have n6b : j6 ≠ ib := fun e => by rw [e, gb1] at h62; cases h62
            have z6 := hm2_none (.obj [.s i1, .v (.bool s1), .v (.int .i64 a1), .sl (t1.map anyA) .no, .sl (r1.map ruleA) .no, .sl (kidsA k1) .no, .sl (o1.map oblA) .no] 43) (.obj [.s i2, .v (.bool s2), .v (.int .i64 a2), .sl (t2.map anyA) .no, .sl (r2.map ruleA) .no, .sl (kidsA k2) .no, .sl (o2.map oblA) .no] 43) n6a n6b
            refine ⟨((Sub.hm2 ga1 gb1).put z7 _).put z6 _, ?_⟩
            simp -implicitDefEqProofs only [go_sem, upd_other _ _ n76, upd_other _ _ n76.symm, upd_same]
            refine ⟨(by repeat (first | exact .hm2 ga1 gb1 | exact .refl _ | refine Sub.put ?_ (by assumption) _)), (by repeat (first | exact .hm2 ga1 gb1 | exact .refl _ | refine Sub.put ?_ (by assumption) _)), ?_⟩
            refine ⟨(by repeat (first | exact .hm2 ga1 gb1 | exact .refl _ | refine Sub.put ?_ (by assumption) _)), j6, j7, ?_, upd_same .., ?_, ?_, ?_, ?_, ?_, ?_⟩
            · rw [upd_other _ _ (by first | exact n76 | exact n76.symm), upd_same]; rfl
            all_goals simp -implicitDefEqProofs only [go_sem, q2, q3, q64, q65]
        · rintro ρ' h2 ⟨hs2, j6, j7, g6, g7, p6, p7, p2, p3, p64, p65⟩
          have hs3 := hs.trans hs2
          have f1 := targets_ok r1[i].tgt r2[i].tgt h2
          have f2 := sameNode_ok r1[i].cond r2[i].cond h2
          have f3 := sameObl_ok r1[i].obls r2[i].obls h2
          have bad2 : eqR r1[i] r2[i] = false → (.v (.bool false) : AV) = .v (.bool (eqP (.mk i1 s1 a1 t1 r1 k1 o1) (.mk i2 s2 a2 t2 r2 k2 o2))) ∧ h = h := fun e => bad (by
            simp only [eqP, eqL_at i hlt hlt2 e, Bool.false_and, Bool.and_false])
          cases c1 : (r1[i].id == r2[i].id)
          case false =>
            simp -implicitDefEqProofs only [go_sem, p2, p3, p6, p7, p64, p65, g6, g7, c1]
            exact .mk _ (.refl _) (hs0.trans hs3) (bad2 (by simp only [eqR, c1, Bool.false_and, Bool.and_false]))
          cases c2 : (r1[i].deny == r2[i].deny)
          case false =>
            simp -implicitDefEqProofs only [go_sem, p2, p3, p6, p7, p64, p65, g6, g7, c1, c2]
            exact .mk _ (.refl _) (hs0.trans hs3) (bad2 (by simp only [eqR, c2, Bool.false_and, Bool.and_false]))
          simp -implicitDefEqProofs only [go_sem, p2, p3, p6, p7, p64, p65, g6, g7, c1, c2]
          refine f1.pthen ?_
          cases c3 : eqT r1[i].tgt r2[i].tgt
          case false =>
            simp -implicitDefEqProofs only [go_sem, p2, p3, p6, p7, p64, p65, g6, g7, c3]
            exact .mk _ (.refl _) (hs0.trans hs3) (bad2 (by simp only [eqR, c3, Bool.false_and, Bool.and_false]))
          simp -implicitDefEqProofs only [go_sem, p2, p3, p6, p7, p64, p65, g6, g7, c3]
          refine f2.pthen ?_
          cases c4 : eqL eqNode r1[i].cond r2[i].cond
          case false =>
            simp -implicitDefEqProofs only [go_sem, p2, p3, p6, p7, p64, p65, g6, g7, c4]
            exact .mk _ (.refl _) (hs0.trans hs3) (bad2 (by simp only [eqR, c4, Bool.false_and, Bool.and_false]))
          simp -implicitDefEqProofs only [go_sem, p2, p3, p6, p7, p64, p65, g6, g7, c4]
          refine f3.pthen ?_
          cases c5 : eqL eqObl r1[i].obls r2[i].obls
          case false =>
            simp -implicitDefEqProofs only [go_sem, p2, p3, p6, p7, p64, p65, g6, g7, c5]
            exact .mk _ (.refl _) (hs0.trans hs3) (bad2 (by simp only [eqR, c5, Bool.false_and, Bool.and_false]))
          simp -implicitDefEqProofs only [go_sem, p2, p3, p6, p7, p64, p65, g6, g7, c5, w1]
          refine ⟨_, ?_, hs3, i + 1, by omega, rfl, fun j h1 h2 hj => ?_, ?_, ?_, ?_, ?_⟩
          · omega
          · by_cases hji : j = i
            · subst hji; simp only [eqR, c1, c2, c3, c4, c5, Bool.and_self]
            · exact hc j h1 h2 (by omega)
          all_goals simp -implicitDefEqProofs only [go_sem, p2, p3, p64, p65, w1]
      · have hge : i = r1.length := by have := of_decide_eq_false e; omega
        subst hge
        have hrr : eqL eqR r1 r2 = true := eqL_true e6 fun j h1 h2 => hc j h1 h2 h1
        simp -implicitDefEqProofs only [go_sem, q2, q3, q64, q65, ga1, gb1, kidsA_eq, List.length_map]
        refine .intro (fun m ρ h' => Ab.Sub hb h' ∧ ∃ i : Nat, i ≤ k1.length ∧ m = k1.length - i ∧ (∀ j (h1 : j < k1.length) (h2 : j < k2.length), j < i → eqP k1[j] k2[j] = true) ∧ lk ρ 2 = some (.ptr ia 0) ∧ lk ρ 3 = some (.ptr ib 0) ∧ lk ρ 117 = some (.v (.int .i64 k1.length)) ∧ lk ρ 118 = some (.v (.int .i64 i))) k1.length ?_ ?_
        · refine ⟨hs, 0, by omega, rfl, fun j _ _ hj => (by omega), ?_, ?_, ?_, ?_⟩ <;> simp -implicitDefEqProofs only [go_sem, q2, q3]
        · rintro m ρ h' ⟨hs, i, hi, rfl, hc, q2, q3, q117, q118⟩
          have ga1 := hs _ _ ga
          have gb1 := hs _ _ gb
          simp -implicitDefEqProofs only [go_sem, q2, q3, q117, q118]
          refine .intro (fun e => ?_) (fun e => ?_)
          · have hlt : i < k1.length := Int.ofNat_lt.1 (of_decide_eq_true e)
            have hlt2 : i < k2.length := by omega
            have w1 : IntKind.i64.wrap ((i : Int) + 1) = ((i + 1 : Nat) : Int) := by rw [wr64 _ (by omega)]; omega
            have ihi := ihk i hlt k2[i] h'
            simp -implicitDefEqProofs only [go_sem, q2, q3, q117, q118, ga1, gb1]
            refine .quiet (by kernel_rfl) ?_
            simp -implicitDefEqProofs only [go_sem, q2, q3, q117, q118, ga1, gb1, kidsA_eq]
            cases ek1 : k1[i] with
            | mk x1 x2 x3 x4 x5 x6 x7 =>
            cases ek2 : k2[i] with
            | mk y1 y2 y3 y4 y5 y6 y7 =>
            have ihi2 := ihi
            rw [ek1, ek2] at ihi
            simp only [polA, tgtA, oblsA] at ihi
            refine .at i (by simpa using hlt) (by rw [List.getElem_map]; exact polA_len _) ?_
            simp -implicitDefEqProofs only [go_sem, q2, q3, q117, q118, ga1, gb1, List.getElem_map, ek1, polA, tgtA, oblsA, kidsA_eq]
            refine .at i (by simpa using hlt2) (by rw [List.getElem_map]; exact polA_len _) ?_
            simp -implicitDefEqProofs only [go_sem, q2, q3, q117, q118, ga1, gb1, List.getElem_map, ek2, polA, tgtA, oblsA, kidsA_eq]
            simp only [kidsA_eq] at ihi
            refine ⟨_, ihi, ?_⟩
            rw [← ek1, ← ek2]
            cases c6 : eqP k1[i] k2[i]
            · simp -implicitDefEqProofs only [go_sem, q2, q3, q117, q118]
              exact .mk _ (.refl _) (hs0.trans hs) (bad (by simp only [eqP, eqK_eqL, eqL_at i hlt hlt2 c6, Bool.and_false]))
            · simp -implicitDefEqProofs only [go_sem, q2, q3, q117, q118, w1]
              refine ⟨_, ?_, hs, i + 1, by omega, rfl, fun j h1 h2 hj => ?_, ?_, ?_, ?_, ?_⟩
              · omega
              · by_cases hji : j = i
                · subst hji; exact c6
                · exact hc j h1 h2 (by omega)
              all_goals simp -implicitDefEqProofs only [go_sem, q2, q3, q117, q118, w1]
          · have hge : i = k1.length := by have := of_decide_eq_false e; omega
            subst hge
            have hkk : eqL eqP k1 k2 = true := eqL_true e7 fun j h1 h2 => hc j h1 h2 h1
            simp -implicitDefEqProofs only [go_sem, q2, q3, q117, q118]
            exact .mk _ (.refl _) (hs0.trans hs) ⟨by simp only [eqP, d1, d2, d3, d4, d5, hrr, eqK_eqL, hkk, Bool.and_self]; rfl, rfl⟩
termination_by p => SizeOf.sizeOf p
decreasing_by
  have := List.sizeOf_lt_of_mem (List.getElem_mem hj)
  simp only [PolD.mk.sizeOf_spec]
  omega
end Go.Proofs.YtdcchpbncckhlaaDoor

set_option linter.unusedSimpArgs false
set_option linter.unusedVariables false
namespace Go.Proofs.YtdcchpbncckhlaaDoor
open Go Go.Ab Go.Bf
def pr1 : Txt := [112, 111, 108, 105, 99, 121, 32, 112, 32, 100, 101, 110, 121, 111, 118, 101, 114, 32, 123, 32, 112, 101, 114, 109, 105, 116, 32, 114, 32, 105, 102, 32, 40, 101, 113, 32, 40, 111, 110, 101, 32, 99, 97, 115, 101, 46, 111, 119, 110, 101, 114, 41, 32, 35, 97, 110, 110, 41, 59, 32, 125]
def pr2 : Txt := [112, 111, 108, 105, 99, 121, 32, 112, 32, 100, 101, 110, 121, 111, 118, 101, 114, 32, 123, 32, 112, 101, 114, 109, 105, 116, 32, 114, 32, 125]
def pr3 : Txt := [112, 111, 108, 105, 99, 121, 32, 112, 32, 111, 110, 108, 121, 32, 123, 32, 125]
def pr4 : Txt := [112, 111, 108, 105, 99, 121, 32, 112, 32, 102, 105, 114, 115, 116, 32, 123, 32, 112, 101, 114, 109, 105, 116, 32, 114, 32, 105, 102, 32, 99, 97, 115, 101, 46, 120, 59, 32, 125]
def prNodes : List NodeD := [⟨2, ⟨0, 0, []⟩, ⟨3, [111, 119, 110, 101, 114], false⟩⟩, ⟨3, ⟨0, 0, []⟩, ⟨0, [], false⟩⟩, ⟨1, ⟨5, 0, [97, 110, 110]⟩, ⟨0, [], false⟩⟩, ⟨6, ⟨0, 0, []⟩, ⟨0, [], false⟩⟩]
def prPol : PolD := .mk [112] false 1 [] [⟨[114], false, [], prNodes, []⟩] [] []
set_option maxRecDepth 100000 in
theorem pr1_is : parseD pr1 = (prPol, 0, 0) := by kernel_rfl
set_option maxRecDepth 100000 in
theorem pr2_is : parseD pr2 = (zeroP, 5, 29) := by kernel_rfl
set_option maxRecDepth 100000 in
theorem pr3_is : parseD pr3 = (zeroP, 5, 17) := by kernel_rfl
set_option maxRecDepth 100000 in
theorem pr4_is : parseD pr4 = (zeroP, 5, 29) := by kernel_rfl
theorem prPol_eq : eqP prPol prPol = true := by kernel_rfl
theorem new2 {h : Heap} {i j : Nat} {b : Blk} (e : upd h i (some b) j = none) : j ≠ i ∧ h j = none :=
  ⟨ne_upd e, by rw [upd_other _ _ (ne_upd e)] at e; exact e⟩
theorem parseRuns_ok (h : Heap) (he : ErrT h) : FnOK Tryd.prog 6 [] h fun r h' => r = .v (.bool true) ∧ h' = h := by
  have hp := fun s hh hs => parse_ok s hh (he.sub hs)
  have p1 := hp pr1
  have p2 := hp pr2
  have p3 := hp pr3
  have p4 := hp pr4
  rw [pr1_is] at p1
  rw [pr2_is] at p2
  rw [pr3_is] at p3
  rw [pr4_is] at p4
  refine FnOK.body hU hm Tryd.func6 rfl (by kernel_rfl) 77 rfl [.tmp 0] rfl (Nat.le_of_ble_eq_true rfl) (fun hwf => ?_)
  simp -implicitDefEqProofs only [go_sem]
  refine (p1 _ (.refl _)).pthen ?_
  simp -implicitDefEqProofs only [go_sem, parsedA, polA, prPol]
  intro i1 h1
  simp -implicitDefEqProofs only [go_sem]
  intro i5 h5
  simp -implicitDefEqProofs only [go_sem]
  refine (p2 _ ((Sub.upd_new h1).trans (.upd_new h5))).pthen ?_
  simp -implicitDefEqProofs only [go_sem, parsedA, polA, zeroP]
  intro i6 h6
  simp -implicitDefEqProofs only [go_sem]
  refine (p3 _ (((Sub.upd_new h1).trans (.upd_new h5)).trans (.upd_new h6))).pthen ?_
  simp -implicitDefEqProofs only [go_sem, parsedA, polA, zeroP]
  intro i9 h9
  simp -implicitDefEqProofs only [go_sem]
  refine (p4 _ ((((Sub.upd_new h1).trans (.upd_new h5)).trans (.upd_new h6)).trans (.upd_new h9))).pthen ?_
  simp -implicitDefEqProofs only [go_sem, parsedA, polA, zeroP]
  intro i12 h12
  obtain ⟨n1, g1⟩ := new2 h12
  obtain ⟨n2, g2⟩ := new2 g1
  obtain ⟨n3, g3⟩ := new2 g2
  obtain ⟨n4, g4⟩ := new2 g3
  obtain ⟨n5, g5⟩ := new2 h9
  obtain ⟨n6, g6⟩ := new2 g5
  obtain ⟨n7, g7⟩ := new2 g6
  obtain ⟨n8, g8⟩ := new2 h6
  obtain ⟨n9, g9⟩ := new2 g8
  obtain ⟨n10, g10⟩ := new2 h5
  simp -implicitDefEqProofs only [go_sem, upd_ne, n1, n2, n3, n4, n5, n6, n7, n8, n9, n10, n1.symm, n2.symm, n3.symm, n4.symm, n5.symm, n6.symm, n7.symm, n8.symm, n9.symm, n10.symm]
  refine FnOK.strip ?_
  have e : ∀ (a : List AV) (k : Heap), a = [polA prPol, polA prPol] → FnOK Tryd.prog 23 [polA prPol, polA prPol] k = FnOK Tryd.prog 23 a k := fun a k e => by rw [e]
  rw [← e _ _ (by simp [strip, stripL, polA, prPol, prNodes, kidsA, ruleA, tgtA, anyA, allA, matchA, condA, nodeA, oblsA, oblA])]
  refine (policies_ok prPol prPol _).pthen ?_
  simp -implicitDefEqProofs only [go_sem, prPol_eq]
  exact .mk _ (.refl _) (((((Sub.upd_new h1).trans (.upd_new h5)).trans (.upd_new h6)).trans (.upd_new h9)).trans (.upd_new h12)) ⟨rfl, rfl⟩
def startH (ev : Value) : Heap := tabH [(1, pow10V), (3, [ev])]
theorem start_err {ev : Value} (hev : ev = .nilIface ∨ ∃ te pe, ev = .iface te pe) : ErrT (startH ev) := ⟨ev, hev, 1, rfl⟩
end Go.Proofs.YtdcchpbncckhlaaDoor

set_option linter.unusedSimpArgs false
set_option linter.unusedVariables false
namespace Go.Proofs.YtdcchpbncckhlaaDoor
open Go Go.Ab Go.Bf
end Go.Proofs.YtdcchpbncckhlaaDoor

set_option linter.unusedSimpArgs false
set_option linter.unusedVariables false
namespace Go.Proofs.YtdcchpbncckhlaaDoor
open Go Go.Ab Go.Bf
theorem within_ok (m : Int) (b : Nat) (h : Heap) (hm' : -9223372036854775808 ≤ m ∧ m ≤ 9223372036854775807) (hb : b ≤ 1000000) :
    FnOK Tryd.prog 25 [.v (.int .i64 m), .v (.int .i64 0), .v (.int .i64 b)] h fun r h' => r = .v (.int .i64 (withinD m b)) ∧ h' = h := by
  have w0 : IntKind.i64.wrap ((b : Int) - 0) = b := IntWalk.i64_in _ (by omega)
  have w1 : IntKind.i64.wrap (b : Int) = b := IntWalk.i64_in _ (by omega)
  have w2 : IntKind.i64.wrap ((b : Int) + 1) = (b : Int) + 1 := IntWalk.i64_in _ (by omega)
  have t1 := Int.tmod_lt_of_pos m (show 0 < (b : Int) + 1 by omega)
  have t2 := Int.lt_tmod_of_pos m (show 0 < (b : Int) + 1 by omega)
  have hd : (withinD m b : Int) = if m.tmod (b + 1) < 0 then m.tmod (b + 1) + (b + 1) else m.tmod (b + 1) := by
    unfold withinD; split <;> omega
  generalize hq : m.tmod ((b : Int) + 1) = q at t1 t2 hd
  have w3 : IntKind.i64.wrap (q + b) = q + b := IntWalk.i64_in _ (by omega)
  have w4 : IntKind.i64.wrap (q + b - 0) = q + b := by rw [Int.sub_zero]; exact w3
  have w5 : IntKind.i64.wrap (q + b + 1) = q + b + 1 := IntWalk.i64_in _ (by omega)
  refine FnOK.body hU hm Tryd.func25 rfl (by kernel_rfl) 24 rfl [.tmp 6] rfl (Nat.le_of_ble_eq_true rfl) (fun hwf => ?_)
  simp -implicitDefEqProofs only [go_sem, w0, w1, w2, hq, Int.sub_zero]
  refine ⟨by omega, .intro (fun e => ?_) (fun e => ?_)⟩
  · have e := of_decide_eq_true e
    rw [if_pos e] at hd
    simp -implicitDefEqProofs only [go_sem, w3, w4, w5, Int.sub_zero]
    have w6 : IntKind.i64.wrap (0 + (q + b + 1)) = q + b + 1 := by rw [Int.zero_add]; exact w5
    have w7 : IntKind.i64.wrap (q + b + 1) = q + b + 1 := IntWalk.i64_in _ (by omega)
    simp -implicitDefEqProofs only [go_sem, w6, w7, Int.zero_add]
    exact .same (.refl _) ⟨by rw [hd]; simp only [oneOr]; rw [Int.add_assoc], rfl⟩
  · have e := of_decide_eq_false e
    rw [if_neg e] at hd
    have w7 : IntKind.i64.wrap q = q := IntWalk.i64_in q (by omega)
    have w6 : IntKind.i64.wrap (0 + q) = q := by rw [Int.zero_add]; exact w7
    simp -implicitDefEqProofs only [go_sem, w6, w7, Int.zero_add]
    exact .same (.refl _) ⟨by rw [hd]; rfl, rfl⟩
theorem parse_at {s s' : Txt} (e : s = s') {h : Heap} (he : ErrT h) {x : PolD × Int × Int} (ex : parseD s' = x) {Q : AV → Heap → Prop} (k : Q (parsedA x) h) : FnOK Tryd.prog 26 [.s s] h Q := by
  subst e
  subst ex
  exact (parse_ok s h he).pthen k
end Go.Proofs.YtdcchpbncckhlaaDoor

set_option linter.unusedSimpArgs false
set_option linter.unusedVariables false
namespace Go.Proofs.YtdcchpbncckhlaaDoor
open Go Go.Ab Go.Bf
theorem parseCut_ok (x y : AV) (dx : Dat U 9 x) (dy : Dat U 3 y) (h : Heap) (he : ErrT h) : FnOK Tryd.prog 8 [x, y] h fun r h' => r = .v (.bool true) ∧ h' = h := by
  obtain ⟨s0, rfl, hs0⟩ := dx.str_inv (by simp only [go_sem])
  obtain ⟨m, rfl, hm1⟩ := dy.i64 (by simp only [go_sem])
  have hlim : lim = 9223372036854775808 := rfl
  refine FnOK.body hU hm Tryd.func8 rfl (by kernel_rfl) 90 rfl [.tmp 4] rfl (Nat.le_of_ble_eq_true rfl) (fun hwf => ?_)
  simp -implicitDefEqProofs only [go_sem, iA]
  cases d1 : decide ((800 : Int) < (s0.length : Int))
  · have hle : s0.length ≤ 800 := by have := of_decide_eq_false d1; omega
    simp -implicitDefEqProofs only [go_sem, d1]
    obtain ⟨x1, hx1⟩ : ∃ x1, parseD s0 = x1 := ⟨_, rfl⟩
    obtain ⟨⟨pid, pset, palg, ptgt, prules, pkids, pobls⟩, e1, a1⟩ := x1
    refine parse_at rfl he hx1 ?_
    simp -implicitDefEqProofs only [go_sem, parsedA, polA]
    intro i5 h5
    simp -implicitDefEqProofs only [go_sem]
    cases d2 : (e1 == (0 : Int))
    · simp -implicitDefEqProofs only [go_sem, d2, bne]
      refine (parseRuns_ok _ (he.sub (.upd_new h5))).pthen ?_
      simp -implicitDefEqProofs only [go_sem]
      exact .mk _ (.refl _) (.upd_new h5) ⟨rfl, rfl⟩
    · have e0 : e1 = 0 := by simpa using d2
      subst e0
      simp -implicitDefEqProofs only [go_sem, d2, bne]
      refine ⟨by omega, ?_⟩
      have hpb := parse_brace s0 (by omega) (by rw [hx1])
      have hpw := parse_word s0 (by omega) (by rw [hx1])
      obtain ⟨x2, hx2⟩ : ∃ x2, parseD (s0 ++ [32, 125]) = x2 := ⟨_, rfl⟩
      rw [hx2] at hpb
      obtain ⟨⟨pid2, pset2, palg2, ptgt2, prules2, pkids2, pobls2⟩, e2, a2⟩ := x2
      simp only at hpb
      subst hpb
      have sub5 : ∀ b, Sub h (upd h i5 b) := fun b => .upd_new h5
      refine parse_at rfl (he.sub (sub5 _)) hx2 ?_
      simp -implicitDefEqProofs only [go_sem, parsedA, polA]
      intro i8 h8
      simp -implicitDefEqProofs only [go_sem]
      refine ⟨by omega, ?_⟩
      have sub8 : ∀ b, Sub h (upd (upd h i5 _) i8 b) := fun b => (sub5 _).new h8 b
      refine parse_at rfl (he.sub (sub8 _)) hpw ?_
      simp -implicitDefEqProofs only [go_sem, parsedA, polA, zeroP]
      intro i11 h11
      have sub11 : ∀ b, Sub h (upd (upd (upd h i5 _) i8 _) i11 b) := fun b => (sub8 _).new h11 b
      simp -implicitDefEqProofs only [go_sem]
      have w9 : IntKind.i64.wrap ((s0.length : Int) + 1) = (s0.length : Int) + 1 := wr64 _ (by omega)
      refine .intro (fun q ρ H' => Sub h H' ∧ ∃ i : Nat, i ≤ s0.length ∧ q = s0.length - i ∧ (∀ c ∈ s0.take i, c ≠ 123) ∧ lk ρ 0 = some (.s s0) ∧ lk ρ 1 = some (.v (.int .i64 m)) ∧ lk ρ 9 = some (.v (.int .i64 5)) ∧ lk ρ 12 = some (.v (.int .i64 5)) ∧ lk ρ 13 = some (.v (.int .i64 ((s0.length : Int) + 1))) ∧ lk ρ 14 = some (.v (.int .i64 i))) s0.length ?_ ?_
      · refine ⟨sub11 _, 0, Nat.zero_le _, rfl, by simp, ?_, ?_, ?_, ?_, ?_, ?_⟩ <;> simp -implicitDefEqProofs only [go_sem] <;> rfl
      rintro q ρ H' ⟨hsub, i, hi, rfl, hnb, r0, r1, r9, r12, r13, r14⟩
      cases d3 : decide ((i : Int) < (s0.length : Int))
      · simp -implicitDefEqProofs only [go_sem, r0, r1, r9, r12, r13, r14, d3]
        refine (within_ok m i _ hm1 (by omega)).pthen ?_
        have hk := withinD_le m i
        generalize withinD m i = k at hk ⊢
        simp -implicitDefEqProofs only [go_sem, r0, r1, r9, r12, r13, r14]
        refine ⟨by omega, by omega, by omega, ?_⟩
        have hcut : cutL s0 0 (k : Int) (none : Option Operand).isSome (some (Operand.tmp 64)).isSome = s0.take k := rfl
        have hpc := parse_cut s0 k (fun c hc => hnb c ((List.take_subset_take_left s0 hk) hc)) (by rw [hx1])
        obtain ⟨x4, hx4⟩ : ∃ x4, parseD (s0.take k) = x4 := ⟨_, rfl⟩
        rw [hx4] at hpc
        obtain ⟨⟨pid4, pset4, palg4, ptgt4, prules4, pkids4, pobls4⟩, e4, a4⟩ := x4
        simp only at hpc
        subst hpc
        refine parse_at hcut (he.sub hsub) hx4 ?_
        simp -implicitDefEqProofs only [go_sem, parsedA, polA]
        intro i16 h16
        simp -implicitDefEqProofs only [go_sem, r0, r1, r9, r12, r13, r14, w9, beq_self_eq_true]
        refine (parseRuns_ok _ (he.sub (hsub.new h16 _))).pthen ?_
        simp -implicitDefEqProofs only [go_sem]
        exact .mk _ (.refl _) (hsub.new h16 _) ⟨rfl, rfl⟩
      · have hlt : i < s0.length := Int.ofNat_lt.1 (of_decide_eq_true d3)
        have w1 : IntKind.i64.wrap ((i : Int) + 1) = ((i + 1 : Nat) : Int) := by rw [wr64 _ (by omega)]; omega
        cases d4 : ((s0[i].toNat : Int) == 123)
        · have hc : s0[i] ≠ 123 := fun e => by rw [e] at d4; simp at d4
          simp -implicitDefEqProofs only [go_sem, r0, r1, r9, r12, r13, r14, d3]
          refine .at i hlt ?_
          simp -implicitDefEqProofs only [go_sem, r0, r1, r9, r12, r13, r14, d3, byteA, d4, bne, w1]
          refine ⟨_, ?_, hsub, i + 1, hlt, rfl, ?_, ?_, ?_, ?_, ?_, ?_, ?_⟩
          · omega
          · intro c hc'
            rw [List.take_succ_eq_append_getElem hlt] at hc'
            rcases List.mem_append.1 hc' with hc' | hc'
            · exact hnb c hc'
            · rw [List.mem_singleton.1 hc']; exact hc
          all_goals simp -implicitDefEqProofs only [go_sem, r0, r1, r9, r12, r13, r14, w1]
        · simp -implicitDefEqProofs only [go_sem, r0, r1, r9, r12, r13, r14, d3]
          refine .at i hlt ?_
          simp -implicitDefEqProofs only [go_sem, r0, r1, r9, r12, r13, r14, d3, byteA, d4, bne]
          refine (within_ok m i _ hm1 (by omega)).pthen ?_
          have hk := withinD_le m i
          generalize withinD m i = k at hk ⊢
          simp -implicitDefEqProofs only [go_sem, r0, r1, r9, r12, r13, r14]
          refine ⟨by omega, by omega, by omega, ?_⟩
          have hcut : cutL s0 0 (k : Int) (none : Option Operand).isSome (some (Operand.tmp 64)).isSome = s0.take k := rfl
          have hpc := parse_cut s0 k (fun c hc => hnb c ((List.take_subset_take_left s0 hk) hc)) (by rw [hx1])
          obtain ⟨x4, hx4⟩ : ∃ x4, parseD (s0.take k) = x4 := ⟨_, rfl⟩
          rw [hx4] at hpc
          obtain ⟨⟨pid4, pset4, palg4, ptgt4, prules4, pkids4, pobls4⟩, e4, a4⟩ := x4
          simp only at hpc
          subst hpc
          refine parse_at hcut (he.sub hsub) hx4 ?_
          simp -implicitDefEqProofs only [go_sem, parsedA, polA]
          intro i16 h16
          simp -implicitDefEqProofs only [go_sem, r0, r1, r9, r12, r13, r14, w9, beq_self_eq_true]
          refine (parseRuns_ok _ (he.sub (hsub.new h16 _))).pthen ?_
          simp -implicitDefEqProofs only [go_sem]
          exact .mk _ (.refl _) (hsub.new h16 _) ⟨rfl, rfl⟩
  · have hl := of_decide_eq_true d1
    simp -implicitDefEqProofs only [go_sem, d1]
    refine ⟨by omega, by omega, by omega, ?_⟩
    have hle : (cutL s0 0 800 (none : Option Operand).isSome (some (Operand.const (Value.int IntKind.i64 800))).isSome).length ≤ 800 := by
      show (s0.take 800).length ≤ 800
      rw [List.length_take]; omega
    generalize cutL s0 0 800 none.isSome (some (Operand.const (Value.int IntKind.i64 800))).isSome = s1 at hle ⊢
    obtain ⟨x1, hx1⟩ : ∃ x1, parseD s1 = x1 := ⟨_, rfl⟩
    obtain ⟨⟨pid, pset, palg, ptgt, prules, pkids, pobls⟩, e1, a1⟩ := x1
    refine parse_at rfl he hx1 ?_
    simp -implicitDefEqProofs only [go_sem, parsedA, polA]
    intro i5 h5
    simp -implicitDefEqProofs only [go_sem]
    cases d2 : (e1 == (0 : Int))
    · simp -implicitDefEqProofs only [go_sem, d2, bne]
      refine (parseRuns_ok _ (he.sub (.upd_new h5))).pthen ?_
      simp -implicitDefEqProofs only [go_sem]
      exact .mk _ (.refl _) (.upd_new h5) ⟨rfl, rfl⟩
    · have e0 : e1 = 0 := by simpa using d2
      subst e0
      simp -implicitDefEqProofs only [go_sem, d2, bne]
      refine ⟨by omega, ?_⟩
      have hpb := parse_brace s1 (by omega) (by rw [hx1])
      have hpw := parse_word s1 (by omega) (by rw [hx1])
      obtain ⟨x2, hx2⟩ : ∃ x2, parseD (s1 ++ [32, 125]) = x2 := ⟨_, rfl⟩
      rw [hx2] at hpb
      obtain ⟨⟨pid2, pset2, palg2, ptgt2, prules2, pkids2, pobls2⟩, e2, a2⟩ := x2
      simp only at hpb
      subst hpb
      have sub5 : ∀ b, Sub h (upd h i5 b) := fun b => .upd_new h5
      refine parse_at rfl (he.sub (sub5 _)) hx2 ?_
      simp -implicitDefEqProofs only [go_sem, parsedA, polA]
      intro i8 h8
      simp -implicitDefEqProofs only [go_sem]
      refine ⟨by omega, ?_⟩
      have sub8 : ∀ b, Sub h (upd (upd h i5 _) i8 b) := fun b => (sub5 _).new h8 b
      refine parse_at rfl (he.sub (sub8 _)) hpw ?_
      simp -implicitDefEqProofs only [go_sem, parsedA, polA, zeroP]
      intro i11 h11
      have sub11 : ∀ b, Sub h (upd (upd (upd h i5 _) i8 _) i11 b) := fun b => (sub8 _).new h11 b
      simp -implicitDefEqProofs only [go_sem]
      have w9 : IntKind.i64.wrap ((s1.length : Int) + 1) = (s1.length : Int) + 1 := wr64 _ (by omega)
      refine .intro (fun q ρ H' => Sub h H' ∧ ∃ i : Nat, i ≤ s1.length ∧ q = s1.length - i ∧ (∀ c ∈ s1.take i, c ≠ 123) ∧ lk ρ 0 = some (.s s1) ∧ lk ρ 1 = some (.v (.int .i64 m)) ∧ lk ρ 9 = some (.v (.int .i64 5)) ∧ lk ρ 12 = some (.v (.int .i64 5)) ∧ lk ρ 13 = some (.v (.int .i64 ((s1.length : Int) + 1))) ∧ lk ρ 14 = some (.v (.int .i64 i))) s1.length ?_ ?_
      · refine ⟨sub11 _, 0, Nat.zero_le _, rfl, by simp, ?_, ?_, ?_, ?_, ?_, ?_⟩ <;> simp -implicitDefEqProofs only [go_sem] <;> rfl
      rintro q ρ H' ⟨hsub, i, hi, rfl, hnb, r0, r1, r9, r12, r13, r14⟩
      cases d3 : decide ((i : Int) < (s1.length : Int))
      · simp -implicitDefEqProofs only [go_sem, r0, r1, r9, r12, r13, r14, d3]
        refine (within_ok m i _ hm1 (by omega)).pthen ?_
        have hk := withinD_le m i
        generalize withinD m i = k at hk ⊢
        simp -implicitDefEqProofs only [go_sem, r0, r1, r9, r12, r13, r14]
        refine ⟨by omega, by omega, by omega, ?_⟩
        have hcut : cutL s1 0 (k : Int) (none : Option Operand).isSome (some (Operand.tmp 64)).isSome = s1.take k := rfl
        have hpc := parse_cut s1 k (fun c hc => hnb c ((List.take_subset_take_left s1 hk) hc)) (by rw [hx1])
        obtain ⟨x4, hx4⟩ : ∃ x4, parseD (s1.take k) = x4 := ⟨_, rfl⟩
        rw [hx4] at hpc
        obtain ⟨⟨pid4, pset4, palg4, ptgt4, prules4, pkids4, pobls4⟩, e4, a4⟩ := x4
        simp only at hpc
        subst hpc
        refine parse_at hcut (he.sub hsub) hx4 ?_
        simp -implicitDefEqProofs only [go_sem, parsedA, polA]
        intro i16 h16
        simp -implicitDefEqProofs only [go_sem, r0, r1, r9, r12, r13, r14, w9, beq_self_eq_true]
        refine (parseRuns_ok _ (he.sub (hsub.new h16 _))).pthen ?_
        simp -implicitDefEqProofs only [go_sem]
        exact .mk _ (.refl _) (hsub.new h16 _) ⟨rfl, rfl⟩
      · have hlt : i < s1.length := Int.ofNat_lt.1 (of_decide_eq_true d3)
        have w1 : IntKind.i64.wrap ((i : Int) + 1) = ((i + 1 : Nat) : Int) := by rw [wr64 _ (by omega)]; omega
        cases d4 : ((s1[i].toNat : Int) == 123)
        · have hc : s1[i] ≠ 123 := fun e => by rw [e] at d4; simp at d4
          simp -implicitDefEqProofs only [go_sem, r0, r1, r9, r12, r13, r14, d3]
          refine .at i hlt ?_
          simp -implicitDefEqProofs only [go_sem, r0, r1, r9, r12, r13, r14, d3, byteA, d4, bne, w1]
          refine ⟨_, ?_, hsub, i + 1, hlt, rfl, ?_, ?_, ?_, ?_, ?_, ?_, ?_⟩
          · omega
          · intro c hc'
            rw [List.take_succ_eq_append_getElem hlt] at hc'
            rcases List.mem_append.1 hc' with hc' | hc'
            · exact hnb c hc'
            · rw [List.mem_singleton.1 hc']; exact hc
          all_goals simp -implicitDefEqProofs only [go_sem, r0, r1, r9, r12, r13, r14, w1]
        · simp -implicitDefEqProofs only [go_sem, r0, r1, r9, r12, r13, r14, d3]
          refine .at i hlt ?_
          simp -implicitDefEqProofs only [go_sem, r0, r1, r9, r12, r13, r14, d3, byteA, d4, bne]
          refine (within_ok m i _ hm1 (by omega)).pthen ?_
          have hk := withinD_le m i
          generalize withinD m i = k at hk ⊢
          simp -implicitDefEqProofs only [go_sem, r0, r1, r9, r12, r13, r14]
          refine ⟨by omega, by omega, by omega, ?_⟩
          have hcut : cutL s1 0 (k : Int) (none : Option Operand).isSome (some (Operand.tmp 64)).isSome = s1.take k := rfl
          have hpc := parse_cut s1 k (fun c hc => hnb c ((List.take_subset_take_left s1 hk) hc)) (by rw [hx1])
          obtain ⟨x4, hx4⟩ : ∃ x4, parseD (s1.take k) = x4 := ⟨_, rfl⟩
          rw [hx4] at hpc
          obtain ⟨⟨pid4, pset4, palg4, ptgt4, prules4, pkids4, pobls4⟩, e4, a4⟩ := x4
          simp only at hpc
          subst hpc
          refine parse_at hcut (he.sub hsub) hx4 ?_
          simp -implicitDefEqProofs only [go_sem, parsedA, polA]
          intro i16 h16
          simp -implicitDefEqProofs only [go_sem, r0, r1, r9, r12, r13, r14, w9, beq_self_eq_true]
          refine (parseRuns_ok _ (he.sub (hsub.new h16 _))).pthen ?_
          simp -implicitDefEqProofs only [go_sem]
          exact .mk _ (.refl _) (hsub.new h16 _) ⟨rfl, rfl⟩
theorem parseCut_law (ev : Value) (hev : ev = .nilIface ∨ ∃ te pe, ev = .iface te pe) (x y : AV) (dx : Dat U 9 x) (dy : Dat U 3 y) : FnOK Tryd.prog 8 [x, y] (tabH [(1, pow10V), (3, [ev])]) fun r _ => r = .v (.bool true) := (parseCut_ok x y dx dy _ (start_err hev)).mono fun _ _ h => h.1
end Go.Proofs.YtdcchpbncckhlaaDoor
