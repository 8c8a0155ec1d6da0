/- The law ParseRuns: pack 6 of its texts. -/
import Derived.Test.YtdcchpbncckhlaaDoorPk1
import Derived.Test.YtdcchpbncckhlaaDoorPk2
import Derived.Test.YtdcchpbncckhlaaDoorPk3
import Derived.Test.YtdcchpbncckhlaaDoorPk4
import Derived.Test.YtdcchpbncckhlaaDoorPk5
/- Policies: the same? -/
set_option linter.unusedSimpArgs false
set_option linter.unusedVariables false
namespace Go.Proofs.YtdcchpbncckhlaaDoor
open Go Go.Ab Go.Bf

set_option maxRecDepth 100000 in
theorem policies_ok : ∀ (p q : PolD) (h : Heap), FnOK Tryd.prog 23 [polA p, polA q] h fun r h' => r = .v (.bool (eqP p q)) ∧ h' = h
  | .mk i1 s1 a1 t1 r1 k1 o1, .mk i2 s2 a2 t2 r2 k2 o2, h => by
    have ihk : ∀ (j : Nat) (hj : j < k1.length) (q : PolD) (h : Heap), FnOK Tryd.prog 23 [polA k1[j], polA q] h fun r h' => r = .v (.bool (eqP k1[j] q)) ∧ h' = h :=
      fun j hj q h => policies_ok k1[j] q h
    refine FnOK.body hU hm Tryd.func23 rfl (by kernel_rfl) 134 rfl [.tmp 4] rfl (Nat.le_of_ble_eq_true rfl) (fun hwf => ?_)
    have hlen : k1.length < 9223372036854775808 ∧ r1.length < 9223372036854775808 := by
      have := hwf (polA (.mk i1 s1 a1 t1 r1 k1 o1)) (by simp)
      simp only [polA, wfA] at this
      have g1 := this (.sl (kidsA k1) .no) (by simp)
      have g2 := this (.sl (r1.map ruleA) .no) (by simp)
      simp only [wf1, List.length_map, kidsA_eq] at g1 g2
      exact ⟨g1, g2⟩
    simp -implicitDefEqProofs only [go_sem, ↓reduceIte, Nat.reduceLT, Nat.reduceEqDiff, Nat.reduceAdd, Nat.reduceLeDiff, Nat.reduceMul, Nat.reduceSub, Int.natCast_zero, Int.ofNat_zero, Int.natCast_one, Int.cast_ofNat_Int, bne_self_eq_false, beq_self_eq_true, Int.reduceBEq, Int.reduceBNe, Bool.not_true, Bool.not_false, polA, tgtA, oblsA]
    intro ia hia
    simp -implicitDefEqProofs only [go_sem, ↓reduceIte, Nat.reduceLT, Nat.reduceEqDiff, Nat.reduceAdd, Nat.reduceLeDiff, Nat.reduceMul, Nat.reduceSub, Int.natCast_zero, Int.ofNat_zero, Int.natCast_one, Int.cast_ofNat_Int, bne_self_eq_false, beq_self_eq_true, Int.reduceBEq, Int.reduceBNe, Bool.not_true, Bool.not_false]
    intro ib hib
    have nab := ne_new hib
    have hs0 : Ab.Sub h (upd (upd h ia (some (.obj [.s i1, .v (.bool s1), .v (.int .i64 a1), .sl (t1.map anyA) .no, .sl (r1.map ruleA) .no, .sl (kidsA k1) .no, .sl (o1.map oblA) .no] 43))) ib (some (.obj [.s i2, .v (.bool s2), .v (.int .i64 a2), .sl (t2.map anyA) .no, .sl (r2.map ruleA) .no, .sl (kidsA k2) .no, .sl (o2.map oblA) .no] 43))) := (Sub.upd_new hia).trans (.upd_new hib)
    obtain ⟨hb, ehb⟩ : ∃ hb, upd (upd h ia (some (.obj [.s i1, .v (.bool s1), .v (.int .i64 a1), .sl (t1.map anyA) .no, .sl (r1.map ruleA) .no, .sl (kidsA k1) .no, .sl (o1.map oblA) .no] 43))) ib (some (.obj [.s i2, .v (.bool s2), .v (.int .i64 a2), .sl (t2.map anyA) .no, .sl (r2.map ruleA) .no, .sl (kidsA k2) .no, .sl (o2.map oblA) .no] 43)) = hb := ⟨_, rfl⟩
    have ga : hb ia = some (.obj [.s i1, .v (.bool s1), .v (.int .i64 a1), .sl (t1.map anyA) .no, .sl (r1.map ruleA) .no, .sl (kidsA k1) .no, .sl (o1.map oblA) .no] 43) := by rw [← ehb, upd_other _ _ nab.symm, upd_same]
    have gb : hb ib = some (.obj [.s i2, .v (.bool s2), .v (.int .i64 a2), .sl (t2.map anyA) .no, .sl (r2.map ruleA) .no, .sl (kidsA k2) .no, .sl (o2.map oblA) .no] 43) := by rw [← ehb, upd_same]
    rw [ehb] at hs0 ⊢
    have bad : eqP (.mk i1 s1 a1 t1 r1 k1 o1) (.mk i2 s2 a2 t2 r2 k2 o2) = false → (.v (.bool false) : AV) = .v (.bool (eqP (.mk i1 s1 a1 t1 r1 k1 o1) (.mk i2 s2 a2 t2 r2 k2 o2))) ∧ h = h := fun e => ⟨by rw [e], rfl⟩
    cases d1 : (i1 == i2)
    case false =>
      simp -implicitDefEqProofs only [go_sem, ↓reduceIte, Nat.reduceLT, Nat.reduceEqDiff, Nat.reduceAdd, Nat.reduceLeDiff, Nat.reduceMul, Nat.reduceSub, Int.natCast_zero, Int.ofNat_zero, Int.natCast_one, Int.cast_ofNat_Int, bne_self_eq_false, beq_self_eq_true, Int.reduceBEq, Int.reduceBNe, Bool.not_true, Bool.not_false, ga, gb, d1]
      exact .mk _ (.refl _) hs0 (bad (by simp [eqP, d1]))
    cases d2 : (s1 == s2)
    case false =>
      simp -implicitDefEqProofs only [go_sem, ↓reduceIte, Nat.reduceLT, Nat.reduceEqDiff, Nat.reduceAdd, Nat.reduceLeDiff, Nat.reduceMul, Nat.reduceSub, Int.natCast_zero, Int.ofNat_zero, Int.natCast_one, Int.cast_ofNat_Int, bne_self_eq_false, beq_self_eq_true, Int.reduceBEq, Int.reduceBNe, Bool.not_true, Bool.not_false, ga, gb, d1, d2]
      exact .mk _ (.refl _) hs0 (bad (by simp only [eqP, d2, Bool.false_and, Bool.and_false]))
    cases d3 : (a1 == a2)
    case false =>
      have d3' : (a1 != a2) = true := by simp only [bne, d3, Bool.not_false]
      simp -implicitDefEqProofs only [go_sem, ↓reduceIte, Nat.reduceLT, Nat.reduceEqDiff, Nat.reduceAdd, Nat.reduceLeDiff, Nat.reduceMul, Nat.reduceSub, Int.natCast_zero, Int.ofNat_zero, Int.natCast_one, Int.cast_ofNat_Int, bne_self_eq_false, beq_self_eq_true, Int.reduceBEq, Int.reduceBNe, Bool.not_true, Bool.not_false, ga, gb, d1, d2, d3']
      exact .mk _ (.refl _) hs0 (bad (by simp only [eqP, d3, Bool.false_and, Bool.and_false]))
    have d3' : (a1 != a2) = false := by simp only [bne, d3, Bool.not_true]
    have f1 := targets_ok t1 t2 hb
    have f2 := sameObl_ok o1 o2 hb
    simp only [tgtA] at f1
    simp only [oblsA] at f2
    simp -implicitDefEqProofs only [go_sem, ↓reduceIte, Nat.reduceLT, Nat.reduceEqDiff, Nat.reduceAdd, Nat.reduceLeDiff, Nat.reduceMul, Nat.reduceSub, Int.natCast_zero, Int.ofNat_zero, Int.natCast_one, Int.cast_ofNat_Int, bne_self_eq_false, beq_self_eq_true, Int.reduceBEq, Int.reduceBNe, Bool.not_true, Bool.not_false, ga, gb, d1, d2, d3']
    refine f1.pthen ?_
    cases d4 : eqT t1 t2
    case false =>
      simp -implicitDefEqProofs only [go_sem, ↓reduceIte, Nat.reduceLT, Nat.reduceEqDiff, Nat.reduceAdd, Nat.reduceLeDiff, Nat.reduceMul, Nat.reduceSub, Int.natCast_zero, Int.ofNat_zero, Int.natCast_one, Int.cast_ofNat_Int, bne_self_eq_false, beq_self_eq_true, Int.reduceBEq, Int.reduceBNe, Bool.not_true, Bool.not_false, ga, gb, d4]
      exact .mk _ (.refl _) hs0 (bad (by simp only [eqP, d4, Bool.false_and, Bool.and_false]))
    simp -implicitDefEqProofs only [go_sem, ↓reduceIte, Nat.reduceLT, Nat.reduceEqDiff, Nat.reduceAdd, Nat.reduceLeDiff, Nat.reduceMul, Nat.reduceSub, Int.natCast_zero, Int.ofNat_zero, Int.natCast_one, Int.cast_ofNat_Int, bne_self_eq_false, beq_self_eq_true, Int.reduceBEq, Int.reduceBNe, Bool.not_true, Bool.not_false, ga, gb, d4]
    refine f2.pthen ?_
    cases d5 : eqL eqObl o1 o2
    case false =>
      simp -implicitDefEqProofs only [go_sem, ↓reduceIte, Nat.reduceLT, Nat.reduceEqDiff, Nat.reduceAdd, Nat.reduceLeDiff, Nat.reduceMul, Nat.reduceSub, Int.natCast_zero, Int.ofNat_zero, Int.natCast_one, Int.cast_ofNat_Int, bne_self_eq_false, beq_self_eq_true, Int.reduceBEq, Int.reduceBNe, Bool.not_true, Bool.not_false, ga, gb, d5]
      exact .mk _ (.refl _) hs0 (bad (by simp only [eqP, d5, Bool.false_and, Bool.and_false]))
    cases d6 : ((r1.length : Int) != (r2.length : Int))
    case true =>
      have e6 : r1.length ≠ r2.length := by intro e; rw [e] at d6; simp at d6
      simp -implicitDefEqProofs only [go_sem, ↓reduceIte, Nat.reduceLT, Nat.reduceEqDiff, Nat.reduceAdd, Nat.reduceLeDiff, Nat.reduceMul, Nat.reduceSub, Int.natCast_zero, Int.ofNat_zero, Int.natCast_one, Int.cast_ofNat_Int, bne_self_eq_false, beq_self_eq_true, Int.reduceBEq, Int.reduceBNe, Bool.not_true, Bool.not_false, ga, gb, d5, List.length_map, d6]
      exact .mk _ (.refl _) hs0 (bad (by simp only [eqP, eqL_len e6, Bool.false_and, Bool.and_false]))
    have e6 : r1.length = r2.length := by have : (r1.length : Int) = r2.length := by simpa using d6
                                          omega
    cases d7 : ((k1.length : Int) != (k2.length : Int))
    case true =>
      have e7 : k1.length ≠ k2.length := by intro e; rw [e] at d7; simp at d7
      simp -implicitDefEqProofs only [go_sem, ↓reduceIte, Nat.reduceLT, Nat.reduceEqDiff, Nat.reduceAdd, Nat.reduceLeDiff, Nat.reduceMul, Nat.reduceSub, Int.natCast_zero, Int.ofNat_zero, Int.natCast_one, Int.cast_ofNat_Int, bne_self_eq_false, beq_self_eq_true, Int.reduceBEq, Int.reduceBNe, Bool.not_true, Bool.not_false, ga, gb, d5, List.length_map, d6, kidsA_eq, d7]
      exact .mk _ (.refl _) hs0 (bad (by simp only [eqP, eqK_eqL, eqL_len e7, Bool.false_and, Bool.and_false]))
    have e7 : k1.length = k2.length := by have : (k1.length : Int) = k2.length := by simpa using d7
                                          omega
    simp -implicitDefEqProofs only [go_sem, ↓reduceIte, Nat.reduceLT, Nat.reduceEqDiff, Nat.reduceAdd, Nat.reduceLeDiff, Nat.reduceMul, Nat.reduceSub, Int.natCast_zero, Int.ofNat_zero, Int.natCast_one, Int.cast_ofNat_Int, bne_self_eq_false, beq_self_eq_true, Int.reduceBEq, Int.reduceBNe, Bool.not_true, Bool.not_false, ga, gb, d5, List.length_map, d6, kidsA_eq, d7]
    refine .intro (fun m ρ h' => Ab.Sub hb h' ∧ ∃ i : Nat, i ≤ r1.length ∧ m = r1.length - i ∧ (∀ j (h1 : j < r1.length) (h2 : j < r2.length), j < i → eqR r1[j] r2[j] = true) ∧ lk ρ 2 = some (.ptr ia 0) ∧ lk ρ 3 = some (.ptr ib 0) ∧ lk ρ 64 = some (.v (.int .i64 r1.length)) ∧ lk ρ 65 = some (.v (.int .i64 i))) r1.length ?_ ?_
    · refine ⟨.refl _, 0, by omega, rfl, fun j _ _ hj => (by omega), ?_, ?_, ?_, ?_⟩ <;> simp -implicitDefEqProofs only [go_sem, ↓reduceIte, Nat.reduceLT, Nat.reduceEqDiff, Nat.reduceAdd, Nat.reduceLeDiff, Nat.reduceMul, Nat.reduceSub, Int.natCast_zero, Int.ofNat_zero, Int.natCast_one, Int.cast_ofNat_Int, bne_self_eq_false, beq_self_eq_true, Int.reduceBEq, Int.reduceBNe, Bool.not_true, Bool.not_false]
    · rintro m ρ h' ⟨hs, i, hi, rfl, hc, q2, q3, q64, q65⟩
      have ga1 := hs _ _ ga
      have gb1 := hs _ _ gb
      simp -implicitDefEqProofs only [go_sem, ↓reduceIte, Nat.reduceLT, Nat.reduceEqDiff, Nat.reduceAdd, Nat.reduceLeDiff, Nat.reduceMul, Nat.reduceSub, Int.natCast_zero, Int.ofNat_zero, Int.natCast_one, Int.cast_ofNat_Int, bne_self_eq_false, beq_self_eq_true, Int.reduceBEq, Int.reduceBNe, Bool.not_true, Bool.not_false, q2, q3, q64, q65]
      refine .intro (fun e => ?_) (fun e => ?_)
      · have hlt : i < r1.length := Int.ofNat_lt.1 (of_decide_eq_true e)
        have hlt2 : i < r2.length := by omega
        have w1 : IntKind.i64.wrap ((i : Int) + 1) = ((i + 1 : Nat) : Int) := by rw [wr64 _ (by omega)]; omega
        simp -implicitDefEqProofs only [go_sem, ↓reduceIte, Nat.reduceLT, Nat.reduceEqDiff, Nat.reduceAdd, Nat.reduceLeDiff, Nat.reduceMul, Nat.reduceSub, Int.natCast_zero, Int.ofNat_zero, Int.natCast_one, Int.cast_ofNat_Int, bne_self_eq_false, beq_self_eq_true, Int.reduceBEq, Int.reduceBNe, Bool.not_true, Bool.not_false, q2, q3, q64, q65, ga1, gb1]
        refine .fork (hm2 ia (.obj [.s i1, .v (.bool s1), .v (.int .i64 a1), .sl (t1.map anyA) .no, .sl (r1.map ruleA) .no, .sl (kidsA k1) .no, .sl (o1.map oblA) .no] 43) ib (.obj [.s i2, .v (.bool s2), .v (.int .i64 a2), .sl (t2.map anyA) .no, .sl (r2.map ruleA) .no, .sl (kidsA k2) .no, .sl (o2.map oblA) .no] 43)) (.fork [0, 1, 2, 3, 4, 5, 6, 7, 8, 9] 10 (.seq [11, 12, 13]) 11 (.seq [10, 12, 13])) (fun ρ' h2 => Ab.Sub h' h2 ∧ ∃ j6 j7, h2 j6 = some (.obj [.s r1[i].id, .v (.bool r1[i].deny), .sl (r1[i].tgt.map anyA) .no, .sl (r1[i].cond.map nodeA) .no, .sl (r1[i].obls.map oblA) .no] 37) ∧ h2 j7 = some (.obj [.s r2[i].id, .v (.bool r2[i].deny), .sl (r2[i].tgt.map anyA) .no, .sl (r2[i].cond.map nodeA) .no, .sl (r2[i].obls.map oblA) .no] 37) ∧ lk ρ' 6 = some (.ptr j6 0) ∧ lk ρ' 7 = some (.ptr j7 0) ∧ lk ρ' 2 = some (.ptr ia 0) ∧ lk ρ' 3 = some (.ptr ib 0) ∧ lk ρ' 64 = some (.v (.int .i64 r1.length)) ∧ lk ρ' 65 = some (.v (.int .i64 i))) ?_ (by kernel_rfl) rfl (by simp -implicitDefEqProofs only [go_sem, ↓reduceIte, Nat.reduceLT, Nat.reduceEqDiff, Nat.reduceAdd, Nat.reduceLeDiff, Nat.reduceMul, Nat.reduceSub, Int.natCast_zero, Int.ofNat_zero, Int.natCast_one, Int.cast_ofNat_Int, bne_self_eq_false, beq_self_eq_true, Int.reduceBEq, Int.reduceBNe, Bool.not_true, Bool.not_false]) ?_ ?_
        · exact .hm2 ga1 gb1
        · have m1 := hm2_fst (i := ia) (.obj [.s i1, .v (.bool s1), .v (.int .i64 a1), .sl (t1.map anyA) .no, .sl (r1.map ruleA) .no, .sl (kidsA k1) .no, .sl (o1.map oblA) .no] 43) (j := ib) (.obj [.s i2, .v (.bool s2), .v (.int .i64 a2), .sl (t2.map anyA) .no, .sl (r2.map ruleA) .no, .sl (kidsA k2) .no, .sl (o2.map oblA) .no] 43) nab.symm
          have m2 := hm2_snd ia (.obj [.s i1, .v (.bool s1), .v (.int .i64 a1), .sl (t1.map anyA) .no, .sl (r1.map ruleA) .no, .sl (kidsA k1) .no, .sl (o1.map oblA) .no] 43) ib (.obj [.s i2, .v (.bool s2), .v (.int .i64 a2), .sl (t2.map anyA) .no, .sl (r2.map ruleA) .no, .sl (kidsA k2) .no, .sl (o2.map oblA) .no] 43)
          simp -implicitDefEqProofs only [go_sem, ↓reduceIte, Nat.reduceLT, Nat.reduceEqDiff, Nat.reduceAdd, Nat.reduceLeDiff, Nat.reduceMul, Nat.reduceSub, Int.natCast_zero, Int.ofNat_zero, Int.natCast_one, Int.cast_ofNat_Int, bne_self_eq_false, beq_self_eq_true, Int.reduceBEq, Int.reduceBNe, Bool.not_true, Bool.not_false, vcDrT, q2, q3, q64, q65, m1, m2]
          refine .at i (by simpa using hlt) (by rw [List.getElem_map]; rfl) ?_
          simp -implicitDefEqProofs only [go_sem, ↓reduceIte, Nat.reduceLT, Nat.reduceEqDiff, Nat.reduceAdd, Nat.reduceLeDiff, Nat.reduceMul, Nat.reduceSub, Int.natCast_zero, Int.ofNat_zero, Int.natCast_one, Int.cast_ofNat_Int, bne_self_eq_false, beq_self_eq_true, Int.reduceBEq, Int.reduceBNe, Bool.not_true, Bool.not_false, vcDrT, q2, q3, q64, q65, m1, m2, List.getElem_map, ruleA]
          refine .at i (by simpa using hlt2) (by rw [List.getElem_map]; rfl) ?_
          simp -implicitDefEqProofs only [go_sem, ↓reduceIte, Nat.reduceLT, Nat.reduceEqDiff, Nat.reduceAdd, Nat.reduceLeDiff, Nat.reduceMul, Nat.reduceSub, Int.natCast_zero, Int.ofNat_zero, Int.natCast_one, Int.cast_ofNat_Int, bne_self_eq_false, beq_self_eq_true, Int.reduceBEq, Int.reduceBNe, Bool.not_true, Bool.not_false, vcDrT, q2, q3, q64, q65, m1, m2, List.getElem_map, ruleA]
          refine ⟨?_, ?_⟩
          · intro j6 h6
            have n6a : j6 ≠ ia := fun e => by rw [e, ga1] at h6; cases h6
            have n6b : j6 ≠ ib := fun e => by rw [e, gb1] at h6; cases h6
            have z6 := hm2_none (.obj [.s i1, .v (.bool s1), .v (.int .i64 a1), .sl (t1.map anyA) .no, .sl (r1.map ruleA) .no, .sl (kidsA k1) .no, .sl (o1.map oblA) .no] 43) (.obj [.s i2, .v (.bool s2), .v (.int .i64 a2), .sl (t2.map anyA) .no, .sl (r2.map ruleA) .no, .sl (kidsA k2) .no, .sl (o2.map oblA) .no] 43) n6a n6b
            refine ⟨(Sub.hm2 ga1 gb1).put z6 _, ?_⟩
            simp -implicitDefEqProofs only [go_sem, ↓reduceIte, Nat.reduceLT, Nat.reduceEqDiff, Nat.reduceAdd, Nat.reduceLeDiff, Nat.reduceMul, Nat.reduceSub, Int.natCast_zero, Int.ofNat_zero, Int.natCast_one, Int.cast_ofNat_Int, bne_self_eq_false, beq_self_eq_true, Int.reduceBEq, Int.reduceBNe, Bool.not_true, Bool.not_false]
            intro j7 h7
            have n67 : j6 ≠ j7 := (ne_new h7).symm
            have h72 := h7
            rw [upd_other _ _ n67.symm] at h72
            have n7a : j7 ≠ ia := fun e => by rw [e, ga1] at h72; cases h72
            have n7b : j7 ≠ ib := fun e => by rw [e, gb1] at h72; cases h72
            have z7 := hm2_none (.obj [.s i1, .v (.bool s1), .v (.int .i64 a1), .sl (t1.map anyA) .no, .sl (r1.map ruleA) .no, .sl (kidsA k1) .no, .sl (o1.map oblA) .no] 43) (.obj [.s i2, .v (.bool s2), .v (.int .i64 a2), .sl (t2.map anyA) .no, .sl (r2.map ruleA) .no, .sl (kidsA k2) .no, .sl (o2.map oblA) .no] 43) n7a n7b
            refine ⟨((Sub.hm2 ga1 gb1).put z6 _).put z7 _, ?_⟩
            simp -implicitDefEqProofs only [go_sem, ↓reduceIte, Nat.reduceLT, Nat.reduceEqDiff, Nat.reduceAdd, Nat.reduceLeDiff, Nat.reduceMul, Nat.reduceSub, Int.natCast_zero, Int.ofNat_zero, Int.natCast_one, Int.cast_ofNat_Int, bne_self_eq_false, beq_self_eq_true, Int.reduceBEq, Int.reduceBNe, Bool.not_true, Bool.not_false, upd_other _ _ n67, upd_other _ _ n67.symm, upd_same]
            refine ⟨(by repeat (first | exact .hm2 ga1 gb1 | exact .refl _ | refine Sub.put ?_ (by assumption) _)), (by repeat (first | exact .hm2 ga1 gb1 | exact .refl _ | refine Sub.put ?_ (by assumption) _)), ?_⟩
            refine ⟨(by repeat (first | exact .hm2 ga1 gb1 | exact .refl _ | refine Sub.put ?_ (by assumption) _)), j6, j7, ?_, upd_same .., ?_, ?_, ?_, ?_, ?_, ?_⟩
            · rw [upd_other _ _ (by first | exact n67 | exact n67.symm), upd_same]; rfl
            all_goals simp -implicitDefEqProofs only [go_sem, ↓reduceIte, Nat.reduceLT, Nat.reduceEqDiff, Nat.reduceAdd, Nat.reduceLeDiff, Nat.reduceMul, Nat.reduceSub, Int.natCast_zero, Int.ofNat_zero, Int.natCast_one, Int.cast_ofNat_Int, bne_self_eq_false, beq_self_eq_true, Int.reduceBEq, Int.reduceBNe, Bool.not_true, Bool.not_false, q2, q3, q64, q65]
          · intro j7 h7
            have n7a : j7 ≠ ia := fun e => by rw [e, ga1] at h7; cases h7
            have n7b : j7 ≠ ib := fun e => by rw [e, gb1] at h7; cases h7
            have z7 := hm2_none (.obj [.s i1, .v (.bool s1), .v (.int .i64 a1), .sl (t1.map anyA) .no, .sl (r1.map ruleA) .no, .sl (kidsA k1) .no, .sl (o1.map oblA) .no] 43) (.obj [.s i2, .v (.bool s2), .v (.int .i64 a2), .sl (t2.map anyA) .no, .sl (r2.map ruleA) .no, .sl (kidsA k2) .no, .sl (o2.map oblA) .no] 43) n7a n7b
            refine ⟨(Sub.hm2 ga1 gb1).put z7 _, ?_⟩
            simp -implicitDefEqProofs only [go_sem, ↓reduceIte, Nat.reduceLT, Nat.reduceEqDiff, Nat.reduceAdd, Nat.reduceLeDiff, Nat.reduceMul, Nat.reduceSub, Int.natCast_zero, Int.ofNat_zero, Int.natCast_one, Int.cast_ofNat_Int, bne_self_eq_false, beq_self_eq_true, Int.reduceBEq, Int.reduceBNe, Bool.not_true, Bool.not_false]
            intro j6 h6
            have n76 : j7 ≠ j6 := (ne_new h6).symm
            have h62 := h6
            rw [upd_other _ _ n76.symm] at h62
            have n6a : j6 ≠ ia := fun e => by rw [e, ga1] at h62; cases h62
            have n6b : j6 ≠ ib := fun e => by rw [e, gb1] at h62; cases h62
            have z6 := hm2_none (.obj [.s i1, .v (.bool s1), .v (.int .i64 a1), .sl (t1.map anyA) .no, .sl (r1.map ruleA) .no, .sl (kidsA k1) .no, .sl (o1.map oblA) .no] 43) (.obj [.s i2, .v (.bool s2), .v (.int .i64 a2), .sl (t2.map anyA) .no, .sl (r2.map ruleA) .no, .sl (kidsA k2) .no, .sl (o2.map oblA) .no] 43) n6a n6b
            refine ⟨((Sub.hm2 ga1 gb1).put z7 _).put z6 _, ?_⟩
            simp -implicitDefEqProofs only [go_sem, ↓reduceIte, Nat.reduceLT, Nat.reduceEqDiff, Nat.reduceAdd, Nat.reduceLeDiff, Nat.reduceMul, Nat.reduceSub, Int.natCast_zero, Int.ofNat_zero, Int.natCast_one, Int.cast_ofNat_Int, bne_self_eq_false, beq_self_eq_true, Int.reduceBEq, Int.reduceBNe, Bool.not_true, Bool.not_false, upd_other _ _ n76, upd_other _ _ n76.symm, upd_same]
            refine ⟨(by repeat (first | exact .hm2 ga1 gb1 | exact .refl _ | refine Sub.put ?_ (by assumption) _)), (by repeat (first | exact .hm2 ga1 gb1 | exact .refl _ | refine Sub.put ?_ (by assumption) _)), ?_⟩
            refine ⟨(by repeat (first | exact .hm2 ga1 gb1 | exact .refl _ | refine Sub.put ?_ (by assumption) _)), j6, j7, ?_, upd_same .., ?_, ?_, ?_, ?_, ?_, ?_⟩
            · rw [upd_other _ _ (by first | exact n76 | exact n76.symm), upd_same]; rfl
            all_goals simp -implicitDefEqProofs only [go_sem, ↓reduceIte, Nat.reduceLT, Nat.reduceEqDiff, Nat.reduceAdd, Nat.reduceLeDiff, Nat.reduceMul, Nat.reduceSub, Int.natCast_zero, Int.ofNat_zero, Int.natCast_one, Int.cast_ofNat_Int, bne_self_eq_false, beq_self_eq_true, Int.reduceBEq, Int.reduceBNe, Bool.not_true, Bool.not_false, q2, q3, q64, q65]
        · rintro ρ' h2 ⟨hs2, j6, j7, g6, g7, p6, p7, p2, p3, p64, p65⟩
          have hs3 := hs.trans hs2
          have f1 := targets_ok r1[i].tgt r2[i].tgt h2
          have f2 := sameNode_ok r1[i].cond r2[i].cond h2
          have f3 := sameObl_ok r1[i].obls r2[i].obls h2
          have bad2 : eqR r1[i] r2[i] = false → (.v (.bool false) : AV) = .v (.bool (eqP (.mk i1 s1 a1 t1 r1 k1 o1) (.mk i2 s2 a2 t2 r2 k2 o2))) ∧ h = h := fun e => bad (by
            simp only [eqP, eqL_at i hlt hlt2 e, Bool.false_and, Bool.and_false])
          cases c1 : (r1[i].id == r2[i].id)
          case false =>
            simp -implicitDefEqProofs only [go_sem, ↓reduceIte, Nat.reduceLT, Nat.reduceEqDiff, Nat.reduceAdd, Nat.reduceLeDiff, Nat.reduceMul, Nat.reduceSub, Int.natCast_zero, Int.ofNat_zero, Int.natCast_one, Int.cast_ofNat_Int, bne_self_eq_false, beq_self_eq_true, Int.reduceBEq, Int.reduceBNe, Bool.not_true, Bool.not_false, p2, p3, p6, p7, p64, p65, g6, g7, c1]
            exact .mk _ (.refl _) (hs0.trans hs3) (bad2 (by simp only [eqR, c1, Bool.false_and, Bool.and_false]))
          cases c2 : (r1[i].deny == r2[i].deny)
          case false =>
            simp -implicitDefEqProofs only [go_sem, ↓reduceIte, Nat.reduceLT, Nat.reduceEqDiff, Nat.reduceAdd, Nat.reduceLeDiff, Nat.reduceMul, Nat.reduceSub, Int.natCast_zero, Int.ofNat_zero, Int.natCast_one, Int.cast_ofNat_Int, bne_self_eq_false, beq_self_eq_true, Int.reduceBEq, Int.reduceBNe, Bool.not_true, Bool.not_false, p2, p3, p6, p7, p64, p65, g6, g7, c1, c2]
            exact .mk _ (.refl _) (hs0.trans hs3) (bad2 (by simp only [eqR, c2, Bool.false_and, Bool.and_false]))
          simp -implicitDefEqProofs only [go_sem, ↓reduceIte, Nat.reduceLT, Nat.reduceEqDiff, Nat.reduceAdd, Nat.reduceLeDiff, Nat.reduceMul, Nat.reduceSub, Int.natCast_zero, Int.ofNat_zero, Int.natCast_one, Int.cast_ofNat_Int, bne_self_eq_false, beq_self_eq_true, Int.reduceBEq, Int.reduceBNe, Bool.not_true, Bool.not_false, p2, p3, p6, p7, p64, p65, g6, g7, c1, c2]
          refine f1.pthen ?_
          cases c3 : eqT r1[i].tgt r2[i].tgt
          case false =>
            simp -implicitDefEqProofs only [go_sem, ↓reduceIte, Nat.reduceLT, Nat.reduceEqDiff, Nat.reduceAdd, Nat.reduceLeDiff, Nat.reduceMul, Nat.reduceSub, Int.natCast_zero, Int.ofNat_zero, Int.natCast_one, Int.cast_ofNat_Int, bne_self_eq_false, beq_self_eq_true, Int.reduceBEq, Int.reduceBNe, Bool.not_true, Bool.not_false, p2, p3, p6, p7, p64, p65, g6, g7, c3]
            exact .mk _ (.refl _) (hs0.trans hs3) (bad2 (by simp only [eqR, c3, Bool.false_and, Bool.and_false]))
          simp -implicitDefEqProofs only [go_sem, ↓reduceIte, Nat.reduceLT, Nat.reduceEqDiff, Nat.reduceAdd, Nat.reduceLeDiff, Nat.reduceMul, Nat.reduceSub, Int.natCast_zero, Int.ofNat_zero, Int.natCast_one, Int.cast_ofNat_Int, bne_self_eq_false, beq_self_eq_true, Int.reduceBEq, Int.reduceBNe, Bool.not_true, Bool.not_false, p2, p3, p6, p7, p64, p65, g6, g7, c3]
          refine f2.pthen ?_
          cases c4 : eqL eqNode r1[i].cond r2[i].cond
          case false =>
            simp -implicitDefEqProofs only [go_sem, ↓reduceIte, Nat.reduceLT, Nat.reduceEqDiff, Nat.reduceAdd, Nat.reduceLeDiff, Nat.reduceMul, Nat.reduceSub, Int.natCast_zero, Int.ofNat_zero, Int.natCast_one, Int.cast_ofNat_Int, bne_self_eq_false, beq_self_eq_true, Int.reduceBEq, Int.reduceBNe, Bool.not_true, Bool.not_false, p2, p3, p6, p7, p64, p65, g6, g7, c4]
            exact .mk _ (.refl _) (hs0.trans hs3) (bad2 (by simp only [eqR, c4, Bool.false_and, Bool.and_false]))
          simp -implicitDefEqProofs only [go_sem, ↓reduceIte, Nat.reduceLT, Nat.reduceEqDiff, Nat.reduceAdd, Nat.reduceLeDiff, Nat.reduceMul, Nat.reduceSub, Int.natCast_zero, Int.ofNat_zero, Int.natCast_one, Int.cast_ofNat_Int, bne_self_eq_false, beq_self_eq_true, Int.reduceBEq, Int.reduceBNe, Bool.not_true, Bool.not_false, p2, p3, p6, p7, p64, p65, g6, g7, c4]
          refine f3.pthen ?_
          cases c5 : eqL eqObl r1[i].obls r2[i].obls
          case false =>
            simp -implicitDefEqProofs only [go_sem, ↓reduceIte, Nat.reduceLT, Nat.reduceEqDiff, Nat.reduceAdd, Nat.reduceLeDiff, Nat.reduceMul, Nat.reduceSub, Int.natCast_zero, Int.ofNat_zero, Int.natCast_one, Int.cast_ofNat_Int, bne_self_eq_false, beq_self_eq_true, Int.reduceBEq, Int.reduceBNe, Bool.not_true, Bool.not_false, p2, p3, p6, p7, p64, p65, g6, g7, c5]
            exact .mk _ (.refl _) (hs0.trans hs3) (bad2 (by simp only [eqR, c5, Bool.false_and, Bool.and_false]))
          simp -implicitDefEqProofs only [go_sem, ↓reduceIte, Nat.reduceLT, Nat.reduceEqDiff, Nat.reduceAdd, Nat.reduceLeDiff, Nat.reduceMul, Nat.reduceSub, Int.natCast_zero, Int.ofNat_zero, Int.natCast_one, Int.cast_ofNat_Int, bne_self_eq_false, beq_self_eq_true, Int.reduceBEq, Int.reduceBNe, Bool.not_true, Bool.not_false, p2, p3, p6, p7, p64, p65, g6, g7, c5, w1]
          refine ⟨_, ?_, hs3, i + 1, by omega, rfl, fun j h1 h2 hj => ?_, ?_, ?_, ?_, ?_⟩
          · omega
          · by_cases hji : j = i
            · subst hji; simp only [eqR, c1, c2, c3, c4, c5, Bool.and_self]
            · exact hc j h1 h2 (by omega)
          all_goals simp -implicitDefEqProofs only [go_sem, ↓reduceIte, Nat.reduceLT, Nat.reduceEqDiff, Nat.reduceAdd, Nat.reduceLeDiff, Nat.reduceMul, Nat.reduceSub, Int.natCast_zero, Int.ofNat_zero, Int.natCast_one, Int.cast_ofNat_Int, bne_self_eq_false, beq_self_eq_true, Int.reduceBEq, Int.reduceBNe, Bool.not_true, Bool.not_false, p2, p3, p64, p65, w1]
      · have hge : i = r1.length := by have := of_decide_eq_false e; omega
        subst hge
        have hrr : eqL eqR r1 r2 = true := eqL_true e6 fun j h1 h2 => hc j h1 h2 h1
        simp -implicitDefEqProofs only [go_sem, ↓reduceIte, Nat.reduceLT, Nat.reduceEqDiff, Nat.reduceAdd, Nat.reduceLeDiff, Nat.reduceMul, Nat.reduceSub, Int.natCast_zero, Int.ofNat_zero, Int.natCast_one, Int.cast_ofNat_Int, bne_self_eq_false, beq_self_eq_true, Int.reduceBEq, Int.reduceBNe, Bool.not_true, Bool.not_false, q2, q3, q64, q65, ga1, gb1, kidsA_eq, List.length_map]
        refine .intro (fun m ρ h' => Ab.Sub hb h' ∧ ∃ i : Nat, i ≤ k1.length ∧ m = k1.length - i ∧ (∀ j (h1 : j < k1.length) (h2 : j < k2.length), j < i → eqP k1[j] k2[j] = true) ∧ lk ρ 2 = some (.ptr ia 0) ∧ lk ρ 3 = some (.ptr ib 0) ∧ lk ρ 117 = some (.v (.int .i64 k1.length)) ∧ lk ρ 118 = some (.v (.int .i64 i))) k1.length ?_ ?_
        · refine ⟨hs, 0, by omega, rfl, fun j _ _ hj => (by omega), ?_, ?_, ?_, ?_⟩ <;> simp -implicitDefEqProofs only [go_sem, ↓reduceIte, Nat.reduceLT, Nat.reduceEqDiff, Nat.reduceAdd, Nat.reduceLeDiff, Nat.reduceMul, Nat.reduceSub, Int.natCast_zero, Int.ofNat_zero, Int.natCast_one, Int.cast_ofNat_Int, bne_self_eq_false, beq_self_eq_true, Int.reduceBEq, Int.reduceBNe, Bool.not_true, Bool.not_false, q2, q3]
        · rintro m ρ h' ⟨hs, i, hi, rfl, hc, q2, q3, q117, q118⟩
          have ga1 := hs _ _ ga
          have gb1 := hs _ _ gb
          simp -implicitDefEqProofs only [go_sem, ↓reduceIte, Nat.reduceLT, Nat.reduceEqDiff, Nat.reduceAdd, Nat.reduceLeDiff, Nat.reduceMul, Nat.reduceSub, Int.natCast_zero, Int.ofNat_zero, Int.natCast_one, Int.cast_ofNat_Int, bne_self_eq_false, beq_self_eq_true, Int.reduceBEq, Int.reduceBNe, Bool.not_true, Bool.not_false, q2, q3, q117, q118]
          refine .intro (fun e => ?_) (fun e => ?_)
          · have hlt : i < k1.length := Int.ofNat_lt.1 (of_decide_eq_true e)
            have hlt2 : i < k2.length := by omega
            have w1 : IntKind.i64.wrap ((i : Int) + 1) = ((i + 1 : Nat) : Int) := by rw [wr64 _ (by omega)]; omega
            have ihi := ihk i hlt k2[i] h'
            simp -implicitDefEqProofs only [go_sem, ↓reduceIte, Nat.reduceLT, Nat.reduceEqDiff, Nat.reduceAdd, Nat.reduceLeDiff, Nat.reduceMul, Nat.reduceSub, Int.natCast_zero, Int.ofNat_zero, Int.natCast_one, Int.cast_ofNat_Int, bne_self_eq_false, beq_self_eq_true, Int.reduceBEq, Int.reduceBNe, Bool.not_true, Bool.not_false, q2, q3, q117, q118, ga1, gb1]
            refine .quiet (by kernel_rfl) ?_
            simp -implicitDefEqProofs only [go_sem, ↓reduceIte, Nat.reduceLT, Nat.reduceEqDiff, Nat.reduceAdd, Nat.reduceLeDiff, Nat.reduceMul, Nat.reduceSub, Int.natCast_zero, Int.ofNat_zero, Int.natCast_one, Int.cast_ofNat_Int, bne_self_eq_false, beq_self_eq_true, Int.reduceBEq, Int.reduceBNe, Bool.not_true, Bool.not_false, q2, q3, q117, q118, ga1, gb1, kidsA_eq]
            cases ek1 : k1[i] with
            | mk x1 x2 x3 x4 x5 x6 x7 =>
            cases ek2 : k2[i] with
            | mk y1 y2 y3 y4 y5 y6 y7 =>
            have ihi2 := ihi
            rw [ek1, ek2] at ihi
            simp only [polA, tgtA, oblsA] at ihi
            refine .at i (by simpa using hlt) (by rw [List.getElem_map]; exact polA_len _) ?_
            simp -implicitDefEqProofs only [go_sem, ↓reduceIte, Nat.reduceLT, Nat.reduceEqDiff, Nat.reduceAdd, Nat.reduceLeDiff, Nat.reduceMul, Nat.reduceSub, Int.natCast_zero, Int.ofNat_zero, Int.natCast_one, Int.cast_ofNat_Int, bne_self_eq_false, beq_self_eq_true, Int.reduceBEq, Int.reduceBNe, Bool.not_true, Bool.not_false, q2, q3, q117, q118, ga1, gb1, List.getElem_map, ek1, polA, tgtA, oblsA, kidsA_eq]
            refine .at i (by simpa using hlt2) (by rw [List.getElem_map]; exact polA_len _) ?_
            simp -implicitDefEqProofs only [go_sem, ↓reduceIte, Nat.reduceLT, Nat.reduceEqDiff, Nat.reduceAdd, Nat.reduceLeDiff, Nat.reduceMul, Nat.reduceSub, Int.natCast_zero, Int.ofNat_zero, Int.natCast_one, Int.cast_ofNat_Int, bne_self_eq_false, beq_self_eq_true, Int.reduceBEq, Int.reduceBNe, Bool.not_true, Bool.not_false, q2, q3, q117, q118, ga1, gb1, List.getElem_map, ek2, polA, tgtA, oblsA, kidsA_eq]
            simp only [kidsA_eq] at ihi
            refine ⟨_, ihi, ?_⟩
            rw [← ek1, ← ek2]
            cases c6 : eqP k1[i] k2[i]
            · simp -implicitDefEqProofs only [go_sem, ↓reduceIte, Nat.reduceLT, Nat.reduceEqDiff, Nat.reduceAdd, Nat.reduceLeDiff, Nat.reduceMul, Nat.reduceSub, Int.natCast_zero, Int.ofNat_zero, Int.natCast_one, Int.cast_ofNat_Int, bne_self_eq_false, beq_self_eq_true, Int.reduceBEq, Int.reduceBNe, Bool.not_true, Bool.not_false, q2, q3, q117, q118]
              exact .mk _ (.refl _) (hs0.trans hs) (bad (by simp only [eqP, eqK_eqL, eqL_at i hlt hlt2 c6, Bool.and_false]))
            · simp -implicitDefEqProofs only [go_sem, ↓reduceIte, Nat.reduceLT, Nat.reduceEqDiff, Nat.reduceAdd, Nat.reduceLeDiff, Nat.reduceMul, Nat.reduceSub, Int.natCast_zero, Int.ofNat_zero, Int.natCast_one, Int.cast_ofNat_Int, bne_self_eq_false, beq_self_eq_true, Int.reduceBEq, Int.reduceBNe, Bool.not_true, Bool.not_false, q2, q3, q117, q118, w1]
              refine ⟨_, ?_, hs, i + 1, by omega, rfl, fun j h1 h2 hj => ?_, ?_, ?_, ?_, ?_⟩
              · omega
              · by_cases hji : j = i
                · subst hji; exact c6
                · exact hc j h1 h2 (by omega)
              all_goals simp -implicitDefEqProofs only [go_sem, ↓reduceIte, Nat.reduceLT, Nat.reduceEqDiff, Nat.reduceAdd, Nat.reduceLeDiff, Nat.reduceMul, Nat.reduceSub, Int.natCast_zero, Int.ofNat_zero, Int.natCast_one, Int.cast_ofNat_Int, bne_self_eq_false, beq_self_eq_true, Int.reduceBEq, Int.reduceBNe, Bool.not_true, Bool.not_false, q2, q3, q117, q118, w1]
          · have hge : i = k1.length := by have := of_decide_eq_false e; omega
            subst hge
            have hkk : eqL eqP k1 k2 = true := eqL_true e7 fun j h1 h2 => hc j h1 h2 h1
            simp -implicitDefEqProofs only [go_sem, ↓reduceIte, Nat.reduceLT, Nat.reduceEqDiff, Nat.reduceAdd, Nat.reduceLeDiff, Nat.reduceMul, Nat.reduceSub, Int.natCast_zero, Int.ofNat_zero, Int.natCast_one, Int.cast_ofNat_Int, bne_self_eq_false, beq_self_eq_true, Int.reduceBEq, Int.reduceBNe, Bool.not_true, Bool.not_false, q2, q3, q117, q118]
            exact .mk _ (.refl _) (hs0.trans hs) ⟨by simp only [eqP, d1, d2, d3, d4, d5, hrr, eqK_eqL, hkk, Bool.and_self]; rfl, rfl⟩

termination_by p => SizeOf.sizeOf p
decreasing_by
  have := List.sizeOf_lt_of_mem (List.getElem_mem hj)
  simp only [PolD.mk.sizeOf_spec]
  omega
end Go.Proofs.YtdcchpbncckhlaaDoor

/- Chapter 9's runs. -/
set_option linter.unusedSimpArgs false
set_option linter.unusedVariables false
namespace Go.Proofs.YtdcchpbncckhlaaDoor
open Go Go.Ab Go.Bf

def pr1 : Txt := [112, 111, 108, 105, 99, 121, 32, 112, 32, 100, 101, 110, 121, 111, 118, 101, 114, 32, 123, 32, 112, 101, 114, 109, 105, 116, 32, 114, 32, 105, 102, 32, 40, 101, 113, 32, 40, 111, 110, 101, 32, 99, 97, 115, 101, 46, 111, 119, 110, 101, 114, 41, 32, 35, 97, 110, 110, 41, 59, 32, 125]
def pr2 : Txt := [112, 111, 108, 105, 99, 121, 32, 112, 32, 100, 101, 110, 121, 111, 118, 101, 114, 32, 123, 32, 112, 101, 114, 109, 105, 116, 32, 114, 32, 125]
def pr3 : Txt := [112, 111, 108, 105, 99, 121, 32, 112, 32, 111, 110, 108, 121, 32, 123, 32, 125]
def pr4 : Txt := [112, 111, 108, 105, 99, 121, 32, 112, 32, 102, 105, 114, 115, 116, 32, 123, 32, 112, 101, 114, 109, 105, 116, 32, 114, 32, 105, 102, 32, 99, 97, 115, 101, 46, 120, 59, 32, 125]
def prNodes : List NodeD := [⟨2, ⟨0, 0, []⟩, ⟨3, [111, 119, 110, 101, 114], false⟩⟩, ⟨3, ⟨0, 0, []⟩, ⟨0, [], false⟩⟩, ⟨1, ⟨5, 0, [97, 110, 110]⟩, ⟨0, [], false⟩⟩, ⟨6, ⟨0, 0, []⟩, ⟨0, [], false⟩⟩]
def prPol : PolD := .mk [112] false 1 [] [⟨[114], false, [], prNodes, []⟩] [] []
set_option maxRecDepth 100000 in
theorem pr1_is : parseD pr1 = (prPol, 0, 0) := by kernel_rfl
set_option maxRecDepth 100000 in
theorem pr2_is : parseD pr2 = (zeroP, 5, 29) := by kernel_rfl
set_option maxRecDepth 100000 in
theorem pr3_is : parseD pr3 = (zeroP, 5, 17) := by kernel_rfl
set_option maxRecDepth 100000 in
theorem pr4_is : parseD pr4 = (zeroP, 5, 29) := by kernel_rfl
theorem prPol_eq : eqP prPol prPol = true := by kernel_rfl

theorem new2 {h : Heap} {i j : Nat} {b : Blk} (e : upd h i (some b) j = none) : j ≠ i ∧ h j = none :=
  ⟨ne_upd e, by rw [upd_other _ _ (ne_upd e)] at e; exact e⟩
theorem parseRuns_ok (h : Heap) (he : ErrT h) : FnOK Tryd.prog 6 [] h fun r h' => r = .v (.bool true) ∧ h' = h := by
  have hp := fun s hh hs => parse_ok s hh (he.sub hs)
  have p1 := hp pr1
  have p2 := hp pr2
  have p3 := hp pr3
  have p4 := hp pr4
  rw [pr1_is] at p1
  rw [pr2_is] at p2
  rw [pr3_is] at p3
  rw [pr4_is] at p4
  refine FnOK.body hU hm Tryd.func6 rfl (by kernel_rfl) 77 rfl [.tmp 0] rfl (Nat.le_of_ble_eq_true rfl) (fun hwf => ?_)
  simp -implicitDefEqProofs only [go_sem, ↓reduceIte, Nat.reduceLT, Nat.reduceEqDiff, Nat.reduceAdd, Nat.reduceLeDiff, Nat.reduceMul, Nat.reduceSub, Int.natCast_zero, Int.ofNat_zero, Int.natCast_one, Int.cast_ofNat_Int, bne_self_eq_false, beq_self_eq_true, Int.reduceBEq, Int.reduceBNe, Bool.not_true, Bool.not_false]
  refine (p1 _ (.refl _)).pthen ?_
  simp -implicitDefEqProofs only [go_sem, ↓reduceIte, Nat.reduceLT, Nat.reduceEqDiff, Nat.reduceAdd, Nat.reduceLeDiff, Nat.reduceMul, Nat.reduceSub, Int.natCast_zero, Int.ofNat_zero, Int.natCast_one, Int.cast_ofNat_Int, bne_self_eq_false, beq_self_eq_true, Int.reduceBEq, Int.reduceBNe, Bool.not_true, Bool.not_false, parsedA, polA, prPol]
  intro i1 h1
  simp -implicitDefEqProofs only [go_sem, ↓reduceIte, Nat.reduceLT, Nat.reduceEqDiff, Nat.reduceAdd, Nat.reduceLeDiff, Nat.reduceMul, Nat.reduceSub, Int.natCast_zero, Int.ofNat_zero, Int.natCast_one, Int.cast_ofNat_Int, bne_self_eq_false, beq_self_eq_true, Int.reduceBEq, Int.reduceBNe, Bool.not_true, Bool.not_false]
  intro i5 h5
  simp -implicitDefEqProofs only [go_sem, ↓reduceIte, Nat.reduceLT, Nat.reduceEqDiff, Nat.reduceAdd, Nat.reduceLeDiff, Nat.reduceMul, Nat.reduceSub, Int.natCast_zero, Int.ofNat_zero, Int.natCast_one, Int.cast_ofNat_Int, bne_self_eq_false, beq_self_eq_true, Int.reduceBEq, Int.reduceBNe, Bool.not_true, Bool.not_false]
  refine (p2 _ ((Sub.upd_new h1).trans (.upd_new h5))).pthen ?_
  simp -implicitDefEqProofs only [go_sem, ↓reduceIte, Nat.reduceLT, Nat.reduceEqDiff, Nat.reduceAdd, Nat.reduceLeDiff, Nat.reduceMul, Nat.reduceSub, Int.natCast_zero, Int.ofNat_zero, Int.natCast_one, Int.cast_ofNat_Int, bne_self_eq_false, beq_self_eq_true, Int.reduceBEq, Int.reduceBNe, Bool.not_true, Bool.not_false, parsedA, polA, zeroP]
  intro i6 h6
  simp -implicitDefEqProofs only [go_sem, ↓reduceIte, Nat.reduceLT, Nat.reduceEqDiff, Nat.reduceAdd, Nat.reduceLeDiff, Nat.reduceMul, Nat.reduceSub, Int.natCast_zero, Int.ofNat_zero, Int.natCast_one, Int.cast_ofNat_Int, bne_self_eq_false, beq_self_eq_true, Int.reduceBEq, Int.reduceBNe, Bool.not_true, Bool.not_false]
  refine (p3 _ (((Sub.upd_new h1).trans (.upd_new h5)).trans (.upd_new h6))).pthen ?_
  simp -implicitDefEqProofs only [go_sem, ↓reduceIte, Nat.reduceLT, Nat.reduceEqDiff, Nat.reduceAdd, Nat.reduceLeDiff, Nat.reduceMul, Nat.reduceSub, Int.natCast_zero, Int.ofNat_zero, Int.natCast_one, Int.cast_ofNat_Int, bne_self_eq_false, beq_self_eq_true, Int.reduceBEq, Int.reduceBNe, Bool.not_true, Bool.not_false, parsedA, polA, zeroP]
  intro i9 h9
  simp -implicitDefEqProofs only [go_sem, ↓reduceIte, Nat.reduceLT, Nat.reduceEqDiff, Nat.reduceAdd, Nat.reduceLeDiff, Nat.reduceMul, Nat.reduceSub, Int.natCast_zero, Int.ofNat_zero, Int.natCast_one, Int.cast_ofNat_Int, bne_self_eq_false, beq_self_eq_true, Int.reduceBEq, Int.reduceBNe, Bool.not_true, Bool.not_false]
  refine (p4 _ ((((Sub.upd_new h1).trans (.upd_new h5)).trans (.upd_new h6)).trans (.upd_new h9))).pthen ?_
  simp -implicitDefEqProofs only [go_sem, ↓reduceIte, Nat.reduceLT, Nat.reduceEqDiff, Nat.reduceAdd, Nat.reduceLeDiff, Nat.reduceMul, Nat.reduceSub, Int.natCast_zero, Int.ofNat_zero, Int.natCast_one, Int.cast_ofNat_Int, bne_self_eq_false, beq_self_eq_true, Int.reduceBEq, Int.reduceBNe, Bool.not_true, Bool.not_false, parsedA, polA, zeroP]
  intro i12 h12
  obtain ⟨n1, g1⟩ := new2 h12
  obtain ⟨n2, g2⟩ := new2 g1
  obtain ⟨n3, g3⟩ := new2 g2
  obtain ⟨n4, g4⟩ := new2 g3
  obtain ⟨n5, g5⟩ := new2 h9
  obtain ⟨n6, g6⟩ := new2 g5
  obtain ⟨n7, g7⟩ := new2 g6
  obtain ⟨n8, g8⟩ := new2 h6
  obtain ⟨n9, g9⟩ := new2 g8
  obtain ⟨n10, g10⟩ := new2 h5
  simp -implicitDefEqProofs only [go_sem, ↓reduceIte, Nat.reduceLT, Nat.reduceEqDiff, Nat.reduceAdd, Nat.reduceLeDiff, Nat.reduceMul, Nat.reduceSub, Int.natCast_zero, Int.ofNat_zero, Int.natCast_one, Int.cast_ofNat_Int, bne_self_eq_false, beq_self_eq_true, Int.reduceBEq, Int.reduceBNe, Bool.not_true, Bool.not_false, upd_ne, n1, n2, n3, n4, n5, n6, n7, n8, n9, n10, n1.symm, n2.symm, n3.symm, n4.symm, n5.symm, n6.symm, n7.symm, n8.symm, n9.symm, n10.symm]
  refine FnOK.strip ?_
  have e : ∀ (a : List AV) (k : Heap), a = [polA prPol, polA prPol] → FnOK Tryd.prog 23 [polA prPol, polA prPol] k = FnOK Tryd.prog 23 a k := fun a k e => by rw [e]
  rw [← e _ _ (by simp [strip, stripL, polA, prPol, prNodes, kidsA, ruleA, tgtA, anyA, allA, matchA, condA, nodeA, oblsA, oblA])]
  refine (policies_ok prPol prPol _).pthen ?_
  simp -implicitDefEqProofs only [go_sem, ↓reduceIte, Nat.reduceLT, Nat.reduceEqDiff, Nat.reduceAdd, Nat.reduceLeDiff, Nat.reduceMul, Nat.reduceSub, Int.natCast_zero, Int.ofNat_zero, Int.natCast_one, Int.cast_ofNat_Int, bne_self_eq_false, beq_self_eq_true, Int.reduceBEq, Int.reduceBNe, Bool.not_true, Bool.not_false, prPol_eq]
  exact .mk _ (.refl _) (((((Sub.upd_new h1).trans (.upd_new h5)).trans (.upd_new h6)).trans (.upd_new h9)).trans (.upd_new h12)) ⟨rfl, rfl⟩

/-- What a statement's start memory holds. -/
def startH (ev : Value) : Heap := tabH [(1, pow10V), (3, [ev])]
theorem start_err {ev : Value} (hev : ev = .nilIface ∨ ∃ te pe, ev = .iface te pe) : ErrT (startH ev) := ⟨ev, hev, 1, rfl⟩
theorem parseRuns_law (ev : Value) (hev : ev = .nilIface ∨ ∃ te pe, ev = .iface te pe) : FnOK Tryd.prog 6 [] (tabH [(1, pow10V), (3, [ev])]) fun r _ => r = .v (.bool true) := (parseRuns_ok _ (start_err hev)).mono fun _ _ h => h.1
end Go.Proofs.YtdcchpbncckhlaaDoor
