/- The law CasesRight: pack 4 of its texts. -/
import Derived.Lib.AtoiAll
import Derived.Test.YtnhelgnmadbpgaaGreatDoorPk1
import Derived.Test.YtnhelgnmadbpgaaGreatDoorPk2
import Derived.Test.YtnhelgnmadbpgaaGreatDoorPk3
set_option linter.unusedSimpArgs false
set_option linter.unusedVariables false
namespace Go.Proofs.YtnhelgnmadbpgaaGreatDoor
open Go Go.Ab Go.Bf
theorem upd_none {h : Heap} {i j : Nat} {b : Blk} (e : upd h i (some b) j = none) : h j = none := by rwa [upd_other _ _ (ne_upd e)] at e
theorem val_ne {v : ValD} (h : (v.kind == (0 : Int) && (v.n == (0 : Int) && v.s == ([] : Txt))) = false) : ¬v.kind = 0 ∨ ¬v.n = 0 ∨ ¬v.s = [] := by
  by_cases a1 : v.kind = 0
  · by_cases a2 : v.n = 0
    · by_cases a3 : v.s = []
      · simp [a1, a2, a3] at h
      · exact .inr (.inr a3)
    · exact .inr (.inl a2)
  · exact .inl a1
theorem val_eq {v : ValD} (h : (v.kind == (0 : Int) && (v.n == (0 : Int) && v.s == ([] : Txt))) = true) : v.kind = 0 ∧ v.n = 0 ∧ v.s = [] := by
  simpa [Bool.and_eq_true] using h
theorem onCase_ok (k : Int) (h : Heap) : FnOK Tryz.prog 105 [.v (.int .i64 k)] h fun r h' => r = .v (.bool (onCase k)) ∧ h' = h := by
  refine FnOK.body hU hm Tryz.func105 rfl (by kernel_rfl) 9 rfl [.tmp 2] rfl (Nat.le_of_ble_eq_true rfl) (fun hwf => ?_)
  cases d1 : decide (1 ≤ k)
  · simp -implicitDefEqProofs only [go_sem, d1]
    exact .same (.refl _) ⟨by simp only [onCase, d1, oneOr, Bool.false_and], rfl⟩
  · simp -implicitDefEqProofs only [go_sem, d1]
    exact .same (.refl _) ⟨by simp only [onCase, d1, oneOr, Bool.true_and], rfl⟩
theorem empty_ok (s : Txt) (h : Heap) : FnOK Tryz.prog 59 [.s s] h fun r h' => r = .v (.bool (emptyD s)) ∧ h' = h := by
  refine FnOK.body hU hm Tryz.func59 rfl (by kernel_rfl) 9 rfl [.tmp 2] rfl (Nat.le_of_ble_eq_true rfl) (fun hwf => ?_)
  cases d1 : (s == ([] : Txt))
  · simp -implicitDefEqProofs only [go_sem, d1]
    refine (name_ok s h).pthen ?_
    simp -implicitDefEqProofs only [go_sem]
    exact .same (.refl _) ⟨by simp only [emptyD, d1, oneOr, Bool.false_or], rfl⟩
  · simp -implicitDefEqProofs only [go_sem, d1]
    exact .same (.refl _) ⟨by simp only [emptyD, d1, oneOr, Bool.true_or], rfl⟩
theorem follows_ok (a b : Txt) (h : Heap) : FnOK Tryz.prog 37 [.s a, .s b] h fun r h' => r = .v (.bool (followsD a b)) ∧ h' = h := by
  refine FnOK.body hU hm Tryz.func37 rfl (by kernel_rfl) 22 rfl [.tmp 4] rfl (Nat.le_of_ble_eq_true rfl) (fun hwf => ?_)
  cases d1 : (a == openT) <;> cases d2 : (a == workT) <;> cases d3 : (a == doneT) <;> cases d4 : (b == workT) <;> simp only [openT, workT, doneT] at d1 d2 d3 d4 <;> simp -implicitDefEqProofs only [go_sem, d1, d2, d3, d4] <;>
    exact .same (.refl _) ⟨by simp only [followsD, d1, d2, d3, d4, oneOr, openT, workT, doneT, closedT, if_true, Bool.false_eq_true, if_false, Bool.true_or, Bool.false_or], rfl⟩
theorem action_ok (k : Int) (hk : i64 k) (h : Heap) : FnOK Tryz.prog 38 [.v (.int .i64 k)] h fun r h' => r = .s (actionD k) ∧ h' = h := by
  refine FnOK.body hU hm Tryz.func38 rfl (by kernel_rfl) 18 rfl [.tmp 2] rfl (Nat.le_of_ble_eq_true rfl) (fun hwf => ?_)
  simp -implicitDefEqProofs only [go_sem]
  cases d1 : decide (k < 1)
  case true =>
    simp -implicitDefEqProofs only [go_sem, d1]
    exact .same (.refl _) ⟨by simp only [actionD, of_decide_eq_true d1, true_or, if_true, oneOr], rfl⟩
  cases d2 : decide ((7 : Int) < k)
  case true =>
    simp -implicitDefEqProofs only [go_sem, d1, d2]
    exact .same (.refl _) ⟨by simp only [actionD, show k > 7 from of_decide_eq_true d2, or_true, if_true, oneOr], rfl⟩
  have h1 := of_decide_eq_false d1
  have h2 := of_decide_eq_false d2
  obtain ⟨j, rfl⟩ : ∃ j : Nat, k = (j : Int) + 1 := ⟨(k - 1).toNat, by omega⟩
  have hj : j < 7 := by omega
  have w1 : IntKind.i64.wrap ((j : Int) + 1 - 1) = (j : Int) := by rw [wr64 _ (by omega)]; omega
  simp -implicitDefEqProofs only [go_sem, d1, d2, w1]
  refine .at j (by simpa using hj) (by rcases j with _ | _ | _ | _ | _ | _ | _ | j <;> first | rfl | omega) ?_
  rcases j with _ | _ | _ | _ | _ | _ | _ | j
  all_goals first | omega | skip
  all_goals
    simp -implicitDefEqProofs only [go_sem, List.getElem_cons_zero, List.getElem_cons_succ]
    exact .same (.refl _) ⟨by rfl, rfl⟩
theorem reason_ok (o : OpD) (h : Heap) : FnOK Tryz.prog 58 [opA o] h fun r h' => r = .v (.bool (reasonD o)) ∧ h' = h := by
  refine FnOK.body hU hm Tryz.func58 rfl (by kernel_rfl) 23 rfl [.tmp 2] rfl (Nat.le_of_ble_eq_true rfl) (fun hwf => ?_)
  simp -implicitDefEqProofs only [go_sem, opA, opC]
  intro id hid
  cases d1 : o.glass
  · simp -implicitDefEqProofs only [go_sem, d1]
    exact .mk _ (.refl _) (.upd_new hid) ⟨by simp [reasonD, d1, oneOr], rfl⟩
  simp -implicitDefEqProofs only [go_sem, d1]
  refine (onCase_ok _ _).pthen ?_
  cases d2 : onCase o.kind
  · simp -implicitDefEqProofs only [go_sem, d2]
    exact .mk _ (.refl _) (.upd_new hid) ⟨by simp [reasonD, d1, d2, oneOr], rfl⟩
  cases d3 : (o.reason == ([] : Txt))
  · simp -implicitDefEqProofs only [go_sem, d2, d3]
    exact .mk _ (.refl _) (.upd_new hid) ⟨by
      simp only [reasonD, d1, d2, d3, oneOr, if_true, Bool.not_false, Bool.true_and]
      congr 2
      simp only [Bool.and_true, decide_eq_decide]
      omega, rfl⟩
  · simp -implicitDefEqProofs only [go_sem, d2, d3]
    exact .mk _ (.refl _) (.upd_new hid) ⟨by simp [reasonD, d1, d2, d3, oneOr], rfl⟩
theorem bare_ok (o : OpD) (h : Heap) : FnOK Tryz.prog 106 [opA o] h fun r h' => r = opA (bareD o) ∧ h' = h := by
  refine FnOK.body hU hm Tryz.func106 rfl (by kernel_rfl) 7 rfl [.cell 2 40] rfl (Nat.le_of_ble_eq_true rfl) (fun hwf => ?_)
  simp -implicitDefEqProofs only [go_sem, opA, opC]
  intro i1 h1
  simp -implicitDefEqProofs only [go_sem]
  intro i2 h2
  have hne := ne_upd h2
  simp -implicitDefEqProofs only [go_sem, upd_ne, hne, hne.symm]
  have n2 := upd_none h2
  exact .mk _ (.refl _) (((((Sub.refl h).put h1 _).put n2 _).put h1 _).put n2 _) ⟨rfl, rfl⟩
set_option maxRecDepth 100000 in
theorem takes_ok (o : OpD) (h : Heap) : FnOK Tryz.prog 60 [opA o] h fun r h' => r = .v (.bool (takesD o)) ∧ h' = h := by
  have hb := fun hh => bare_ok o hh
  simp only [bareD, opA, opC] at hb
  refine FnOK.body hU hm Tryz.func60 rfl (by kernel_rfl) 111 rfl [.tmp 2] rfl (Nat.le_of_ble_eq_true rfl) (fun hwf => ?_)
  simp -implicitDefEqProofs only [go_sem, opA, opC]
  intro i1 h1
  simp -implicitDefEqProofs only [go_sem]
  refine (hb _).pthen ?_
  simp -implicitDefEqProofs only [go_sem]
  intro i3 h3
  have n31 := ne_upd h3
  have n3 := upd_none h3
  simp -implicitDefEqProofs only [go_sem, upd_ne, n31, n31.symm]
  intro i4 h4
  have n43 := ne_upd h4
  have h4' := upd_none h4
  have n41 := ne_upd h4'
  have n4 := upd_none h4'
  have bnd : o.kind ≠ 1 → o.kind ≠ 2 → o.kind ≠ 3 → o.kind ≠ 4 → o.kind ≠ 5 → o.kind ≠ 6 → o.kind ≠ 7 → o.kind ≠ 8 → (decide (1 ≤ o.kind) && decide (o.kind ≤ 8)) = false := by
    intro a1 a2 a3 a4 a5 a6 a7 a8
    simp only [Bool.and_eq_false_iff, decide_eq_false_iff_not]
    omega
  by_cases k1 : o.kind = 1
  · simp -implicitDefEqProofs only [go_sem, upd_ne, n31, n31.symm, n43, n43.symm, n41, n41.symm, k1, decide_true, Int.reduceBEq, Int.reduceBNe]
    cases dcase : (o.case == ([] : Txt))
    · simp -implicitDefEqProofs only [go_sem, upd_ne, n31, n31.symm, n43, n43.symm, n41, n41.symm, k1, decide_true, Int.reduceBEq, Int.reduceBNe, dcase]
      exact .mk _ (.refl _) (by repeat' first | exact .refl _ | (refine Sub.put ?_ (by assumption) _)) ⟨by simp [takesD, okD, onlyD, bareD, eqOp, eqV, zeroVal, oneOr, k1, decide_true, dcase, beq_self_eq_true, Bool.and_true, Bool.true_and, Bool.false_and, Bool.and_false, Bool.not_true, Bool.not_false], rfl⟩
    · simp -implicitDefEqProofs only [go_sem, upd_ne, n31, n31.symm, n43, n43.symm, n41, n41.symm, k1, decide_true, Int.reduceBEq, Int.reduceBNe, dcase]
      exact .mk _ (.refl _) (by repeat' first | exact .refl _ | (refine Sub.put ?_ (by assumption) _)) ⟨by simp [takesD, okD, onlyD, bareD, eqOp, eqV, zeroVal, oneOr, k1, decide_true, dcase, beq_self_eq_true, Bool.and_true, Bool.true_and, Bool.false_and, Bool.and_false, Bool.not_true, Bool.not_false], rfl⟩
  by_cases k2 : o.kind = 2
  · simp -implicitDefEqProofs only [go_sem, upd_ne, n31, n31.symm, n43, n43.symm, n41, n41.symm, k2, decide_true, Int.reduceBEq, Int.reduceBNe]
    refine .calls (hm1 i1 _) [0, 1, 2, 3, 4, 5, 6, 7] (.hm1 (by rw [upd_other _ _ n41.symm, upd_other _ _ n31.symm, upd_same])) (by kernel_rfl) rfl ?_
    simp -implicitDefEqProofs only [go_sem, upd_ne, n31, n31.symm, n43, n43.symm, n41, n41.symm, k2, decide_true, Int.reduceBEq, Int.reduceBNe]
    refine ⟨(.hm1 (by simp only [upd_ne, n41, n41.symm, n31, n31.symm, n43, n43.symm, upd_same', not_false_eq_true])), (.hm1 (by simp only [upd_ne, n41, n41.symm, n31, n31.symm, n43, n43.symm, upd_same', not_false_eq_true])), ?_⟩
    cases dcase : (o.case == ([] : Txt))
    · simp -implicitDefEqProofs only [go_sem, upd_ne, n31, n31.symm, n43, n43.symm, n41, n41.symm, k2, decide_true, Int.reduceBEq, Int.reduceBNe, dcase]
      cases dfield : (o.field == ([] : Txt))
      · simp -implicitDefEqProofs only [go_sem, upd_ne, n31, n31.symm, n43, n43.symm, n41, n41.symm, k2, decide_true, Int.reduceBEq, Int.reduceBNe, dcase, dfield]
        exact .mk _ (.refl _) (by repeat' first | exact .refl _ | (refine Sub.put ?_ (by assumption) _)) ⟨by simp [takesD, okD, onlyD, bareD, eqOp, eqV, zeroVal, oneOr, k2, decide_true, dcase, dfield, beq_self_eq_true, Bool.and_true, Bool.true_and, Bool.false_and, Bool.and_false, Bool.not_true, Bool.not_false], rfl⟩
      · simp -implicitDefEqProofs only [go_sem, upd_ne, n31, n31.symm, n43, n43.symm, n41, n41.symm, k2, decide_true, Int.reduceBEq, Int.reduceBNe, dcase, dfield]
        exact .mk _ (.refl _) (by repeat' first | exact .refl _ | (refine Sub.put ?_ (by assumption) _)) ⟨by simp [takesD, okD, onlyD, bareD, eqOp, eqV, zeroVal, oneOr, k2, decide_true, dcase, dfield, beq_self_eq_true, Bool.and_true, Bool.true_and, Bool.false_and, Bool.and_false, Bool.not_true, Bool.not_false], rfl⟩
    · simp -implicitDefEqProofs only [go_sem, upd_ne, n31, n31.symm, n43, n43.symm, n41, n41.symm, k2, decide_true, Int.reduceBEq, Int.reduceBNe, dcase]
      exact .mk _ (.refl _) (by repeat' first | exact .refl _ | (refine Sub.put ?_ (by assumption) _)) ⟨by simp [takesD, okD, onlyD, bareD, eqOp, eqV, zeroVal, oneOr, k2, decide_true, dcase, beq_self_eq_true, Bool.and_true, Bool.true_and, Bool.false_and, Bool.and_false, Bool.not_true, Bool.not_false], rfl⟩
  by_cases k6 : o.kind = 6
  · simp -implicitDefEqProofs only [go_sem, upd_ne, n31, n31.symm, n43, n43.symm, n41, n41.symm, k6, decide_true, Int.reduceBEq, Int.reduceBNe]
    refine .calls (hm1 i1 _) [0, 1, 2, 3, 4, 5, 6, 7] (.hm1 (by rw [upd_other _ _ n41.symm, upd_other _ _ n31.symm, upd_same])) (by kernel_rfl) rfl ?_
    simp -implicitDefEqProofs only [go_sem, upd_ne, n31, n31.symm, n43, n43.symm, n41, n41.symm, k6, decide_true, Int.reduceBEq, Int.reduceBNe]
    refine ⟨(.hm1 (by simp only [upd_ne, n41, n41.symm, n31, n31.symm, n43, n43.symm, upd_same', not_false_eq_true])), (.hm1 (by simp only [upd_ne, n41, n41.symm, n31, n31.symm, n43, n43.symm, upd_same', not_false_eq_true])), ?_⟩
    cases dcase : (o.case == ([] : Txt))
    · simp -implicitDefEqProofs only [go_sem, upd_ne, n31, n31.symm, n43, n43.symm, n41, n41.symm, k6, decide_true, Int.reduceBEq, Int.reduceBNe, dcase]
      cases dfield : (o.field == ([] : Txt))
      · simp -implicitDefEqProofs only [go_sem, upd_ne, n31, n31.symm, n43, n43.symm, n41, n41.symm, k6, decide_true, Int.reduceBEq, Int.reduceBNe, dcase, dfield]
        exact .mk _ (.refl _) (by repeat' first | exact .refl _ | (refine Sub.put ?_ (by assumption) _)) ⟨by simp [takesD, okD, onlyD, bareD, eqOp, eqV, zeroVal, oneOr, k6, decide_true, dcase, dfield, beq_self_eq_true, Bool.and_true, Bool.true_and, Bool.false_and, Bool.and_false, Bool.not_true, Bool.not_false], rfl⟩
      · simp -implicitDefEqProofs only [go_sem, upd_ne, n31, n31.symm, n43, n43.symm, n41, n41.symm, k6, decide_true, Int.reduceBEq, Int.reduceBNe, dcase, dfield]
        exact .mk _ (.refl _) (by repeat' first | exact .refl _ | (refine Sub.put ?_ (by assumption) _)) ⟨by simp [takesD, okD, onlyD, bareD, eqOp, eqV, zeroVal, oneOr, k6, decide_true, dcase, dfield, beq_self_eq_true, Bool.and_true, Bool.true_and, Bool.false_and, Bool.and_false, Bool.not_true, Bool.not_false], rfl⟩
    · simp -implicitDefEqProofs only [go_sem, upd_ne, n31, n31.symm, n43, n43.symm, n41, n41.symm, k6, decide_true, Int.reduceBEq, Int.reduceBNe, dcase]
      exact .mk _ (.refl _) (by repeat' first | exact .refl _ | (refine Sub.put ?_ (by assumption) _)) ⟨by simp [takesD, okD, onlyD, bareD, eqOp, eqV, zeroVal, oneOr, k6, decide_true, dcase, beq_self_eq_true, Bool.and_true, Bool.true_and, Bool.false_and, Bool.and_false, Bool.not_true, Bool.not_false], rfl⟩
  by_cases k3 : o.kind = 3
  · simp -implicitDefEqProofs only [go_sem, upd_ne, n31, n31.symm, n43, n43.symm, n41, n41.symm, k3, decide_true, Int.reduceBEq, Int.reduceBNe]
    refine .calls (hm1 i1 _) [0, 1, 2, 3, 4, 5, 6, 7, 8, 9, 10, 11] (.hm1 (by rw [upd_other _ _ n41.symm, upd_other _ _ n31.symm, upd_same])) (by kernel_rfl) rfl ?_
    simp -implicitDefEqProofs only [go_sem, upd_ne, n31, n31.symm, n43, n43.symm, n41, n41.symm, k3, decide_true, Int.reduceBEq, Int.reduceBNe]
    refine ⟨(.hm1 (by simp only [upd_ne, n41, n41.symm, n31, n31.symm, n43, n43.symm, upd_same', not_false_eq_true])), (.hm1 (by simp only [upd_ne, n41, n41.symm, n31, n31.symm, n43, n43.symm, upd_same', not_false_eq_true])), (.hm1 (by simp only [upd_ne, n41, n41.symm, n31, n31.symm, n43, n43.symm, upd_same', not_false_eq_true])), ?_⟩
    cases dcase : (o.case == ([] : Txt))
    · simp -implicitDefEqProofs only [go_sem, upd_ne, n31, n31.symm, n43, n43.symm, n41, n41.symm, k3, decide_true, Int.reduceBEq, Int.reduceBNe, dcase]
      cases dfield : (o.field == ([] : Txt))
      · simp -implicitDefEqProofs only [go_sem, upd_ne, n31, n31.symm, n43, n43.symm, n41, n41.symm, k3, decide_true, Int.reduceBEq, Int.reduceBNe, dcase, dfield]
        cases dval : (o.val.kind == (0 : Int) && (o.val.n == (0 : Int) && o.val.s == ([] : Txt)))
        · simp -implicitDefEqProofs only [go_sem, upd_ne, n31, n31.symm, n43, n43.symm, n41, n41.symm, k3, decide_true, Int.reduceBEq, Int.reduceBNe, dcase, dfield, dval]
          exact .mk _ (.refl _) (by repeat' first | exact .refl _ | (refine Sub.put ?_ (by assumption) _)) ⟨by simp [takesD, okD, onlyD, bareD, eqOp, eqV, zeroVal, oneOr, k3, decide_true, dcase, dfield, dval, beq_self_eq_true, Bool.and_true, Bool.true_and, Bool.false_and, Bool.and_false, Bool.not_true, Bool.not_false]; first | exact fun _ _ _ => val_ne dval | (intro hh; obtain ⟨a, b, c⟩ := val_eq dval; simp [a, b, c] at hh), rfl⟩
        · simp -implicitDefEqProofs only [go_sem, upd_ne, n31, n31.symm, n43, n43.symm, n41, n41.symm, k3, decide_true, Int.reduceBEq, Int.reduceBNe, dcase, dfield, dval]
          exact .mk _ (.refl _) (by repeat' first | exact .refl _ | (refine Sub.put ?_ (by assumption) _)) ⟨by simp [takesD, okD, onlyD, bareD, eqOp, eqV, zeroVal, oneOr, k3, decide_true, dcase, dfield, dval, beq_self_eq_true, Bool.and_true, Bool.true_and, Bool.false_and, Bool.and_false, Bool.not_true, Bool.not_false]; first | exact fun _ _ _ => val_ne dval | (intro hh; obtain ⟨a, b, c⟩ := val_eq dval; simp [a, b, c] at hh), rfl⟩
      · simp -implicitDefEqProofs only [go_sem, upd_ne, n31, n31.symm, n43, n43.symm, n41, n41.symm, k3, decide_true, Int.reduceBEq, Int.reduceBNe, dcase, dfield]
        exact .mk _ (.refl _) (by repeat' first | exact .refl _ | (refine Sub.put ?_ (by assumption) _)) ⟨by simp [takesD, okD, onlyD, bareD, eqOp, eqV, zeroVal, oneOr, k3, decide_true, dcase, dfield, beq_self_eq_true, Bool.and_true, Bool.true_and, Bool.false_and, Bool.and_false, Bool.not_true, Bool.not_false], rfl⟩
    · simp -implicitDefEqProofs only [go_sem, upd_ne, n31, n31.symm, n43, n43.symm, n41, n41.symm, k3, decide_true, Int.reduceBEq, Int.reduceBNe, dcase]
      exact .mk _ (.refl _) (by repeat' first | exact .refl _ | (refine Sub.put ?_ (by assumption) _)) ⟨by simp [takesD, okD, onlyD, bareD, eqOp, eqV, zeroVal, oneOr, k3, decide_true, dcase, beq_self_eq_true, Bool.and_true, Bool.true_and, Bool.false_and, Bool.and_false, Bool.not_true, Bool.not_false], rfl⟩
  by_cases k4 : o.kind = 4
  · simp -implicitDefEqProofs only [go_sem, upd_ne, n31, n31.symm, n43, n43.symm, n41, n41.symm, k4, decide_true, Int.reduceBEq, Int.reduceBNe]
    refine .calls (hm1 i1 _) [0, 1, 2, 3, 4, 5, 6, 7] (.hm1 (by rw [upd_other _ _ n41.symm, upd_other _ _ n31.symm, upd_same])) (by kernel_rfl) rfl ?_
    simp -implicitDefEqProofs only [go_sem, upd_ne, n31, n31.symm, n43, n43.symm, n41, n41.symm, k4, decide_true, Int.reduceBEq, Int.reduceBNe]
    refine ⟨(.hm1 (by simp only [upd_ne, n41, n41.symm, n31, n31.symm, n43, n43.symm, upd_same', not_false_eq_true])), (.hm1 (by simp only [upd_ne, n41, n41.symm, n31, n31.symm, n43, n43.symm, upd_same', not_false_eq_true])), ?_⟩
    cases dcase : (o.case == ([] : Txt))
    · simp -implicitDefEqProofs only [go_sem, upd_ne, n31, n31.symm, n43, n43.symm, n41, n41.symm, k4, decide_true, Int.reduceBEq, Int.reduceBNe, dcase]
      cases dto : (o.to == ([] : Txt))
      · simp -implicitDefEqProofs only [go_sem, upd_ne, n31, n31.symm, n43, n43.symm, n41, n41.symm, k4, decide_true, Int.reduceBEq, Int.reduceBNe, dcase, dto]
        exact .mk _ (.refl _) (by repeat' first | exact .refl _ | (refine Sub.put ?_ (by assumption) _)) ⟨by simp [takesD, okD, onlyD, bareD, eqOp, eqV, zeroVal, oneOr, k4, decide_true, dcase, dto, beq_self_eq_true, Bool.and_true, Bool.true_and, Bool.false_and, Bool.and_false, Bool.not_true, Bool.not_false], rfl⟩
      · simp -implicitDefEqProofs only [go_sem, upd_ne, n31, n31.symm, n43, n43.symm, n41, n41.symm, k4, decide_true, Int.reduceBEq, Int.reduceBNe, dcase, dto]
        exact .mk _ (.refl _) (by repeat' first | exact .refl _ | (refine Sub.put ?_ (by assumption) _)) ⟨by simp [takesD, okD, onlyD, bareD, eqOp, eqV, zeroVal, oneOr, k4, decide_true, dcase, dto, beq_self_eq_true, Bool.and_true, Bool.true_and, Bool.false_and, Bool.and_false, Bool.not_true, Bool.not_false], rfl⟩
    · simp -implicitDefEqProofs only [go_sem, upd_ne, n31, n31.symm, n43, n43.symm, n41, n41.symm, k4, decide_true, Int.reduceBEq, Int.reduceBNe, dcase]
      exact .mk _ (.refl _) (by repeat' first | exact .refl _ | (refine Sub.put ?_ (by assumption) _)) ⟨by simp [takesD, okD, onlyD, bareD, eqOp, eqV, zeroVal, oneOr, k4, decide_true, dcase, beq_self_eq_true, Bool.and_true, Bool.true_and, Bool.false_and, Bool.and_false, Bool.not_true, Bool.not_false], rfl⟩
  by_cases k5 : o.kind = 5
  · simp -implicitDefEqProofs only [go_sem, upd_ne, n31, n31.symm, n43, n43.symm, n41, n41.symm, k5, decide_true, Int.reduceBEq, Int.reduceBNe]
    cases drev0 : decide ((0 : Int) < o.review)
    · simp -implicitDefEqProofs only [go_sem, upd_ne, n31, n31.symm, n43, n43.symm, n41, n41.symm, k5, decide_true, Int.reduceBEq, Int.reduceBNe, drev0]
      exact .mk _ (.refl _) (by repeat' first | exact .refl _ | (refine Sub.put ?_ (by assumption) _)) ⟨by simp [takesD, okD, onlyD, bareD, eqOp, eqV, zeroVal, oneOr, k5, decide_true, drev0, beq_self_eq_true, Bool.and_true, Bool.true_and, Bool.false_and, Bool.and_false, Bool.not_true, Bool.not_false], rfl⟩
    · simp -implicitDefEqProofs only [go_sem, upd_ne, n31, n31.symm, n43, n43.symm, n41, n41.symm, k5, decide_true, Int.reduceBEq, Int.reduceBNe, drev0]
      exact .mk _ (.refl _) (by repeat' first | exact .refl _ | (refine Sub.put ?_ (by assumption) _)) ⟨by simp [takesD, okD, onlyD, bareD, eqOp, eqV, zeroVal, oneOr, k5, decide_true, drev0, beq_self_eq_true, Bool.and_true, Bool.true_and, Bool.false_and, Bool.and_false, Bool.not_true, Bool.not_false], rfl⟩
  by_cases k7 : o.kind = 7
  · simp -implicitDefEqProofs only [go_sem, upd_ne, n31, n31.symm, n43, n43.symm, n41, n41.symm, k7, decide_true, Int.reduceBEq, Int.reduceBNe]
    exact .mk _ (.refl _) (by repeat' first | exact .refl _ | (refine Sub.put ?_ (by assumption) _)) ⟨by simp [takesD, okD, onlyD, bareD, eqOp, eqV, zeroVal, oneOr, k7, decide_true, beq_self_eq_true, Bool.and_true, Bool.true_and, Bool.false_and, Bool.and_false, Bool.not_true, Bool.not_false], rfl⟩
  by_cases k8 : o.kind = 8
  · simp -implicitDefEqProofs only [go_sem, upd_ne, n31, n31.symm, n43, n43.symm, n41, n41.symm, k8, decide_true, Int.reduceBEq, Int.reduceBNe]
    cases drev0 : decide ((0 : Int) < o.review)
    · simp -implicitDefEqProofs only [go_sem, upd_ne, n31, n31.symm, n43, n43.symm, n41, n41.symm, k8, decide_true, Int.reduceBEq, Int.reduceBNe, drev0]
      exact .mk _ (.refl _) (by repeat' first | exact .refl _ | (refine Sub.put ?_ (by assumption) _)) ⟨by simp [takesD, okD, onlyD, bareD, eqOp, eqV, zeroVal, oneOr, k8, decide_true, drev0, beq_self_eq_true, Bool.and_true, Bool.true_and, Bool.false_and, Bool.and_false, Bool.not_true, Bool.not_false], rfl⟩
    · simp -implicitDefEqProofs only [go_sem, upd_ne, n31, n31.symm, n43, n43.symm, n41, n41.symm, k8, decide_true, Int.reduceBEq, Int.reduceBNe, drev0]
      cases drev1 : decide (o.review ≤ (1099511627776 : Int))
      · simp -implicitDefEqProofs only [go_sem, upd_ne, n31, n31.symm, n43, n43.symm, n41, n41.symm, k8, decide_true, Int.reduceBEq, Int.reduceBNe, drev0, drev1]
        exact .mk _ (.refl _) (by repeat' first | exact .refl _ | (refine Sub.put ?_ (by assumption) _)) ⟨by simp [takesD, okD, onlyD, bareD, eqOp, eqV, zeroVal, oneOr, k8, decide_true, drev0, drev1, beq_self_eq_true, Bool.and_true, Bool.true_and, Bool.false_and, Bool.and_false, Bool.not_true, Bool.not_false], rfl⟩
      · simp -implicitDefEqProofs only [go_sem, upd_ne, n31, n31.symm, n43, n43.symm, n41, n41.symm, k8, decide_true, Int.reduceBEq, Int.reduceBNe, drev0, drev1]
        exact .mk _ (.refl _) (by repeat' first | exact .refl _ | (refine Sub.put ?_ (by assumption) _)) ⟨by simp [takesD, okD, onlyD, bareD, eqOp, eqV, zeroVal, oneOr, k8, decide_true, drev0, drev1, beq_self_eq_true, Bool.and_true, Bool.true_and, Bool.false_and, Bool.and_false, Bool.not_true, Bool.not_false], rfl⟩
  simp -implicitDefEqProofs only [go_sem, upd_ne, n31, n31.symm, n43, n43.symm, n41, n41.symm, beq_eq_false_iff_ne.2 k1, beq_eq_false_iff_ne.2 k2, beq_eq_false_iff_ne.2 k6, beq_eq_false_iff_ne.2 k3, beq_eq_false_iff_ne.2 k4, beq_eq_false_iff_ne.2 k5, beq_eq_false_iff_ne.2 k7, beq_eq_false_iff_ne.2 k8]
  exact .mk _ (.refl _) (by repeat' first | exact .refl _ | (refine Sub.put ?_ (by assumption) _)) ⟨by simp only [takesD, bnd k1 k2 k3 k4 k5 k6 k7 k8, Bool.false_and, oneOr], rfl⟩
theorem form_ok (o : OpD) (h : Heap) : FnOK Tryz.prog 21 [opA o] h fun r h' => r = .v (.bool (formD o)) ∧ h' = h := by
  have hr := fun hh => reason_ok o hh
  have ht := fun hh => takes_ok o hh
  have hv := fun hh => valRight_ok o.val hh
  simp only [opA, opC, valA] at hr ht hv
  refine FnOK.body hU hm Tryz.func21 rfl (by kernel_rfl) 48 rfl [.tmp 2] rfl (Nat.le_of_ble_eq_true rfl) (fun hwf => ?_)
  simp -implicitDefEqProofs only [go_sem, opA, opC]
  intro i1 h1
  simp -implicitDefEqProofs only [go_sem]
  refine (name_ok o.subj _).pthen ?_
  cases d1 : nameOK o.subj
  · simp -implicitDefEqProofs only [go_sem, d1]
    exact .mk _ (.refl _) (.upd_new h1) ⟨by simp only [formD, d1, Bool.false_and, oneOr], rfl⟩
  simp -implicitDefEqProofs only [go_sem, d1]
  refine (hr _).pthen ?_
  cases d2 : reasonD o
  · simp -implicitDefEqProofs only [go_sem, d1, d2]
    exact .mk _ (.refl _) (.upd_new h1) ⟨by simp only [formD, d1, d2, Bool.false_and, Bool.true_and, oneOr], rfl⟩
  cases d3 : decide ((4096 : Int) < (o.text.length : Int))
  case true =>
    have e3 : decide (o.text.length ≤ 4096) = false := decide_eq_false (by have := of_decide_eq_true d3; omega)
    simp -implicitDefEqProofs only [go_sem, d1, d2, d3]
    exact .mk _ (.refl _) (.upd_new h1) ⟨by simp only [formD, d1, d2, e3, Bool.false_and, Bool.true_and, oneOr], rfl⟩
  have e3 : decide (o.text.length ≤ 4096) = true := decide_eq_true (by have := of_decide_eq_false d3; omega)
  simp -implicitDefEqProofs only [go_sem, d1, d2, d3]
  refine (empty_ok o.case _).pthen ?_
  cases d4 : emptyD o.case
  · simp -implicitDefEqProofs only [go_sem, d4]
    exact .mk _ (.refl _) (.upd_new h1) ⟨by simp only [formD, d1, d2, e3, d4, Bool.false_and, Bool.true_and, oneOr], rfl⟩
  simp -implicitDefEqProofs only [go_sem, d4]
  refine (empty_ok o.field _).pthen ?_
  cases d5 : emptyD o.field
  · simp -implicitDefEqProofs only [go_sem, d4, d5]
    exact .mk _ (.refl _) (.upd_new h1) ⟨by simp only [formD, d1, d2, e3, d4, d5, Bool.false_and, Bool.true_and, oneOr], rfl⟩
  simp -implicitDefEqProofs only [go_sem, d4, d5]
  refine (empty_ok o.to _).pthen ?_
  cases d6 : emptyD o.to
  · simp -implicitDefEqProofs only [go_sem, d4, d5, d6]
    exact .mk _ (.refl _) (.upd_new h1) ⟨by simp only [formD, d1, d2, e3, d4, d5, d6, Bool.false_and, Bool.true_and, oneOr], rfl⟩
  cases d7 : (o.val.kind == (0 : Int) && (o.val.n == (0 : Int) && o.val.s == ([] : Txt)))
  · simp -implicitDefEqProofs only [go_sem, d4, d5, d6, d7]
    refine (hv _).pthen ?_
    have e7 : eqV o.val zeroVal = false := d7
    cases d8 : valOK o.val
    · simp -implicitDefEqProofs only [go_sem, d4, d5, d6, d7, d8]
      exact .mk _ (.refl _) (.upd_new h1) ⟨by simp only [formD, d1, d2, e3, d4, d5, d6, e7, d8, Bool.or_self, Bool.false_and, Bool.true_and, oneOr], rfl⟩
    simp -implicitDefEqProofs only [go_sem, d4, d5, d6, d7, d8]
    refine (ht _).pthen ?_
    simp -implicitDefEqProofs only [go_sem]
    exact .mk _ (.refl _) (.upd_new h1) ⟨by simp only [formD, d1, d2, e3, d4, d5, d6, e7, d8, Bool.false_or, Bool.true_and, oneOr], rfl⟩
  · simp -implicitDefEqProofs only [go_sem, d4, d5, d6, d7]
    have e7 : eqV o.val zeroVal = true := d7
    refine (ht _).pthen ?_
    simp -implicitDefEqProofs only [go_sem]
    exact .mk _ (.refl _) (.upd_new h1) ⟨by simp only [formD, d1, d2, e3, d4, d5, d6, e7, Bool.true_or, Bool.true_and, oneOr], rfl⟩
end Go.Proofs.YtnhelgnmadbpgaaGreatDoor

set_option linter.unusedSimpArgs false
set_option linter.unusedVariables false
namespace Go.Bf
open Go Go.Ab
def ixD {α : Type} (q : α → Bool) (l : List α) : Int := if l.findIdx q < l.length then (l.findIdx q : Nat) else -1
theorem ixD_at {α : Type} {q : α → Bool} {l : List α} {i : Nat} (hi : i < l.length) (h1 : q l[i] = true) (h2 : ∀ j (hj : j < i), q (l[j]'(by omega)) = false) : ixD q l = (i : Nat) := by
  have e : l.findIdx q = i := (List.findIdx_eq hi).2 ⟨h1, fun j hj => h2 j hj⟩
  rw [ixD, e, if_pos hi]
theorem ixD_none {α : Type} {q : α → Bool} {l : List α} (h : ∀ j (hj : j < l.length), q l[j] = false) : ixD q l = -1 := by
  have e : l.findIdx q = l.length := List.findIdx_eq_length.2 fun x hx => by
    obtain ⟨j, hj, rfl⟩ := List.mem_iff_getElem.1 hx
    exact h j hj
  rw [ixD, e, if_neg (Nat.lt_irrefl _)]
end Go.Bf
namespace Go.Proofs.YtnhelgnmadbpgaaGreatDoor
open Go Go.Ab Go.Bf
theorem ixCase_ok {α : Type} (y : AV) (xs : List AV) (ds : List α) (q : α → Bool) (g : FuncId) (cap : List AV) (h : Heap) (hb : Rd h 5 y xs) (hn : xs.length = ds.length) (hl : xs.length ≤ 1000000000) (hx : ∀ x ∈ xs, isAggA x = true)
    (hp : ∀ i (h1 : i < xs.length) (h2 : i < ds.length), FnOK Tryz.prog g (xs[i] :: cap) h fun r h' => r = .v (.bool (q ds[i])) ∧ h' = h) :
    FnOK Tryz.prog 91 [y, .fn g cap] h fun r h' => r = .v (.int .i64 (ixD q ds)) ∧ h' = h := by
  refine FnOK.body hU hm Tryz.func91 rfl (by kernel_rfl) 19 rfl [.tmp 4] rfl (Nat.le_of_ble_eq_true rfl) (fun hwf => ?_)
  simp -implicitDefEqProofs only [go_sem, hb.len]
  refine .intro (fun m ρ h' => h' = h ∧ ∃ i : Nat, i ≤ xs.length ∧ m = xs.length - i ∧ (∀ j (hj : j < i) (h2 : j < ds.length), q ds[j] = false) ∧ lk ρ 0 = some y ∧ lk ρ 1 = some (.fn g cap) ∧ lk ρ 7 = some (.v (.int .i64 xs.length)) ∧ lk ρ 8 = some (.v (.int .i64 i))) xs.length ?_ ?_
  · refine ⟨rfl, 0, by omega, rfl, fun j hj => (by omega), ?_, ?_, ?_, ?_⟩ <;> simp -implicitDefEqProofs only [go_sem]
  · rintro m ρ h' ⟨rfl, i, hi, rfl, hc, r0, r1, r7, r8⟩
    simp -implicitDefEqProofs only [go_sem, r0, r1, r7, r8]
    refine .intro (fun e => ?_) (fun e => ?_)
    · have hlt : i < xs.length := Int.ofNat_lt.1 (of_decide_eq_true e)
      have hlt2 : i < ds.length := by omega
      have w1 : IntKind.i64.wrap ((i : Int) + 1) = ((i + 1 : Nat) : Int) := by rw [wr64 _ (by omega)]; omega
      simp -implicitDefEqProofs only [go_sem, r0, r1, r7, r8]
      refine hb.idx (e := 63) i rfl hlt (by simp only [go_sem]) (by decide) fun p hp1 => ?_
      have hld := hp1.all (U := U) (ty := 63) (by simp only [go_sem]) (by simp only [go_sem]; exact hb.1 _ (List.getElem_mem hlt)) (by simp only [go_sem]; rw [hx _ (List.getElem_mem hlt)])
      simp -implicitDefEqProofs only [go_sem, r0, r1, r7, r8, hld]
      refine (show FnOK Tryz.prog g (xs[i] :: cap) _ _ from hp i hlt hlt2).pthen ?_
      cases d1 : q ds[i]
      · simp -implicitDefEqProofs only [go_sem, r0, r1, r7, r8, w1]
        refine ⟨_, ?_, rfl, i + 1, by omega, rfl, fun j hj h2 => ?_, ?_, ?_, ?_, ?_⟩
        · omega
        · by_cases hji : j = i
          · subst hji; exact d1
          · exact hc j (by omega) h2
        all_goals simp -implicitDefEqProofs only [go_sem, r0, r1, r7, r8, w1]
      · simp -implicitDefEqProofs only [go_sem, r0, r1, r7, r8]
        exact .same (.refl _) ⟨by rw [ixD_at hlt2 d1 fun j hj => hc j hj (by omega)]; rfl, rfl⟩
    · have hge : i = xs.length := by have := of_decide_eq_false e; omega
      simp -implicitDefEqProofs only [go_sem, r0, r1, r7, r8]
      exact .same (.refl _) ⟨by rw [ixD_none fun j hj => hc j (by omega) hj]; rfl, rfl⟩
theorem ixField_ok {α : Type} (y : AV) (xs : List AV) (ds : List α) (q : α → Bool) (g : FuncId) (cap : List AV) (h : Heap) (hb : Rd h 4 y xs) (hn : xs.length = ds.length) (hl : xs.length ≤ 1000000000) (hx : ∀ x ∈ xs, isAggA x = true)
    (hp : ∀ i (h1 : i < xs.length) (h2 : i < ds.length), FnOK Tryz.prog g (xs[i] :: cap) h fun r h' => r = .v (.bool (q ds[i])) ∧ h' = h) :
    FnOK Tryz.prog 71 [y, .fn g cap] h fun r h' => r = .v (.int .i64 (ixD q ds)) ∧ h' = h := by
  refine FnOK.body hU hm Tryz.func71 rfl (by kernel_rfl) 19 rfl [.tmp 4] rfl (Nat.le_of_ble_eq_true rfl) (fun hwf => ?_)
  simp -implicitDefEqProofs only [go_sem, hb.len]
  refine .intro (fun m ρ h' => h' = h ∧ ∃ i : Nat, i ≤ xs.length ∧ m = xs.length - i ∧ (∀ j (hj : j < i) (h2 : j < ds.length), q ds[j] = false) ∧ lk ρ 0 = some y ∧ lk ρ 1 = some (.fn g cap) ∧ lk ρ 7 = some (.v (.int .i64 xs.length)) ∧ lk ρ 8 = some (.v (.int .i64 i))) xs.length ?_ ?_
  · refine ⟨rfl, 0, by omega, rfl, fun j hj => (by omega), ?_, ?_, ?_, ?_⟩ <;> simp -implicitDefEqProofs only [go_sem]
  · rintro m ρ h' ⟨rfl, i, hi, rfl, hc, r0, r1, r7, r8⟩
    simp -implicitDefEqProofs only [go_sem, r0, r1, r7, r8]
    refine .intro (fun e => ?_) (fun e => ?_)
    · have hlt : i < xs.length := Int.ofNat_lt.1 (of_decide_eq_true e)
      have hlt2 : i < ds.length := by omega
      have w1 : IntKind.i64.wrap ((i : Int) + 1) = ((i + 1 : Nat) : Int) := by rw [wr64 _ (by omega)]; omega
      simp -implicitDefEqProofs only [go_sem, r0, r1, r7, r8]
      refine hb.idx (e := 84) i rfl hlt (by simp only [go_sem]) (by decide) fun p hp1 => ?_
      have hld := hp1.all (U := U) (ty := 84) (by simp only [go_sem]) (by simp only [go_sem]; exact hb.1 _ (List.getElem_mem hlt)) (by simp only [go_sem]; rw [hx _ (List.getElem_mem hlt)])
      simp -implicitDefEqProofs only [go_sem, r0, r1, r7, r8, hld]
      refine (show FnOK Tryz.prog g (xs[i] :: cap) _ _ from hp i hlt hlt2).pthen ?_
      cases d1 : q ds[i]
      · simp -implicitDefEqProofs only [go_sem, r0, r1, r7, r8, w1]
        refine ⟨_, ?_, rfl, i + 1, by omega, rfl, fun j hj h2 => ?_, ?_, ?_, ?_, ?_⟩
        · omega
        · by_cases hji : j = i
          · subst hji; exact d1
          · exact hc j (by omega) h2
        all_goals simp -implicitDefEqProofs only [go_sem, r0, r1, r7, r8, w1]
      · simp -implicitDefEqProofs only [go_sem, r0, r1, r7, r8]
        exact .same (.refl _) ⟨by rw [ixD_at hlt2 d1 fun j hj => hc j hj (by omega)]; rfl, rfl⟩
    · have hge : i = xs.length := by have := of_decide_eq_false e; omega
      simp -implicitDefEqProofs only [go_sem, r0, r1, r7, r8]
      exact .same (.refl _) ⟨by rw [ixD_none fun j hj => hc j (by omega) hj]; rfl, rfl⟩
def RdC (h : Heap) (x : AV) (c : CaseD) : Prop := ∃ f l, x = .agg [.s c.id, .s c.owner, .s c.state, f, l] ∧ Rd h 4 f (c.fields.map fieldA) ∧ Rd h 3 l (c.log.map hapA)
def RdCs (h : Heap) (y : AV) (cs : List CaseD) : Prop := ∃ xs, Rd h 5 y xs ∧ xs.length = cs.length ∧ ∀ i (h1 : i < xs.length) (h2 : i < cs.length), RdC h xs[i] cs[i]
def RdS (h : Heap) (x : AV) (s : StoreD) : Prop := ∃ y1 y2 y3 y4, x = .agg ([.v (.int .i64 s.tick), y1, y2, y3, y4] ++ polC s.policy ++ [.v (.int .i64 s.version)]) ∧ RdCs h y1 s.cases ∧ Rd h 7 y2 (s.reviews.map revA) ∧ Rd h 3 y3 (s.notices.map notA) ∧ Rd h 2 y4 (s.roles.map roleA)
theorem RdC.sub {h h' : Heap} {x : AV} {c : CaseD} (hb : RdC h x c) (hs : Ab.Sub h h') : RdC h' x c := by
  obtain ⟨f, l, e, h1, h2⟩ := hb
  exact ⟨f, l, e, h1.sub hs, h2.sub hs⟩
theorem RdCs.sub {h h' : Heap} {y : AV} {cs : List CaseD} (hb : RdCs h y cs) (hs : Ab.Sub h h') : RdCs h' y cs := by
  obtain ⟨xs, h1, h2, h3⟩ := hb
  exact ⟨xs, h1.sub hs, h2, fun i a b => (h3 i a b).sub hs⟩
theorem RdS.sub {h h' : Heap} {x : AV} {s : StoreD} (hb : RdS h x s) (hs : Ab.Sub h h') : RdS h' x s := by
  obtain ⟨y1, y2, y3, y4, e, h1, h2, h3, h4⟩ := hb
  exact ⟨y1, y2, y3, y4, e, h1.sub hs, h2.sub hs, h3.sub hs, h4.sub hs⟩
theorem sized_map {α : Type} {f : α → AV} {n : Nat} (hf : ∀ a, (f a).cells.length = n) (l : List α) : Sized n (l.map f) := fun z hz => by
  obtain ⟨a, _, rfl⟩ := List.mem_map.1 hz
  exact hf a
theorem agg_map {α : Type} {f : α → AV} (hf : ∀ a, isAggA (f a) = true) (l : List α) : ∀ x ∈ l.map f, isAggA x = true := fun z hz => by
  obtain ⟨a, _, rfl⟩ := List.mem_map.1 hz
  exact hf a
theorem rd_map {α : Type} (f : α → AV) (n : Nat) (hf : ∀ a, (f a).cells.length = n) (h : Heap) (l : List α) : Rd h n (.sl (l.map f) .no) (l.map f) := .sl (sized_map hf l) _
theorem rdC (h : Heap) (c : CaseD) : RdC h (caseA c) c := ⟨_, _, rfl, rd_map fieldA 4 (fun _ => rfl) h _, rd_map hapA 3 (fun _ => rfl) h _⟩
theorem rdCs (h : Heap) (cs : List CaseD) : RdCs h (casesA cs) cs := ⟨_, rd_map caseA 5 (fun _ => rfl) h cs, by simp, fun i h1 h2 => by rw [List.getElem_map]; exact rdC h _⟩
theorem rdS (h : Heap) (s : StoreD) : RdS h (storeA s) s := ⟨_, _, _, _, rfl, rdCs h _, rd_map revA 7 (fun _ => rfl) h _, rd_map notA 3 (fun _ => rfl) h _, rd_map roleA 2 (fun _ => rfl) h _⟩
theorem RdC.agg {h : Heap} {x : AV} {c : CaseD} (hb : RdC h x c) : isAggA x = true := by
  obtain ⟨f, l, rfl, _⟩ := hb
  rfl
theorem RdCs.agg {h : Heap} {xs : List AV} {cs : List CaseD} (hn : xs.length = cs.length) (hb : ∀ i (h1 : i < xs.length) (h2 : i < cs.length), RdC h xs[i] cs[i]) : ∀ x ∈ xs, isAggA x = true := fun x hx => by
  obtain ⟨i, hi, rfl⟩ := List.mem_iff_getElem.1 hx
  exact (hb i hi (by omega)).agg
theorem uCase : (U 63).sz = 5 := by simp only [go_sem]
theorem uField : (U 84).sz = 4 := by simp only [go_sem]
theorem uStr : (U 9).sz ≠ 0 := by simp only [go_sem]
theorem uStr1 : (U 9).sz = 1 := by simp only [go_sem]
theorem find1_ok {h : Heap} {x : AV} {c : CaseD} (hb : RdC h x c) {k : Nat} {id : Txt} (hk : h k = some (.obj [.s id] 9)) : FnOK Tryz.prog 92 [x, .ptr k 0] h fun r h' => r = .v (.bool (geB c.id id)) ∧ h' = h := by
  obtain ⟨f, l, rfl, hf, hl⟩ := hb
  refine FnOK.body hU hm Tryz.func92 rfl (by kernel_rfl) 8 rfl [.tmp 3] rfl (Nat.le_of_ble_eq_true rfl) (fun hwf => ?_)
  simp -implicitDefEqProofs only [go_sem]
  intro i1 h1
  have n1 : k ≠ i1 := fun e => by subst e; rw [hk] at h1; cases h1
  simp -implicitDefEqProofs only [go_sem, upd_ne, n1, n1.symm, hk]
  exact .mk _ (.refl _) (.upd_new h1) ⟨rfl, rfl⟩
structure Few (s : StoreD) : Prop where
  cases : s.cases.length ≤ 1000000
  fields : ∀ c ∈ s.cases, c.fields.length ≤ 1000000
  log : ∀ c ∈ s.cases, c.log.length ≤ 1000000
  reviews : s.reviews.length ≤ 1000000
  notices : s.notices.length ≤ 1000000
  roles : s.roles.length ≤ 1000000
theorem thereD_lt {cs : List CaseD} {id : Txt} (h : thereD cs id = true) : findD cs id < cs.length := by
  unfold thereD at h
  split at h
  · rename_i c hc
    exact (List.getElem?_eq_some_iff.1 hc).1
  · cases h
theorem thereD_eq {cs : List CaseD} {id : Txt} (h : findD cs id < cs.length) : thereD cs id = (cs[findD cs id].id == id) := by
  unfold thereD
  rw [List.getElem?_eq_getElem h]
theorem thereD_no {cs : List CaseD} {id : Txt} (h : ¬ findD cs id < cs.length) : thereD cs id = false := by
  unfold thereD
  rw [List.getElem?_eq_none (by omega)]
theorem find_ok {h : Heap} {x : AV} {s : StoreD} (hb : RdS h x s) (id : Txt) (hl : s.cases.length ≤ 1000000) : FnOK Tryz.prog 46 [x, .s id] h fun r h' => r = .tup [.v (.int .i64 (findD s.cases id : Nat)), .v (.bool (thereD s.cases id))] ∧ h' = h := by
  obtain ⟨y1, y2, y3, y4, rfl, ⟨xs, hc, hn, hcs⟩, h2, h3, h4⟩ := hb
  cases hp : s.policy with
  | mk pid pset palg ptgt prules pkids pobls =>
  refine FnOK.body hU hm Tryz.func46 rfl (by kernel_rfl) 25 rfl [.tmp 4, .tmp 5] rfl (Nat.le_of_ble_eq_true rfl) (fun hwf => ?_)
  simp -implicitDefEqProofs only [go_sem, polC, List.cons_append, List.nil_append]
  intro i1 h1
  simp -implicitDefEqProofs only [go_sem]
  intro i2 h2
  have n21 := ne_upd h2
  have n2 := upd_none h2
  have hs : ∀ a b, Ab.Sub h (upd (upd h i1 a) i2 b) := fun a b => ((Sub.refl h).put h1 a).put n2 b
  simp -implicitDefEqProofs only [go_sem, upd_ne, n21, n21.symm]
  refine (ixCase_ok y1 xs s.cases (fun c => geB c.id id) _ [.ptr i2 0] _ (hc.sub (hs _ _)) hn (by omega) (RdCs.agg hn hcs) fun i a b => find1_ok ((hcs i a b).sub (hs _ _)) (upd_same ..)).pthen ?_
  by_cases hf : findD s.cases id < s.cases.length
  · have e1 : ixD (fun c => geB c.id id) s.cases = (findD s.cases id : Nat) := by rw [ixD]; exact if_pos hf
    have d1 : decide (((findD s.cases id : Nat) : Int) < 0) = false := decide_eq_false (by omega)
    rw [e1]
    simp -implicitDefEqProofs only [go_sem, upd_ne, n21, n21.symm, d1]
    refine ⟨.of (by kernel_rfl), ?_⟩
    obtain ⟨f, l, ex, hfl, hlg⟩ := hcs (findD s.cases id) (by omega) hf
    refine hc.idx (e := 63) (findD s.cases id) rfl (by omega) uCase (by decide) fun p hp1 => ?_
    simp -implicitDefEqProofs only [go_sem, upd_ne, n21, n21.symm]
    refine hp1.field (f := 0) (off := 0) (t := 9) rfl uStr fun p2 hp2 => ?_
    have hld := fun a b => (hp2.sub (hs a b)).part (U := U) (ty := 9) uStr (by rw [ex, uStr1]; exact Nat.le_of_ble_eq_true rfl)
    simp -implicitDefEqProofs only [go_sem, hld, ex, upd_ne, n21, n21.symm]
    exact .mk _ (.refl _) (hs _ _) ⟨by rw [thereD_eq hf]; rfl, rfl⟩
  · have e1 : ixD (fun c => geB c.id id) s.cases = -1 := by rw [ixD]; exact if_neg hf
    have e2 : findD s.cases id = s.cases.length := by
      have : findD s.cases id ≤ s.cases.length := List.findIdx_le_length
      omega
    have d1 : decide ((-1 : Int) < 0) = true := rfl
    rw [e1]
    simp -implicitDefEqProofs only [go_sem, upd_ne, n21, n21.symm, d1]
    simp -implicitDefEqProofs only [go_sem, hc.len]
    exact .mk _ (.refl _) (hs _ _) ⟨by rw [thereD_no hf, e2, hn]; rfl, rfl⟩
end Go.Proofs.YtnhelgnmadbpgaaGreatDoor

set_option linter.unusedSimpArgs false
set_option linter.unusedVariables false
namespace Go.Proofs.YtnhelgnmadbpgaaGreatDoor
open Go Go.Ab Go.Bf
theorem uRole : (U 75).sz = 2 := by simp only [go_sem]
theorem ixRole_ok (y : AV) (ds : List RoleD) (r : RoleD) (h : Heap) (hb : Rd h 2 y (ds.map roleA)) (hl : ds.length ≤ 1000000000) :
    FnOK Tryz.prog 109 [y, roleA r] h fun x h' => x = .v (.int .i64 (ixD (eqRole r) ds)) ∧ h' = h := by
  refine FnOK.body hU hm Tryz.func109 rfl (by kernel_rfl) 19 rfl [.tmp 4] rfl (Nat.le_of_ble_eq_true rfl) (fun hwf => ?_)
  simp -implicitDefEqProofs only [go_sem, roleA]
  intro i1 h1
  have hs : ∀ a, Ab.Sub h (upd h i1 a) := fun a => (Sub.refl h).put h1 a
  simp -implicitDefEqProofs only [go_sem, hb.len, List.length_map]
  refine .intro (fun m ρ h' => h' = upd h i1 (some (.obj [.s r.subj, .s r.role] 75)) ∧ ∃ i : Nat, i ≤ ds.length ∧ m = ds.length - i ∧ (∀ j (hj : j < i) (h2 : j < ds.length), eqRole r ds[j] = false) ∧ lk ρ 0 = some y ∧ lk ρ 3 = some (.ptr i1 0) ∧ lk ρ 7 = some (.v (.int .i64 ds.length)) ∧ lk ρ 8 = some (.v (.int .i64 i))) ds.length ?_ ?_
  · refine ⟨rfl, 0, by omega, rfl, fun j hj => (by omega), ?_, ?_, ?_, ?_⟩ <;> simp -implicitDefEqProofs only [go_sem]
  · rintro m ρ h' ⟨rfl, i, hi, rfl, hc, r0, r3, r7, r8⟩
    simp -implicitDefEqProofs only [go_sem, r0, r3, r7, r8]
    refine .intro (fun e => ?_) (fun e => ?_)
    · have hlt : i < ds.length := Int.ofNat_lt.1 (of_decide_eq_true e)
      have w1 : IntKind.i64.wrap ((i : Int) + 1) = ((i + 1 : Nat) : Int) := by rw [wr64 _ (by omega)]; omega
      simp -implicitDefEqProofs only [go_sem, r0, r3, r7, r8]
      refine ⟨.of (by kernel_rfl), ?_⟩
      refine hb.idx (e := 75) i rfl (by simpa using hlt) uRole (by decide) fun p hp1 => ?_
      have hld := fun a => (hp1.sub (hs a)).all (U := U) (ty := 75) (by simp only [go_sem]) (by rw [uRole, List.getElem_map]; rfl) (by simp only [go_sem]; rw [List.getElem_map]; rfl)
      cases d1 : eqRole r ds[i]
      · have d2 := d1
        simp only [eqRole] at d2
        simp -implicitDefEqProofs only [go_sem, r0, r3, r7, r8, hld, List.getElem_map, roleA, d2, w1]
        refine ⟨_, ?_, rfl, i + 1, by omega, rfl, fun j hj h2 => ?_, ?_, ?_, ?_, ?_⟩
        · omega
        · by_cases hji : j = i
          · subst hji; exact d1
          · exact hc j (by omega) h2
        all_goals simp -implicitDefEqProofs only [go_sem, r0, r3, r7, r8, w1]
      · have d2 := d1
        simp only [eqRole] at d2
        simp -implicitDefEqProofs only [go_sem, r0, r3, r7, r8, hld, List.getElem_map, roleA, d2]
        exact .mk _ (.refl _) (hs _) ⟨by rw [ixD_at hlt d1 fun j hj => hc j hj (by omega)]; rfl, rfl⟩
    · have hge : i = ds.length := by have := of_decide_eq_false e; omega
      simp -implicitDefEqProofs only [go_sem, r0, r3, r7, r8]
      exact .mk _ (.refl _) (hs _) ⟨by rw [ixD_none fun j hj => hc j (by omega) hj]; rfl, rfl⟩
theorem hasRole_ok (y : AV) (ds : List RoleD) (r : RoleD) (h : Heap) (hb : Rd h 2 y (ds.map roleA)) (hl : ds.length ≤ 1000000000) :
    FnOK Tryz.prog 73 [y, roleA r] h fun x h' => x = .v (.bool (hasD ds r)) ∧ h' = h := by
  have hq := fun H (hH : Ab.Sub h H) => ixRole_ok y ds r H (hb.sub hH) hl
  simp only [roleA] at hq
  refine FnOK.body hU hm Tryz.func73 rfl (by kernel_rfl) 9 rfl [.tmp 4] rfl (Nat.le_of_ble_eq_true rfl) (fun hwf => ?_)
  simp -implicitDefEqProofs only [go_sem, roleA]
  intro i1 h1
  simp -implicitDefEqProofs only [go_sem]
  refine (hq _ (.upd_new h1)).pthen ?_
  simp -implicitDefEqProofs only [go_sem]
  refine .mk _ (.refl _) (.upd_new h1) ⟨?_, rfl⟩
  simp only [oneOr]
  congr 2
  unfold hasD ixD
  split
  · rename_i hlt
    rw [decide_eq_true (by omega)]
    exact (List.any_eq_true.2 ⟨_, List.getElem_mem hlt, List.findIdx_getElem (w := hlt)⟩).symm
  · rename_i hge
    rw [decide_eq_false (by omega)]
    refine (List.any_eq_false.2 fun x hx => ?_).symm
    have e : ds.findIdx (eqRole r) = ds.length := by
      have : ds.findIdx (eqRole r) ≤ ds.length := List.findIdx_le_length
      omega
    have := List.findIdx_eq_length.1 e x hx
    rw [this]; simp
theorem has_ok {h : Heap} {x : AV} {s : StoreD} (hb : RdS h x s) (subj role : Txt) (hl : s.roles.length ≤ 1000000000) : FnOK Tryz.prog 31 [x, .s subj, .s role] h fun r h' => r = .v (.bool (hasD s.roles ⟨subj, role⟩)) ∧ h' = h := by
  obtain ⟨y1, y2, y3, y4, rfl, hc, h2, h3, h4⟩ := hb
  have hq := fun H (hH : Ab.Sub h H) => hasRole_ok y4 s.roles ⟨subj, role⟩ H (h4.sub hH) hl
  simp only [roleA] at hq
  cases hp : s.policy with
  | mk pid pset palg ptgt prules pkids pobls =>
  refine FnOK.body hU hm Tryz.func31 rfl (by kernel_rfl) 13 rfl [.tmp 6] rfl (Nat.le_of_ble_eq_true rfl) (fun hwf => ?_)
  simp -implicitDefEqProofs only [go_sem, polC, List.cons_append, List.nil_append]
  intro i1 h1
  simp -implicitDefEqProofs only [go_sem]
  refine (hq _ (.upd_new h1)).pthen ?_
  simp -implicitDefEqProofs only [go_sem]
  exact .mk _ (.refl _) (.upd_new h1) ⟨rfl, rfl⟩
theorem field1_ok {h : Heap} (f : FieldD) {k : Nat} {name : Txt} (hk : h k = some (.obj [.s name] 9)) : FnOK Tryz.prog 72 [fieldA f, .ptr k 0] h fun r h' => r = .v (.bool (f.name == name)) ∧ h' = h := by
  refine FnOK.body hU hm Tryz.func72 rfl (by kernel_rfl) 8 rfl [.tmp 3] rfl (Nat.le_of_ble_eq_true rfl) (fun hwf => ?_)
  simp -implicitDefEqProofs only [go_sem, fieldA]
  intro i1 h1
  have n1 : k ≠ i1 := fun e => by subst e; rw [hk] at h1; cases h1
  simp -implicitDefEqProofs only [go_sem, upd_ne, n1, n1.symm, hk]
  exact .mk _ (.refl _) (.upd_new h1) ⟨rfl, rfl⟩
theorem fieldD_at {fs : List FieldD} {name : Txt} (h : fs.findIdx (fun f => f.name == name) < fs.length) : fieldD fs name = fs[fs.findIdx fun f => f.name == name].val := by
  unfold fieldD
  rw [show fs.find? (fun f => f.name == name) = some fs[fs.findIdx fun f => f.name == name] from List.find?_eq_some_iff_getElem.2 ⟨List.findIdx_getElem (w := h), _, h, rfl, fun j hj => by simpa using List.not_of_lt_findIdx hj⟩]
theorem fieldD_no {fs : List FieldD} {name : Txt} (h : ¬ fs.findIdx (fun f => f.name == name) < fs.length) : fieldD fs name = zeroVal := by
  unfold fieldD
  have e : fs.findIdx (fun f => f.name == name) = fs.length := by
    have : fs.findIdx (fun f => f.name == name) ≤ fs.length := List.findIdx_le_length
    omega
  rw [List.find?_eq_none.2 fun x hx => by simpa using List.findIdx_eq_length.1 e x hx]
theorem field_ok {h : Heap} {x : AV} {c : CaseD} (hb : RdC h x c) (name : Txt) (hl : c.fields.length ≤ 1000000000) : FnOK Tryz.prog 29 [x, .s name] h fun r h' => r = valA (fieldD c.fields name) ∧ h' = h := by
  obtain ⟨f, l, rfl, hf, hlg⟩ := hb
  refine FnOK.body hU hm Tryz.func29 rfl (by kernel_rfl) 19 rfl [.cell 4 38] rfl (Nat.le_of_ble_eq_true rfl) (fun hwf => ?_)
  simp -implicitDefEqProofs only [go_sem]
  intro i1 h1
  simp -implicitDefEqProofs only [go_sem]
  intro i2 h2
  have n21 := ne_upd h2
  have n2 := upd_none h2
  simp -implicitDefEqProofs only [go_sem, upd_ne, n21, n21.symm]
  intro i3 h3
  have n32 := ne_upd h3
  have h3' := upd_none h3
  have n31 := ne_upd h3'
  have n3 := upd_none h3'
  have hs : ∀ a b d, Ab.Sub h (upd (upd (upd h i1 a) i2 b) i3 d) := fun a b d => (((Sub.refl h).put h1 a).put n2 b).put n3 d
  simp -implicitDefEqProofs only [go_sem, upd_ne, n21, n21.symm, n31, n31.symm, n32, n32.symm]
  refine (ixField_ok f _ c.fields (fun f => f.name == name) _ [.ptr i2 0] _ (hf.sub (hs _ _ _)) (by simp) (by simpa using hl) (agg_map (fun _ => rfl) _) fun i a b => by
    rw [List.getElem_map]; exact field1_ok _ (by simp only [upd_ne, n32.symm, upd_same', not_false_eq_true])).pthen ?_
  by_cases hx : c.fields.findIdx (fun f => f.name == name) < c.fields.length
  · have e1 : ixD (fun f => f.name == name) c.fields = (c.fields.findIdx (fun f => f.name == name) : Nat) := by rw [ixD]; exact if_pos hx
    have d1 : decide ((0 : Int) ≤ ((c.fields.findIdx (fun f => f.name == name) : Nat) : Int)) = true := decide_eq_true (by omega)
    rw [e1]
    simp -implicitDefEqProofs only [go_sem, upd_ne, n21, n21.symm, n31, n31.symm, n32, n32.symm, d1]
    refine hf.idx (e := 84) (c.fields.findIdx fun f => f.name == name) rfl (by simpa using hx) uField (by decide) fun p hp1 => ?_
    simp -implicitDefEqProofs only [go_sem, upd_ne, n21, n21.symm, n31, n31.symm, n32, n32.symm]
    refine hp1.field (f := 1) (off := 1) (t := 38) rfl (by simp only [go_sem]) fun p2 hp2 => ?_
    have hld := fun a b d => (hp2.sub (hs a b d)).part (U := U) (ty := 38) (by simp only [go_sem]) (by rw [List.getElem_map, show (U 38).sz = 3 by simp only [go_sem]]; exact Nat.le_of_ble_eq_true rfl)
    simp -implicitDefEqProofs only [go_sem, hld, List.getElem_map, fieldA, upd_ne, n21, n21.symm, n31, n31.symm, n32, n32.symm]
    exact .mk _ (.refl _) (by repeat' first | exact .refl _ | (refine Sub.put ?_ (by assumption) _)) ⟨by rw [fieldD_at hx]; rfl, rfl⟩
  · have e1 : ixD (fun f => f.name == name) c.fields = -1 := by rw [ixD]; exact if_neg hx
    have d1 : decide ((0 : Int) ≤ -1) = false := rfl
    rw [e1]
    simp -implicitDefEqProofs only [go_sem, upd_ne, n21, n21.symm, n31, n31.symm, n32, n32.symm, d1]
    exact .mk _ (.refl _) (by repeat' first | exact .refl _ | (refine Sub.put ?_ (by assumption) _)) ⟨by rw [fieldD_no hx]; rfl, rfl⟩
end Go.Proofs.YtnhelgnmadbpgaaGreatDoor

set_option linter.unusedSimpArgs false
set_option linter.unusedVariables false
namespace Go.Ab
open Go
mutual
def pureB : AV → Bool
  | .v _ => true
  | .s _ => true
  | .agg xs => pureL xs
  | .tup xs => pureL xs
  | .sl xs (.own _) => false
  | .sl xs _ => pureL xs
  | .pe x _ => pureB x
  | .ifc _ x => pureB x
  | _ => false
def pureL : List AV → Bool
  | [] => true
  | x :: r => pureB x && pureL r
end
mutual
theorem pureB_av {F : Nat → Prop} : ∀ x : AV, pureB x = true → Av F x
  | .v x, _ => .v x
  | .s l, _ => .s l
  | .agg xs, h => .agg xs (pureL_av xs (by simpa [pureB] using h))
  | .tup xs, h => .tup xs (pureL_av xs (by simpa [pureB] using h))
  | .sl xs .no, h => .sl xs .no (pureL_av xs (by simpa [pureB] using h)) fun _ e => by cases e
  | .sl xs .full, h => .sl xs .full (pureL_av xs (by simpa [pureB] using h)) fun _ e => by cases e
  | .sl xs (.own _), h => by simp [pureB] at h
  | .pe x o, h => .pe x o (pureB_av x (by simpa [pureB] using h))
  | .ptr i o, h => by simp [pureB] at h
  | .oa i o l, h => by simp [pureB] at h
  | .ifc t x, h => .ifc t x (pureB_av x (by simpa [pureB] using h))
  | .fn f c, h => by simp [pureB] at h
  | .mp i, h => by simp [pureB] at h
  | .ob i o l c z, h => by simp [pureB] at h
theorem pureL_av {F : Nat → Prop} : ∀ xs : List AV, pureL xs = true → ∀ x ∈ xs, Av F x
  | [], _, x, hx => by cases hx
  | y :: r, h, x, hx => by
    simp only [pureL, Bool.and_eq_true] at h
    rcases List.mem_cons.1 hx with e | e
    · rw [e]; exact pureB_av y h.1
    · exact pureL_av r h.2 x e
end
theorem pureL_map {α : Type} {f : α → AV} (hf : ∀ a, pureB (f a) = true) : ∀ l : List α, pureL (l.map f) = true
  | [] => rfl
  | a :: r => by simp [pureL, hf a, pureL_map hf r]
theorem pureL_mem {xs : List AV} (h : pureL xs = true) : ∀ x ∈ xs, pureB x = true := by
  induction xs with
  | nil => intro x hx; cases hx
  | cons y r ih =>
    simp only [pureL, Bool.and_eq_true] at h
    intro x hx
    rcases List.mem_cons.1 hx with e | e
    · rw [e]; exact h.1
    · exact ih h.2 x e
theorem pureB_cells {x : AV} (h : pureB x = true) : ∀ c ∈ x.cells, pureB c = true := by
  cases x with
  | agg cs => exact pureL_mem (show pureL cs = true by simpa [pureB] using h)
  | _ => intro c hc; rw [List.mem_singleton.1 hc]; exact h
theorem Frz.pure {g h : Heap} {x : AV} (hx : pureB x = true) : Frz g h x x := .keep x (pureB_av x hx)
theorem Ow.frz {g h : Heap} {tb : TypeId} {sz id : Nat} {y : AV} {xs ys : List AV} (hw : Ow tb h sz id y xs) (hg : g id = Option.none) (hn : xs.length = ys.length) (hz : ∀ i (h1 : i < xs.length) (h2 : i < ys.length), xs[i].cells.length = ys[i].cells.length)
    (hr : ∀ i (h1 : i < xs.length) (h2 : i < ys.length) j (h3 : j < xs[i].cells.length) (h4 : j < ys[i].cells.length), Frz g h xs[i].cells[j] ys[i].cells[j]) : Frz g h y (.sl ys .no) := by
  obtain ⟨cap, rest, rfl, h1, h2, h3, h4⟩ := hw
  have hl := flatA_length h4
  refine .ob id 0 _ cap sz _ tb ys hg h1 (by rw [List.length_append]; omega) hn.symm (fun i hi => by rw [← hz i (by omega) hi]; exact h4 _ (List.getElem_mem _)) fun i hi j hj hb => ?_
  have hj' : j < sz := by rw [← h4 xs[i] (List.getElem_mem _), hz i (by omega) hi]; exact hj
  have hbd : i * sz + j < xs.length * sz := by
    have : (i + 1) * sz ≤ xs.length * sz := Nat.mul_le_mul_right _ (by omega)
    rw [Nat.add_mul, Nat.one_mul] at this
    omega
  have hjx : j < xs[i].cells.length := by rw [hz i (by omega) hi]; exact hj
  have e : (flatA xs ++ rest)[0 + (i * sz + j)]? = some (xs[i].cells[j]) := by
    rw [Nat.zero_add, List.getElem?_append_left (by omega), flatA_get h4 (by omega) hj', List.getElem?_eq_getElem hjx]
  rw [List.getElem?_eq_getElem hb, Option.some.injEq] at e
  rw [e]
  exact hr i (by omega) hi j hjx hj
theorem OwE.frz {g h : Heap} {tb : TypeId} {sz : Nat} {y : AV} {xs : List AV} (hw : OwE tb g h sz y xs) (hp : pureL xs = true) : Frz g h y (.sl xs .no) := by
  rcases hw with ⟨rfl, rfl⟩ | ⟨id, hg, hw⟩
  · exact .sl [] [] .full rfl (fun i h1 => by cases h1) (fun i h1 => by cases h1)
  · exact hw.frz hg rfl (fun _ _ _ => rfl) fun i h1 h2 j h3 h4 => .pure (pureB_cells (pureL_mem hp _ (List.getElem_mem h1)) _ (List.getElem_mem h3))
theorem OwE.cloneF {U : TypeId → TI} {h : Heap} {sz : Nat} {tb : TypeId} {xs : List AV} {Q : AV → Heap → Prop} (hz : (U tb).sz = sz) (hf : Ab.fit (U tb).zero sz) (hb : Sized sz xs) (hk : ∀ y' h', OwE tb h h' sz y' xs → Sub h h' → Q y' h') : ApFull U h [] xs tb Q := by
  subst hz
  refine ⟨fun hn => ?_, fun hn => ?_⟩
  · subst hn
    exact hk _ _ (.inl ⟨rfl, rfl⟩) (.refl _)
  · refine .ob hf (newOb.ow hb (by simp [flatA]) (by simp) fun id y' h' hid hw ho => ?_)
    exact hk _ _ (.inr ⟨id, hid, hw⟩) fun j b hj => by rw [ho j (fun e => by subst e; rw [hid] at hj; cases hj)]; exact hj
theorem Rd.nil {h : Heap} {sz : Nat} {y : AV} {xs : List AV} {e : TypeId} {Q : AV → Heap → Prop} (hb : Rd h sz y xs) (hk : ∀ b : Bool, (xs ≠ [] → b = false) → Q (.v (.bool b)) h) : nilK h .eql y Q (.slice e) := by
  obtain ⟨_, ⟨q, rfl⟩ | ⟨id, off, cap, cs, t, rfl, _⟩⟩ := hb
  · exact hk
  · exact hk false fun _ => rfl
def nid : AV → Option Nat
  | .ob id _ _ _ _ => some id
  | _ => none
theorem OwE.nid {tb : TypeId} {h0 h : Heap} {sz : Nat} {y : AV} {xs : List AV} (hw : OwE tb h0 h sz y xs) {id : Nat} (e : Ab.nid y = some id) : h0 id = Option.none ∧ h id ≠ Option.none ∧ Ow tb h sz id y xs := by
  rcases hw with ⟨rfl, rfl⟩ | ⟨id', h1, hw⟩
  · cases e
  · obtain ⟨cap, rest, rfl, h2, h3⟩ := hw
    cases e
    exact ⟨h1, by rw [h2]; simp, cap, rest, rfl, h2, h3⟩
theorem Ow.nid {tb : TypeId} {h : Heap} {sz id : Nat} {y : AV} {xs : List AV} (hw : Ow tb h sz id y xs) : Ab.nid y = some id := by
  obtain ⟨cap, rest, rfl, h2, h3⟩ := hw
  rfl
theorem OwE.keep {tb : TypeId} {h0 h h' : Heap} {sz : Nat} {y : AV} {xs : List AV} (hw : OwE tb h0 h sz y xs) (hs : ∀ id, Ab.nid y = some id → h' id = h id) : OwE tb h0 h' sz y xs := by
  rcases hw with hw | ⟨id, h1, hw⟩
  · exact .inl hw
  · exact .inr ⟨id, h1, hw.same (hs id hw.nid)⟩
theorem OwE.less {tb : TypeId} {h0 h1 h : Heap} {sz : Nat} {y : AV} {xs : List AV} (hw : OwE tb h1 h sz y xs) (hs : Sub h0 h1) : OwE tb h0 h sz y xs := by
  rcases hw with hw | ⟨id, a, hw⟩
  · exact .inl hw
  · exact .inr ⟨id, hs.none a, hw⟩
end Go.Ab
namespace Go.Proofs.YtnhelgnmadbpgaaGreatDoor
open Go Go.Ab Go.Bf
theorem clCase_ok (y : AV) (xs : List AV) (h : Heap) (hb : Rd h 5 y xs) (hl : xs.length ≤ 1000000) : FnOK Tryz.prog 86 [y] h fun r h' => OwE 63 h h' 5 r xs ∧ Ab.Sub h h' := by
  refine FnOK.body hU hm Tryz.func86 rfl (by kernel_rfl) 8 rfl [.tmp 2] rfl (Nat.le_of_ble_eq_true rfl) (fun hwf => ?_)
  simp -implicitDefEqProofs only [go_sem]
  refine hb.nil fun b hxs => ?_
  cases b
  · simp -implicitDefEqProofs only [go_sem]
    refine hb.src (U := U) (e := 63) (by simp only [go_sem]) ⟨hb.1, by omega, OwE.cloneF (U := U) (sz := 5) (by simp only [go_sem]) (by simp only [go_sem]) hb.1 fun y' h' hw hs => ?_⟩
    simp -implicitDefEqProofs only [go_sem]
    exact .same (.refl _) ⟨hw, hs⟩
  · have hx : xs = [] := by
      by_cases hx : xs = []
      · exact hx
      · cases hxs hx
    simp -implicitDefEqProofs only [go_sem]
    exact .same (.refl _) ⟨.inl ⟨hx, rfl⟩, .refl _⟩
theorem clReview_ok (y : AV) (xs : List AV) (h : Heap) (hb : Rd h 7 y xs) (hl : xs.length ≤ 1000000) : FnOK Tryz.prog 87 [y] h fun r h' => OwE 105 h h' 7 r xs ∧ Ab.Sub h h' := by
  refine FnOK.body hU hm Tryz.func87 rfl (by kernel_rfl) 8 rfl [.tmp 2] rfl (Nat.le_of_ble_eq_true rfl) (fun hwf => ?_)
  simp -implicitDefEqProofs only [go_sem]
  refine hb.nil fun b hxs => ?_
  cases b
  · simp -implicitDefEqProofs only [go_sem]
    refine hb.src (U := U) (e := 105) (by simp only [go_sem]) ⟨hb.1, by omega, OwE.cloneF (U := U) (sz := 7) (by simp only [go_sem]) (by simp only [go_sem]) hb.1 fun y' h' hw hs => ?_⟩
    simp -implicitDefEqProofs only [go_sem]
    exact .same (.refl _) ⟨hw, hs⟩
  · have hx : xs = [] := by
      by_cases hx : xs = []
      · exact hx
      · cases hxs hx
    simp -implicitDefEqProofs only [go_sem]
    exact .same (.refl _) ⟨.inl ⟨hx, rfl⟩, .refl _⟩
theorem clNotice_ok (y : AV) (xs : List AV) (h : Heap) (hb : Rd h 3 y xs) (hl : xs.length ≤ 1000000) : FnOK Tryz.prog 88 [y] h fun r h' => OwE 114 h h' 3 r xs ∧ Ab.Sub h h' := by
  refine FnOK.body hU hm Tryz.func88 rfl (by kernel_rfl) 8 rfl [.tmp 2] rfl (Nat.le_of_ble_eq_true rfl) (fun hwf => ?_)
  simp -implicitDefEqProofs only [go_sem]
  refine hb.nil fun b hxs => ?_
  cases b
  · simp -implicitDefEqProofs only [go_sem]
    refine hb.src (U := U) (e := 114) (by simp only [go_sem]) ⟨hb.1, by omega, OwE.cloneF (U := U) (sz := 3) (by simp only [go_sem]) (by simp only [go_sem]) hb.1 fun y' h' hw hs => ?_⟩
    simp -implicitDefEqProofs only [go_sem]
    exact .same (.refl _) ⟨hw, hs⟩
  · have hx : xs = [] := by
      by_cases hx : xs = []
      · exact hx
      · cases hxs hx
    simp -implicitDefEqProofs only [go_sem]
    exact .same (.refl _) ⟨.inl ⟨hx, rfl⟩, .refl _⟩
theorem clRole_ok (y : AV) (xs : List AV) (h : Heap) (hb : Rd h 2 y xs) (hl : xs.length ≤ 1000000) : FnOK Tryz.prog 89 [y] h fun r h' => OwE 75 h h' 2 r xs ∧ Ab.Sub h h' := by
  refine FnOK.body hU hm Tryz.func89 rfl (by kernel_rfl) 8 rfl [.tmp 2] rfl (Nat.le_of_ble_eq_true rfl) (fun hwf => ?_)
  simp -implicitDefEqProofs only [go_sem]
  refine hb.nil fun b hxs => ?_
  cases b
  · simp -implicitDefEqProofs only [go_sem]
    refine hb.src (U := U) (e := 75) (by simp only [go_sem]) ⟨hb.1, by omega, OwE.cloneF (U := U) (sz := 2) (by simp only [go_sem]) (by simp only [go_sem]) hb.1 fun y' h' hw hs => ?_⟩
    simp -implicitDefEqProofs only [go_sem]
    exact .same (.refl _) ⟨hw, hs⟩
  · have hx : xs = [] := by
      by_cases hx : xs = []
      · exact hx
      · cases hxs hx
    simp -implicitDefEqProofs only [go_sem]
    exact .same (.refl _) ⟨.inl ⟨hx, rfl⟩, .refl _⟩
theorem clField_ok (y : AV) (xs : List AV) (h : Heap) (hb : Rd h 4 y xs) (hl : xs.length ≤ 1000000) : FnOK Tryz.prog 107 [y] h fun r h' => OwE 84 h h' 4 r xs ∧ Ab.Sub h h' := by
  refine FnOK.body hU hm Tryz.func107 rfl (by kernel_rfl) 8 rfl [.tmp 2] rfl (Nat.le_of_ble_eq_true rfl) (fun hwf => ?_)
  simp -implicitDefEqProofs only [go_sem]
  refine hb.nil fun b hxs => ?_
  cases b
  · simp -implicitDefEqProofs only [go_sem]
    refine hb.src (U := U) (e := 84) (by simp only [go_sem]) ⟨hb.1, by omega, OwE.cloneF (U := U) (sz := 4) (by simp only [go_sem]) (by simp only [go_sem]) hb.1 fun y' h' hw hs => ?_⟩
    simp -implicitDefEqProofs only [go_sem]
    exact .same (.refl _) ⟨hw, hs⟩
  · have hx : xs = [] := by
      by_cases hx : xs = []
      · exact hx
      · cases hxs hx
    simp -implicitDefEqProofs only [go_sem]
    exact .same (.refl _) ⟨.inl ⟨hx, rfl⟩, .refl _⟩
theorem clHappening_ok (y : AV) (xs : List AV) (h : Heap) (hb : Rd h 3 y xs) (hl : xs.length ≤ 1000000) : FnOK Tryz.prog 108 [y] h fun r h' => OwE 119 h h' 3 r xs ∧ Ab.Sub h h' := by
  refine FnOK.body hU hm Tryz.func108 rfl (by kernel_rfl) 8 rfl [.tmp 2] rfl (Nat.le_of_ble_eq_true rfl) (fun hwf => ?_)
  simp -implicitDefEqProofs only [go_sem]
  refine hb.nil fun b hxs => ?_
  cases b
  · simp -implicitDefEqProofs only [go_sem]
    refine hb.src (U := U) (e := 119) (by simp only [go_sem]) ⟨hb.1, by omega, OwE.cloneF (U := U) (sz := 3) (by simp only [go_sem]) (by simp only [go_sem]) hb.1 fun y' h' hw hs => ?_⟩
    simp -implicitDefEqProofs only [go_sem]
    exact .same (.refl _) ⟨hw, hs⟩
  · have hx : xs = [] := by
      by_cases hx : xs = []
      · exact hx
      · cases hxs hx
    simp -implicitDefEqProofs only [go_sem]
    exact .same (.refl _) ⟨.inl ⟨hx, rfl⟩, .refl _⟩
theorem clObl_ok (y : AV) (xs : List AV) (h : Heap) (hb : Rd h 3 y xs) (hl : xs.length ≤ 1000000) : FnOK Tryz.prog 124 [y] h fun r h' => OwE 166 h h' 3 r xs ∧ Ab.Sub h h' := by
  refine FnOK.body hU hm Tryz.func124 rfl (by kernel_rfl) 8 rfl [.tmp 2] rfl (Nat.le_of_ble_eq_true rfl) (fun hwf => ?_)
  simp -implicitDefEqProofs only [go_sem]
  refine hb.nil fun b hxs => ?_
  cases b
  · simp -implicitDefEqProofs only [go_sem]
    refine hb.src (U := U) (e := 166) (by simp only [go_sem]) ⟨hb.1, by omega, OwE.cloneF (U := U) (sz := 3) (by simp only [go_sem]) (by simp only [go_sem]) hb.1 fun y' h' hw hs => ?_⟩
    simp -implicitDefEqProofs only [go_sem]
    exact .same (.refl _) ⟨hw, hs⟩
  · have hx : xs = [] := by
      by_cases hx : xs = []
      · exact hx
      · cases hxs hx
    simp -implicitDefEqProofs only [go_sem]
    exact .same (.refl _) ⟨.inl ⟨hx, rfl⟩, .refl _⟩
theorem clpObl_ok (y : AV) (xs : List AV) (h : Heap) (hb : Rd h 3 y xs) (hl : xs.length ≤ 1000000) (hp : pureL xs = true) : FnOK Tryz.prog 124 [y] h fun r h' => r = .sl xs .no ∧ h' = h :=
  FnOK.freeze fun g hg _ => (clObl_ok y xs g (hb.sub hg) hl).mono fun r h' ⟨h1, h2⟩ => ⟨h2, _, h1.frz hp, rfl⟩
theorem clRule_ok (y : AV) (xs : List AV) (h : Heap) (hb : Rd h 5 y xs) (hl : xs.length ≤ 1000000) : FnOK Tryz.prog 125 [y] h fun r h' => OwE 169 h h' 5 r xs ∧ Ab.Sub h h' := by
  refine FnOK.body hU hm Tryz.func125 rfl (by kernel_rfl) 8 rfl [.tmp 2] rfl (Nat.le_of_ble_eq_true rfl) (fun hwf => ?_)
  simp -implicitDefEqProofs only [go_sem]
  refine hb.nil fun b hxs => ?_
  cases b
  · simp -implicitDefEqProofs only [go_sem]
    refine hb.src (U := U) (e := 169) (by simp only [go_sem]) ⟨hb.1, by omega, OwE.cloneF (U := U) (sz := 5) (by simp only [go_sem]) (by simp only [go_sem]) hb.1 fun y' h' hw hs => ?_⟩
    simp -implicitDefEqProofs only [go_sem]
    exact .same (.refl _) ⟨hw, hs⟩
  · have hx : xs = [] := by
      by_cases hx : xs = []
      · exact hx
      · cases hxs hx
    simp -implicitDefEqProofs only [go_sem]
    exact .same (.refl _) ⟨.inl ⟨hx, rfl⟩, .refl _⟩
theorem clPolicy_ok (y : AV) (xs : List AV) (h : Heap) (hb : Rd h 7 y xs) (hl : xs.length ≤ 1000000) : FnOK Tryz.prog 126 [y] h fun r h' => OwE 32 h h' 7 r xs ∧ Ab.Sub h h' := by
  refine FnOK.body hU hm Tryz.func126 rfl (by kernel_rfl) 8 rfl [.tmp 2] rfl (Nat.le_of_ble_eq_true rfl) (fun hwf => ?_)
  simp -implicitDefEqProofs only [go_sem]
  refine hb.nil fun b hxs => ?_
  cases b
  · simp -implicitDefEqProofs only [go_sem]
    refine hb.src (U := U) (e := 32) (by simp only [go_sem]) ⟨hb.1, by omega, OwE.cloneF (U := U) (sz := 7) (by simp only [go_sem]) (by simp only [go_sem]) hb.1 fun y' h' hw hs => ?_⟩
    simp -implicitDefEqProofs only [go_sem]
    exact .same (.refl _) ⟨hw, hs⟩
  · have hx : xs = [] := by
      by_cases hx : xs = []
      · exact hx
      · cases hxs hx
    simp -implicitDefEqProofs only [go_sem]
    exact .same (.refl _) ⟨.inl ⟨hx, rfl⟩, .refl _⟩
theorem clNode_ok (y : AV) (xs : List AV) (h : Heap) (hb : Rd h 7 y xs) (hl : xs.length ≤ 1000000) : FnOK Tryz.prog 127 [y] h fun r h' => OwE 172 h h' 7 r xs ∧ Ab.Sub h h' := by
  refine FnOK.body hU hm Tryz.func127 rfl (by kernel_rfl) 8 rfl [.tmp 2] rfl (Nat.le_of_ble_eq_true rfl) (fun hwf => ?_)
  simp -implicitDefEqProofs only [go_sem]
  refine hb.nil fun b hxs => ?_
  cases b
  · simp -implicitDefEqProofs only [go_sem]
    refine hb.src (U := U) (e := 172) (by simp only [go_sem]) ⟨hb.1, by omega, OwE.cloneF (U := U) (sz := 7) (by simp only [go_sem]) (by simp only [go_sem]) hb.1 fun y' h' hw hs => ?_⟩
    simp -implicitDefEqProofs only [go_sem]
    exact .same (.refl _) ⟨hw, hs⟩
  · have hx : xs = [] := by
      by_cases hx : xs = []
      · exact hx
      · cases hxs hx
    simp -implicitDefEqProofs only [go_sem]
    exact .same (.refl _) ⟨.inl ⟨hx, rfl⟩, .refl _⟩
theorem clpNode_ok (y : AV) (xs : List AV) (h : Heap) (hb : Rd h 7 y xs) (hl : xs.length ≤ 1000000) (hp : pureL xs = true) : FnOK Tryz.prog 127 [y] h fun r h' => r = .sl xs .no ∧ h' = h :=
  FnOK.freeze fun g hg _ => (clNode_ok y xs g (hb.sub hg) hl).mono fun r h' ⟨h1, h2⟩ => ⟨h2, _, h1.frz hp, rfl⟩
theorem clMatch_ok (y : AV) (xs : List AV) (h : Heap) (hb : Rd h 7 y xs) (hl : xs.length ≤ 1000000) : FnOK Tryz.prog 163 [y] h fun r h' => OwE 214 h h' 7 r xs ∧ Ab.Sub h h' := by
  refine FnOK.body hU hm Tryz.func163 rfl (by kernel_rfl) 8 rfl [.tmp 2] rfl (Nat.le_of_ble_eq_true rfl) (fun hwf => ?_)
  simp -implicitDefEqProofs only [go_sem]
  refine hb.nil fun b hxs => ?_
  cases b
  · simp -implicitDefEqProofs only [go_sem]
    refine hb.src (U := U) (e := 214) (by simp only [go_sem]) ⟨hb.1, by omega, OwE.cloneF (U := U) (sz := 7) (by simp only [go_sem]) (by simp only [go_sem]) hb.1 fun y' h' hw hs => ?_⟩
    simp -implicitDefEqProofs only [go_sem]
    exact .same (.refl _) ⟨hw, hs⟩
  · have hx : xs = [] := by
      by_cases hx : xs = []
      · exact hx
      · cases hxs hx
    simp -implicitDefEqProofs only [go_sem]
    exact .same (.refl _) ⟨.inl ⟨hx, rfl⟩, .refl _⟩
theorem clpMatch_ok (y : AV) (xs : List AV) (h : Heap) (hb : Rd h 7 y xs) (hl : xs.length ≤ 1000000) (hp : pureL xs = true) : FnOK Tryz.prog 163 [y] h fun r h' => r = .sl xs .no ∧ h' = h :=
  FnOK.freeze fun g hg _ => (clMatch_ok y xs g (hb.sub hg) hl).mono fun r h' ⟨h1, h2⟩ => ⟨h2, _, h1.frz hp, rfl⟩
end Go.Proofs.YtnhelgnmadbpgaaGreatDoor

set_option linter.unusedSimpArgs false
set_option linter.unusedVariables false
namespace Go.Proofs.YtnhelgnmadbpgaaGreatDoor
open Go Go.Ab Go.Bf
def CaseOw (h0 h : Heap) (x : AV) (c : CaseD) : Prop := ∃ f l, x = .agg [.s c.id, .s c.owner, .s c.state, f, l] ∧ OwE 84 h0 h 4 f (c.fields.map fieldA) ∧ OwE 119 h0 h 3 l (c.log.map hapA) ∧ ∀ i, nid f = some i → nid l ≠ some i
theorem ne_of_none {h : Heap} {i j : Nat} {b : Blk} (h1 : h i = none) (h2 : h j = some b) : i ≠ j := fun e => by subst e; rw [h2] at h1; cases h1
theorem ownCase_ok {h : Heap} {x : AV} {c : CaseD} (hb : RdC h x c) (hl : c.fields.length ≤ 1000000) (hl2 : c.log.length ≤ 1000000) : FnOK Tryz.prog 68 [x] h fun r h' => CaseOw h h' r c ∧ Ab.Sub h h' := by
  obtain ⟨f, l, rfl, hf, hlg⟩ := hb
  refine FnOK.body hU hm Tryz.func68 rfl (by kernel_rfl) 12 rfl [.cell 2 63] rfl (Nat.le_of_ble_eq_true rfl) (fun hwf => ?_)
  simp -implicitDefEqProofs only [go_sem]
  intro i1 h1
  simp -implicitDefEqProofs only [go_sem]
  intro i2 h2
  have n21 := ne_upd h2
  have n2 := upd_none h2
  simp -implicitDefEqProofs only [go_sem, upd_ne, n21, n21.symm]
  obtain ⟨H, eH⟩ : ∃ H, upd (upd h i1 (some (.obj [.s c.id, .s c.owner, .s c.state, f, l] 63))) i2 (some (.obj [.s [], .s [], .s [], .sl [] .full, .sl [] .full] 63)) = H := ⟨_, rfl⟩
  have hH : Ab.Sub h H := by rw [← eH]; exact ((Sub.refl h).put h1 _).put n2 _
  have g1 : H i1 = some (.obj [.s c.id, .s c.owner, .s c.state, f, l] 63) := by rw [← eH, upd_other _ _ n21.symm, upd_same]
  have g2 : H i2 = some (.obj [.s [], .s [], .s [], .sl [] .full, .sl [] .full] 63) := by rw [← eH, upd_same]
  rw [eH]
  refine .stage (hm1 i1 _) [0, 1, 3, 4, 2, 6, 5] [7, 8, 9] (.hm1 g1) (by kernel_rfl) ?_
  simp -implicitDefEqProofs only [go_sem, hm1_same]
  refine (clField_ok f _ H (hf.sub hH) (by simpa using hl)).mono fun f' H1 ⟨hf', s1⟩ => ?_
  refine ⟨.hm1 (s1 _ _ g1), ?_⟩
  simp -implicitDefEqProofs only [go_sem, hm1_same]
  refine (clHappening_ok l _ H1 ((hlg.sub hH).sub s1) (by simpa using hl2)).mono fun l' H2 ⟨hl', s2⟩ => ?_
  refine ⟨.hm1 (s2 _ _ (s1 _ _ g1)), noHeap, (fun _ _ e => by cases e), ?_⟩
  have g1' := s2 _ _ (s1 _ _ g1)
  have g2' := s2 _ _ (s1 _ _ g2)
  simp -implicitDefEqProofs only [go_sem, g1', hf'.rd.fit, hf'.rd.cells, hl'.rd.fit, hl'.rd.cells]
  have n1 : ∀ b, upd H2 i1 b i2 = some (.obj [.s [], .s [], .s [], .sl [] .full, .sl [] .full] 63) := fun b => by rw [upd_other _ _ n21]; exact g2'
  refine ⟨fun _ _ e => (by cases e), fun _ _ e => (by cases e), ?_⟩
  simp -implicitDefEqProofs only [go_sem, n1]
  have hid : ∀ {y : AV} {xs : List AV} {G : Heap} {tb : TypeId} {z : Nat}, Ab.Sub H G → OwE tb G H2 z y xs → ∀ a b, OwE tb h (upd (upd H2 i1 a) i2 b) z y xs := fun hG hw a b => (hw.less (hH.trans hG)).keep fun id e => by
    have h0 := hG.none (hw.nid e).1
    rw [upd_other _ _ (ne_of_none h0 g2), upd_other _ _ (ne_of_none h0 g1)]
  refine .mk _ (.refl _) (.refl _) ⟨⟨f', l', rfl, hid (.refl _) (hf'.sub s2) _ _, hid s1 hl' _ _, fun i ef el => ?_⟩, ((hH.trans (s1.trans s2)).put h1 _).put n2 _⟩
  exact (hf'.nid ef).2.1 ((hl'.nid el).1)
theorem ownCasep_ok {h : Heap} {x : AV} {c : CaseD} (hb : RdC h x c) (hl : c.fields.length ≤ 1000000) (hl2 : c.log.length ≤ 1000000) : FnOK Tryz.prog 68 [x] h fun r h' => r = caseA c ∧ h' = h :=
  FnOK.freeze fun g hg _ => (ownCase_ok (hb.sub hg) hl hl2).mono fun r h' ⟨⟨f, l, e, hf, hlg, _⟩, h2⟩ => ⟨h2, caseA c, by
    subst e
    refine .agg _ _ rfl fun i h1 h2 => ?_
    rcases i with _ | _ | _ | _ | _ | i
    · exact .pure rfl
    · exact .pure rfl
    · exact .pure rfl
    · exact hf.frz (pureL_map (fun _ => rfl) _)
    · exact hlg.frz (pureL_map (fun _ => rfl) _)
    · simp at h1; omega, rfl⟩
end Go.Proofs.YtnhelgnmadbpgaaGreatDoor

set_option linter.unusedSimpArgs false
set_option linter.unusedVariables false
namespace Go.Proofs.YtnhelgnmadbpgaaGreatDoor
open Go Go.Ab Go.Bf
theorem pure_all (l : List MatchD) : pureL (l.map matchA) = true := pureL_map (fun _ => rfl) l
theorem uAll : (U 215).sz = 1 := by simp only [go_sem]
theorem uAny : (U 211).sz = 1 := by simp only [go_sem]
theorem ownTarget_ok (t : TgtD) (ht : tgtE t = 0) (h : Heap) : FnOK Tryz.prog 123 [tgtA t] h fun r h' => r = tgtA t ∧ h' = h := by
  obtain ⟨hl, he⟩ := tgtE_zero ht
  refine FnOK.body hU hm Tryz.func123 rfl (by kernel_rfl) 33 rfl [.tmp 2] rfl (Nat.le_of_ble_eq_true rfl) (fun hwf => ?_)
  simp -implicitDefEqProofs only [go_sem, tgtA, List.length_map]
  refine .intro (fun m ρ h' => ∃ (i : Nat) (y : AV) (ys : List AV), Acc U 211 h h' y ys ∧ ys.length = i ∧ (∀ j (h1 : j < ys.length) (h2 : j < t.length), ∃ q, ys[j] = .sl (t[j].map allA) q) ∧ i ≤ t.length ∧ m = t.length - i ∧ lk ρ 3 = some y ∧ lk ρ 9 = some (.sl (t.map anyA) .no) ∧ lk ρ 10 = some (.v (.int .i64 t.length)) ∧ lk ρ 11 = some (.v (.int .i64 i))) t.length ?_ ?_
  · refine ⟨0, _, [], .full (.refl _), rfl, fun j h1 => (by cases h1), by omega, rfl, ?_, ?_, ?_, ?_⟩ <;> simp -implicitDefEqProofs only [go_sem]
  · rintro m ρ h' ⟨i, y, ys, hy, hn, hys, hi, rfl, r3, r9, r10, r11⟩
    simp -implicitDefEqProofs only [go_sem, r3, r9, r10, r11]
    refine .intro (fun e => ?_) (fun e => ?_)
    · have hlt : i < t.length := Int.ofNat_lt.1 (of_decide_eq_true e)
      have w1 : IntKind.i64.wrap ((i : Int) + 1) = ((i + 1 : Nat) : Int) := by rw [wr64 _ (by omega)]; omega
      obtain ⟨ha0, hal, hae⟩ := anyE_zero (he _ (List.getElem_mem hlt))
      simp -implicitDefEqProofs only [go_sem, r3, r9, r10, r11]
      refine .at i (by simpa using hlt) (by rw [List.getElem_map]; rfl) ?_
      simp -implicitDefEqProofs only [go_sem, r3, r9, r10, r11, List.getElem_map, anyA, List.length_map]
      refine .intro (fun m ρ H => ∃ (j : Nat) (z : AV) (zs : List AV), Acc U 215 h' H z zs ∧ zs = (t[i].take j).map allA ∧ j ≤ t[i].length ∧ m = t[i].length - j ∧ lk ρ 3 = some y ∧ lk ρ 9 = some (.sl (t.map anyA) .no) ∧ lk ρ 10 = some (.v (.int .i64 t.length)) ∧ lk ρ 11 = some (.v (.int .i64 i)) ∧ lk ρ 6 = some z ∧ lk ρ 15 = some (.sl (t[i].map allA) .no) ∧ lk ρ 16 = some (.v (.int .i64 t[i].length)) ∧ lk ρ 17 = some (.v (.int .i64 j))) t[i].length ?_ ?_
      · refine ⟨0, _, [], .full (.refl _), rfl, by omega, rfl, ?_, ?_, ?_, ?_, ?_, ?_, ?_, ?_⟩ <;> simp -implicitDefEqProofs only [go_sem, r3, r9, r10, r11]
      · rintro m ρ H ⟨j, z, zs, hz, rfl, hj, rfl, r3, r9, r10, r11, r6, r15, r16, r17⟩
        simp -implicitDefEqProofs only [go_sem, r3, r9, r10, r11, r6, r15, r16, r17]
        refine .intro (fun e => ?_) (fun e => ?_)
        · have hlt2 : j < t[i].length := Int.ofNat_lt.1 (of_decide_eq_true e)
          have w2 : IntKind.i64.wrap ((j : Int) + 1) = ((j + 1 : Nat) : Int) := by rw [wr64 _ (by omega)]; omega
          have hml := (allE_zero (hae _ (List.getElem_mem hlt2))).2.1
          simp -implicitDefEqProofs only [go_sem, r3, r9, r10, r11, r6, r15, r16, r17]
          refine .at j (by simpa using hlt2) (by rw [List.getElem_map]; rfl) ?_
          simp -implicitDefEqProofs only [go_sem, r3, r9, r10, r11, r6, r15, r16, r17, List.getElem_map, allA]
          refine (clpMatch_ok _ (t[i][j].map matchA) _ (rd_map matchA 7 (fun _ => rfl) _ _) (by simp; omega) (pure_all _)).pthen ?_
          simp -implicitDefEqProofs only [go_sem, r3, r9, r10, r11, r6, r15, r16, r17]
          refine hz.app (zs := [allA t[i][j]]) (by rw [uAll]; decide) (by simp only [go_sem, ne_eq, not_false_eq_true]) (fun k hk => hk) (by rw [uAll]; exact sized_map (f := allA) (fun _ => rfl) _) (by rw [uAll]; exact sized_map (f := allA) (fun _ => rfl) [t[i][j]]) (by simp only [go_sem, List.length_map, List.length_cons, List.length_nil, List.length_take]; omega) fun z' H' hz' _ => ?_
          simp -implicitDefEqProofs only [go_sem, r3, r9, r10, r11, r6, r15, r16, r17, w2]
          refine ⟨_, ?_, j + 1, z', _, hz', ?_, by omega, rfl, ?_, ?_, ?_, ?_, ?_, ?_, ?_, ?_⟩
          · omega
          · rw [List.take_succ_eq_append_getElem hlt2, List.map_append]; rfl
          all_goals simp -implicitDefEqProofs only [go_sem, r3, r9, r10, r11, r6, r15, r16, r17, w2]
        · have hge : j = t[i].length := by have := of_decide_eq_false e; omega
          subst hge
          rw [List.take_length] at hz
          have hyH := hy.sub hz.1
          obtain ⟨q, rfl⟩ := hz.row
          simp -implicitDefEqProofs only [go_sem, r3, r9, r10, r11, r6, r15, r16, r17]
          refine hyH.app (zs := [.sl (t[i].map allA) q]) (by rw [uAny]; decide) (by simp only [go_sem, ne_eq, not_false_eq_true]) (fun k hk => hk) (by rw [uAny]; intro w hw; obtain ⟨k, hk, rfl⟩ := List.mem_iff_getElem.1 hw; obtain ⟨q', e'⟩ := hys k hk (by omega); rw [e']; rfl) (by rw [uAny]; intro w hw; rw [List.mem_singleton.1 hw]; rfl) (by simp only [go_sem, hn, List.length_cons, List.length_nil]; omega) fun y' H' hy' _ => ?_
          simp -implicitDefEqProofs only [go_sem, r3, r9, r10, r11, r6, r15, r16, r17, w1]
          refine ⟨_, ?_, i + 1, y', _, hy', by simp [hn], fun k h1 h2 => ?_, by omega, rfl, ?_, ?_, ?_, ?_⟩
          · omega
          · by_cases hk : k < ys.length
            · rw [List.getElem_append_left hk]; exact hys k hk h2
            · have : k = i := by simp at h1; omega
              subst this
              exact ⟨q, by rw [List.getElem_append_right (by omega)]; simp [hn]⟩
          all_goals simp -implicitDefEqProofs only [go_sem, r3, r9, r10, r11, r6, r15, r16, r17, w1]
    · have hge : i = t.length := by have := of_decide_eq_false e; omega
      simp -implicitDefEqProofs only [go_sem, r3, r9, r10, r11]
      obtain ⟨q, rfl⟩ := hy.row
      refine .mk (tgtA t) ?_ hy.1 ⟨rfl, rfl⟩
      refine .deep _ _ q (by simp; omega) (fun k h1 h2 => ?_) fun k h1 h2 j h3 h4 => ?_
      · obtain ⟨q', e'⟩ := hys k h1 (by omega)
        rw [e', List.getElem_map]; rfl
      · obtain ⟨q', e'⟩ := hys k h1 (by omega)
        simp only [e', AV.cells, List.length_singleton] at h3
        obtain rfl : j = 0 := by omega
        simp only [e', List.getElem_map, anyA, AV.cells, List.getElem_singleton]
        exact .sl _ _
end Go.Proofs.YtnhelgnmadbpgaaGreatDoor

set_option linter.unusedSimpArgs false
set_option linter.unusedVariables false
namespace Go.Proofs.YtnhelgnmadbpgaaGreatDoor
open Go Go.Ab Go.Bf
theorem pure_tgt (t : TgtD) : pureB (tgtA t) = true := by
  simp only [tgtA, pureB]
  refine pureL_map (fun a => ?_) t
  simp only [anyA, pureB]
  refine pureL_map (fun b => ?_) a
  simp only [allA, pureB]
  exact pureL_map (fun _ => rfl) b
theorem pure_cond (l : List NodeD) : pureB (condA l) = true := by simp only [condA, pureB]; exact pureL_map (fun _ => rfl) l
theorem pure_obls (l : List OblD) : pureB (oblsA l) = true := by simp only [oblsA, pureB]; exact pureL_map (fun _ => rfl) l
theorem pure_rule (r : RuleD) : pureB (ruleA r) = true := by simp [ruleA, pureB, pureL, pure_tgt, pure_cond, pure_obls]
mutual
theorem pure_pol : ∀ p : PolD, pureB (polA p) = true
  | .mk id set alg tgt rules kids obls => by simp [polA, pureB, pureL, pure_tgt, pure_obls, pureL_map pure_rule rules, pure_kids kids]
theorem pure_kids : ∀ l : List PolD, pureL (kidsA l) = true
  | [] => rfl
  | k :: r => by simp [kidsA, pureL, pure_pol k, pure_kids r]
end
theorem polA_cells (p : PolD) : (polA p).cells.length = 7 := by cases p; simp [polA, AV.cells]
theorem cond_le {l : List NodeD} (h : exprE l = 0) : l.length ≤ 32 := by
  by_cases hn : l = []
  · subst hn; simp
  · exact (exprE_zero h hn).1
theorem obls_le {l : List OblD} (h : oblsE l = 0) : l.length ≤ 8 := (oblsE_zero h).1
theorem upd_id {H : Heap} {i : Nat} {x : Option Blk} (h : H i = x) : upd H i x = H := by
  funext j
  by_cases e : j = i
  · rw [e, upd_same, h]
  · rw [upd_other _ _ e]
theorem ow_ne {tb : TypeId} {h : Heap} {sz id i : Nat} {y : AV} {xs cs : List AV} {t : TypeId} (hw : Ow tb h sz id y xs) (hi : h i = some (.obj cs t)) (ht : t ≠ tb) : id ≠ i := by
  obtain ⟨cap, rest, rfl, h1, _⟩ := hw
  intro e
  rw [e, hi] at h1
  injection h1 with h1
  injection h1 with _ h1
  exact ht h1
theorem put_flat {sz : Nat} {xs : List AV} (hs : Sized sz xs) (j : Nat) (hj : j < xs.length) (o : Nat) (c : List AV) (ho : o + c.length ≤ sz) {rest : List AV} :
    (flatA xs ++ rest).take (j * sz + o) ++ c ++ (flatA xs ++ rest).drop (j * sz + o + c.length) = flatA (xs.set j (.agg (Ab.over xs[j].cells o c))) ++ rest := by
  have hl := flatA_length hs
  have hb : (j + 1) * sz ≤ xs.length * sz := Nat.mul_le_mul_right _ (by omega)
  rw [Nat.add_mul, Nat.one_mul] at hb
  have := over_app (us := flatA xs) (vs := rest) (o := j * sz + o) (c := c) (by omega)
  rw [Ab.over] at this
  rw [this, flatA_put hs j hj o c ho]
theorem set_same {α : Type} {xs : List α} {i : Nat} {x : α} (h : xs[i]? = some x) : xs.set i x = xs := by
  obtain ⟨hi, rfl⟩ := List.getElem?_eq_some_iff.1 h
  exact List.set_getElem_self hi
theorem polC_mk (id : Txt) (set : Bool) (alg : Int) (tgt : TgtD) (rules : List RuleD) (kids : List PolD) (obls : List OblD) : polA (.mk id set alg tgt rules kids obls) = .agg [.s id, .v (.bool set), .v (.int .i64 alg), tgtA tgt, .sl (rules.map ruleA) .no, .sl (kids.map polA) .no, oblsA obls] := by simp [polA, kidsA_eq]
set_option maxRecDepth 100000 in
theorem ownPolicy_ok : ∀ (p : PolD) (d : Nat), polE d p → ∀ h, FnOK Tryz.prog 90 [polA p] h fun r h' => r = polA p ∧ h' = h
  | .mk pid pset palg ptgt prules pkids pobls, d, hp, h => by
    obtain ⟨_, _, _, _, _, _, ht, ho, hr16, hk16, hre, hke⟩ := hp
    rw [kidsE_eq] at hke
    have ih : ∀ (j : Nat) (hj : j < pkids.length) (h : Heap), FnOK Tryz.prog 90 [polA pkids[j]] h fun r h' => r = polA pkids[j] ∧ h' = h := fun j hj h => ownPolicy_ok pkids[j] (d + 1) (hke _ (List.getElem_mem hj)) h
    have hob := obls_le ho
    refine FnOK.freeze fun g hg _ => ?_
    rw [polC_mk]
    refine FnOK.body hU hm Tryz.func90 rfl (by kernel_rfl) 72 rfl [.cell 2 32] rfl (Nat.le_of_ble_eq_true rfl) (fun hwf => ?_)
    simp -implicitDefEqProofs only [go_sem]
    intro i1 h1
    simp -implicitDefEqProofs only [go_sem]
    intro i2 h2
    have n21 := ne_upd h2
    have n2 := upd_none h2
    simp -implicitDefEqProofs only [go_sem, upd_ne, n21, n21.symm]
    obtain ⟨H, eH⟩ : ∃ H, upd (upd g i1 (some (.obj [.s pid, .v (.bool pset), .v (.int .i64 palg), tgtA ptgt, .sl (prules.map ruleA) .no, .sl (pkids.map polA) .no, oblsA pobls] 32))) i2 (some (.obj [.s [], .v (.bool false), .v (.int .i64 0), .sl [] .full, .sl [] .full, .sl [] .full, .sl [] .full] 32)) = H := ⟨_, rfl⟩
    have hH : Ab.Sub g H := by rw [← eH]; exact ((Sub.refl g).put h1 _).put n2 _
    have g1 : H i1 = some (.obj [.s pid, .v (.bool pset), .v (.int .i64 palg), tgtA ptgt, .sl (prules.map ruleA) .no, .sl (pkids.map polA) .no, oblsA pobls] 32) := by rw [← eH, upd_other _ _ n21.symm, upd_same]
    have g2 : H i2 = some (.obj [.s [], .v (.bool false), .v (.int .i64 0), .sl [] .full, .sl [] .full, .sl [] .full, .sl [] .full] 32) := by rw [← eH, upd_same]
    rw [eH]
    refine .stage (hm1 i1 _) [0, 1, 3, 4, 2, 6, 5] [7, 8, 9] (.hm1 g1) (by kernel_rfl) ?_
    simp -implicitDefEqProofs only [go_sem, hm1_same]
    refine (ownTarget_ok ptgt ht H).pthen ?_
    refine ⟨.hm1 g1, ?_⟩
    simp -implicitDefEqProofs only [go_sem, hm1_same]
    refine (clpObl_ok _ (pobls.map oblA) H (rd_map oblA 3 (fun _ => rfl) _ _) (by simp; omega) (pureL_map (fun _ => rfl) _)).pthen ?_
    refine ⟨.hm1 g1, noHeap, (fun _ _ e => by cases e), ?_⟩
    have cT : (tgtA ptgt).cells = [tgtA ptgt] := rfl
    simp -implicitDefEqProofs only [go_sem, g1, show fit (tgtA ptgt) 1 = (1 = 1) from rfl, cT]
    have eo : (.sl (pobls.map oblA) .no : AV) = oblsA pobls := rfl
    rw [eo]
    refine ⟨fun _ _ e => (by cases e), fun _ _ e => (by cases e), ?_⟩
    rw [upd_id g1]
    refine .stage (hm1 i1 _) [0, 1, 3, 4, 2, 6, 5] [7, 8, 9] (.hm1 g1) (by kernel_rfl) ?_
    simp -implicitDefEqProofs only [go_sem, hm1_same]
    refine (clRule_ok _ (prules.map ruleA) H (rd_map ruleA 5 (fun _ => rfl) _ _) (by simp; omega)).mono fun y4 H1 ⟨w4, s1⟩ => ?_
    refine ⟨.hm1 (s1 _ _ g1), ?_⟩
    simp -implicitDefEqProofs only [go_sem, hm1_same]
    refine (clPolicy_ok _ (pkids.map polA) H1 (rd_map polA 7 polA_cells _ _) (by simp; omega)).mono fun y5 H2 ⟨w5, s2⟩ => ?_
    have g1' := s2 _ _ (s1 _ _ g1)
    have g2' := s2 _ _ (s1 _ _ g2)
    refine ⟨.hm1 g1', noHeap, (fun _ _ e => by cases e), ?_⟩
    simp -implicitDefEqProofs only [go_sem, g1', w4.rd.fit, w4.rd.cells, w5.rd.fit, w5.rd.cells]
    refine ⟨fun _ _ e => (by cases e), fun _ _ e => (by cases e), ?_⟩
    have hn4 : ∀ id, nid y4 = some id → id ≠ i2 := fun id e => ne_of_none (w4.nid e).1 g2
    have hn5 : ∀ id, nid y5 = some id → id ≠ i2 := fun id e => ne_of_none (w5.nid e).1 (s1 _ _ g2)
    have hnd : ∀ i, nid y4 = some i → nid y5 ≠ some i := fun i e4 e5 => (w4.nid e4).2.1 (w5.nid e5).1
    have v4 : ∀ b, OwE 169 g (upd H2 i1 b) 5 y4 (prules.map ruleA) := fun b => ((w4.sub s2).less hH).keep fun id e => upd_other _ _ (ne_of_none (w4.nid e).1 g1)
    have v5 : ∀ b, OwE 32 g (upd H2 i1 b) 7 y5 (pkids.map polA) := fun b => (w5.less (hH.trans s1)).keep fun id e => upd_other _ _ (ne_of_none (s1.none (w5.nid e).1) g1)
    have vs : ∀ b, Ab.Sub g (upd H2 i1 b) := fun b => (hH.trans (s1.trans s2)).put h1 b
    have vz : ∀ b, upd H2 i1 b i2 = some (.obj [.s [], .v (.bool false), .v (.int .i64 0), .sl [] .full, .sl [] .full, .sl [] .full, .sl [] .full] 32) := fun b => by rw [upd_other _ _ n21]; exact g2'
    obtain ⟨H3, eH3⟩ : ∃ H3, upd H2 i1 (some (.obj [.s pid, .v (.bool pset), .v (.int .i64 palg), tgtA ptgt, y4, y5, oblsA pobls] 32)) = H3 := ⟨_, rfl⟩
    have q1 : H3 i1 = some (.obj [.s pid, .v (.bool pset), .v (.int .i64 palg), tgtA ptgt, y4, y5, oblsA pobls] 32) := by rw [← eH3, upd_same]
    replace v4 := v4 (some (.obj [.s pid, .v (.bool pset), .v (.int .i64 palg), tgtA ptgt, y4, y5, oblsA pobls] 32))
    replace v5 := v5 (some (.obj [.s pid, .v (.bool pset), .v (.int .i64 palg), tgtA ptgt, y4, y5, oblsA pobls] 32))
    replace vs := vs (some (.obj [.s pid, .v (.bool pset), .v (.int .i64 palg), tgtA ptgt, y4, y5, oblsA pobls] 32))
    replace vz := vz (some (.obj [.s pid, .v (.bool pset), .v (.int .i64 palg), tgtA ptgt, y4, y5, oblsA pobls] 32))
    rw [eH3] at v4 v5 vs vz
    rw [eH3]
    clear eH3
    have hi1 : ∀ id, g id = none → ∀ {K : Heap} {b : Blk}, K id = some b → K id ≠ none := fun id _ K b e => by rw [e]; simp
    simp -implicitDefEqProofs only [go_sem, q1, v4.rd.len, List.length_map]
    refine .intro (fun m ρ G => ∃ i : Nat, G i1 = some (.obj [.s pid, .v (.bool pset), .v (.int .i64 palg), tgtA ptgt, y4, y5, oblsA pobls] 32) ∧ G i2 = some (.obj [.s [], .v (.bool false), .v (.int .i64 0), .sl [] .full, .sl [] .full, .sl [] .full, .sl [] .full] 32) ∧ Ab.Sub g G ∧ OwE 169 g G 5 y4 (prules.map ruleA) ∧ OwE 32 g G 7 y5 (pkids.map polA) ∧ i ≤ prules.length ∧ m = prules.length - i ∧
      lk ρ 1 = some (.ptr i1 0) ∧ lk ρ 2 = some (.ptr i2 0) ∧ lk ρ 24 = some y4 ∧ lk ρ 25 = some (.v (.int .i64 prules.length)) ∧ lk ρ 26 = some (.v (.int .i64 i))) prules.length ?_ ?_
    · refine ⟨0, q1, vz, vs, v4, v5, by omega, rfl, ?_, ?_, ?_, ?_, ?_⟩ <;> simp -implicitDefEqProofs only [go_sem]
    · rintro m ρ G ⟨i, q1, vz, vs, v4, v5, hi, rfl, r1, r2, r24, r25, r26⟩
      simp -implicitDefEqProofs only [go_sem, r1, r2, r24, r25, r26]
      refine .intro (fun e => ?_) (fun e => ?_)
      · have hlt : i < prules.length := Int.ofNat_lt.1 (of_decide_eq_true e)
        have w1 : IntKind.i64.wrap ((i : Int) + 1) = ((i + 1 : Nat) : Int) := by rw [wr64 _ (by omega)]; omega
        obtain ⟨_, rt, rc, ro⟩ := hre _ (List.getElem_mem hlt)
        have hrc := cond_le rc
        have hro := obls_le ro
        simp -implicitDefEqProofs only [go_sem, r1, r2, r24, r25, r26]
        refine v4.rd.idx (e := 169) i rfl (by simpa using hlt) (by simp only [go_sem]) (by decide) fun p hp1 => ?_
        have hld := hp1.all (U := U) (ty := 169) (by simp only [go_sem]) (by simp only [go_sem]; rw [List.getElem_map]; rfl) (by simp only [go_sem]; rw [List.getElem_map]; rfl)
        simp -implicitDefEqProofs only [go_sem, r1, r2, r24, r25, r26, hld, List.getElem_map, ruleA]
        intro i4 h4
        have n41 : i4 ≠ i1 := ne_of_none h4 q1
        simp -implicitDefEqProofs only [go_sem, r1, r2, r24, r25, r26]
        obtain ⟨G4, eG4⟩ : ∃ G4, upd G i4 (some (.obj [.s prules[i].id, .v (.bool prules[i].deny), tgtA prules[i].tgt, condA prules[i].cond, oblsA prules[i].obls] 169)) = G4 := ⟨_, rfl⟩
        rw [eG4]
        have p1 : G4 i1 = some (.obj [.s pid, .v (.bool pset), .v (.int .i64 palg), tgtA ptgt, y4, y5, oblsA pobls] 32) := by rw [← eG4, upd_other _ _ n41.symm]; exact q1
        have p4 : G4 i4 = some (.obj [.s prules[i].id, .v (.bool prules[i].deny), tgtA prules[i].tgt, condA prules[i].cond, oblsA prules[i].obls] 169) := by rw [← eG4, upd_same]
        have sG : Ab.Sub G G4 := by rw [← eG4]; exact .upd_new h4
        refine .calls (hm2 i1 (.obj [.s pid, .v (.bool pset), .v (.int .i64 palg), tgtA ptgt, y4, y5, oblsA pobls] 32) i4 (.obj [.s prules[i].id, .v (.bool prules[i].deny), tgtA prules[i].tgt, condA prules[i].cond, oblsA prules[i].obls] 169)) [0, 1, 2, 3, 4, 5, 6, 7, 8, 9, 10, 12, 13, 15, 16, 11, 14, 17, 18, 19, 20, 21, 22, 23, 24, 25, 26] (.hm2 p1 p4) (by kernel_rfl) rfl ?_
        simp -implicitDefEqProofs only [go_sem, r1, hm2_fst _ _ n41.symm, hm2_snd]
        refine (ownTarget_ok prules[i].tgt rt G4).pthen ?_
        refine ⟨.hm2 p1 p4, ?_⟩
        simp -implicitDefEqProofs only [go_sem, r1, hm2_fst _ _ n41.symm, hm2_snd]
        refine (clpNode_ok _ (prules[i].cond.map nodeA) G4 (rd_map nodeA 7 (fun _ => rfl) _ _) (by simp; omega) (pureL_map (fun _ => rfl) _)).pthen ?_
        refine ⟨.hm2 p1 p4, ?_⟩
        simp -implicitDefEqProofs only [go_sem, r1, hm2_fst _ _ n41.symm, hm2_snd]
        refine (clpObl_ok _ (prules[i].obls.map oblA) G4 (rd_map oblA 3 (fun _ => rfl) _ _) (by simp; omega) (pureL_map (fun _ => rfl) _)).pthen ?_
        refine ⟨.hm2 p1 p4, ?_⟩
        simp -implicitDefEqProofs only [go_sem, r1, hm2_fst _ _ n41.symm, hm2_snd]
        obtain ⟨id4, hg4, o4⟩ := (v4.sub sG).ow (by intro e; rw [List.map_eq_nil_iff] at e; rw [e] at hlt; cases hlt)
        have m1 : id4 ≠ i1 := ow_ne o4 p1 (by decide)
        have m4 : id4 ≠ i4 := fun e => (v4.nid o4.nid).2.1 (by rw [e]; exact h4)
        refine o4.idx (U := U) (e := 169) i rfl (by simpa using hlt) (by simp only [go_sem]) (by decide) ?_
        simp -implicitDefEqProofs only [go_sem, r1, hm2_fst _ _ n41.symm, hm2_snd]
        have o4' := o4
        obtain ⟨cap, rest, ey, hid, hr, hc, hsz⟩ := o4'
        have hbd : i * 5 + 5 ≤ (flatA (prules.map ruleA) ++ rest).length := by
          rw [List.length_append, flatA_length hsz, List.length_map]; omega
        have e2 : List.take (i * 5 + 2) (flatA (prules.map ruleA) ++ rest) ++ (tgtA prules[i].tgt).cells ++ List.drop (i * 5 + 2 + (tgtA prules[i].tgt).cells.length) (flatA (prules.map ruleA) ++ rest) = flatA (prules.map ruleA) ++ rest := by
          refine (put_flat hsz i (by simpa using hlt) 2 ((tgtA prules[i].tgt).cells) (Nat.le_of_ble_eq_true rfl)).trans ?_
          rw [set_same]
          rw [List.getElem?_eq_getElem (by simpa using hlt), List.getElem_map]; rfl
        have e3 : List.take (i * 5 + 3) (flatA (prules.map ruleA) ++ rest) ++ [.sl (prules[i].cond.map nodeA) .no] ++ List.drop (i * 5 + 3 + 1) (flatA (prules.map ruleA) ++ rest) = flatA (prules.map ruleA) ++ rest := by
          refine (put_flat hsz i (by simpa using hlt) 3 ([.sl (prules[i].cond.map nodeA) .no]) (Nat.le_of_ble_eq_true rfl)).trans ?_
          rw [set_same]
          rw [List.getElem?_eq_getElem (by simpa using hlt), List.getElem_map]; rfl
        have e4 : List.take (i * 5 + 4) (flatA (prules.map ruleA) ++ rest) ++ [.sl (prules[i].obls.map oblA) .no] ++ List.drop (i * 5 + 4 + 1) (flatA (prules.map ruleA) ++ rest) = flatA (prules.map ruleA) ++ rest := by
          refine (put_flat hsz i (by simpa using hlt) 4 ([.sl (prules[i].obls.map oblA) .no]) (Nat.le_of_ble_eq_true rfl)).trans ?_
          rw [set_same]
          rw [List.getElem?_eq_getElem (by simpa using hlt), List.getElem_map]; rfl
        simp -implicitDefEqProofs only [go_sem, hid]
        rw [e2, upd_id hid]
        refine ⟨rfl, by omega, .hm2 p1 p4, ?_⟩
        refine o4.idx (U := U) (e := 169) i rfl (by simpa using hlt) (by simp only [go_sem]) (by decide) ?_
        simp -implicitDefEqProofs only [go_sem, r1, hm2_fst _ _ n41.symm, hm2_snd, hid]
        rw [e3, upd_id hid]
        refine ⟨by omega, .hm2 p1 p4, ?_⟩
        refine o4.idx (U := U) (e := 169) i rfl (by simpa using hlt) (by simp only [go_sem]) (by decide) ?_
        simp -implicitDefEqProofs only [go_sem, r1, hm2_fst _ _ n41.symm, hm2_snd, hid]
        rw [e4, upd_id hid]
        refine ⟨by omega, .hm2 p1 p4, ?_⟩
        simp -implicitDefEqProofs only [go_sem, r1, r2, r24, r25, r26, w1]
        refine ⟨_, ?_, i + 1, p1, sG _ _ vz, vs.trans sG, v4.sub sG, v5.sub sG, by omega, rfl, ?_, ?_, ?_, ?_, ?_⟩
        · omega
        all_goals simp -implicitDefEqProofs only [go_sem, r1, r2, r24, r25, r26, w1]
      · have hge : i = prules.length := by have := of_decide_eq_false e; omega
        clear hge
        simp -implicitDefEqProofs only [go_sem, r1, r2, r24, r25, r26, q1, v5.rd.len, List.length_map]
        refine .intro (fun m ρ G => ∃ i : Nat, G i1 = some (.obj [.s pid, .v (.bool pset), .v (.int .i64 palg), tgtA ptgt, y4, y5, oblsA pobls] 32) ∧ G i2 = some (.obj [.s [], .v (.bool false), .v (.int .i64 0), .sl [] .full, .sl [] .full, .sl [] .full, .sl [] .full] 32) ∧ Ab.Sub g G ∧ OwE 169 g G 5 y4 (prules.map ruleA) ∧ OwE 32 g G 7 y5 (pkids.map polA) ∧ i ≤ pkids.length ∧ m = pkids.length - i ∧
          lk ρ 1 = some (.ptr i1 0) ∧ lk ρ 2 = some (.ptr i2 0) ∧ lk ρ 57 = some y5 ∧ lk ρ 58 = some (.v (.int .i64 pkids.length)) ∧ lk ρ 59 = some (.v (.int .i64 i))) pkids.length ?_ ?_
        · refine ⟨0, q1, vz, vs, v4, v5, by omega, rfl, ?_, ?_, ?_, ?_, ?_⟩ <;> simp -implicitDefEqProofs only [go_sem, r1, r2]
        · clear r1 r2 r24 r25 r26 q1 vz vs v4 v5 e hi
          rintro m ρ G ⟨i, q1, vz, vs, v4, v5, hi, rfl, r1, r2, r57, r58, r59⟩
          simp -implicitDefEqProofs only [go_sem, r1, r2, r57, r58, r59]
          refine .intro (fun e => ?_) (fun e => ?_)
          · have hlt : i < pkids.length := Int.ofNat_lt.1 (of_decide_eq_true e)
            have w1 : IntKind.i64.wrap ((i : Int) + 1) = ((i + 1 : Nat) : Int) := by rw [wr64 _ (by omega)]; omega
            have ihi := ih i hlt
            have hci := polA_cells pkids[i]
            cases hpk : pkids[i] with
            | mk kid kset kalg ktgt krules kkids kobls =>
            rw [hpk, polC_mk] at ihi
            simp -implicitDefEqProofs only [go_sem, r1, r2, r57, r58, r59]
            refine v5.rd.idx (e := 32) i rfl (by simpa using hlt) (by simp only [go_sem]) (by decide) fun p hp1 => ?_
            have hld := hp1.all (U := U) (ty := 32) (by simp only [go_sem]) (by simp only [go_sem]; rw [List.getElem_map]; exact hci) (by simp only [go_sem]; rw [List.getElem_map, hpk, polC_mk]; rfl)
            simp -implicitDefEqProofs only [go_sem, r1, r2, r57, r58, r59, hld, List.getElem_map, hpk, polC_mk]
            intro i4 h4
            have n41 : i4 ≠ i1 := ne_of_none h4 q1
            simp -implicitDefEqProofs only [go_sem, r1, r2, r57, r58, r59]
            obtain ⟨G4, eG4⟩ : ∃ G4, upd G i4 (some (.obj [.s kid, .v (.bool kset), .v (.int .i64 kalg), tgtA ktgt, .sl (krules.map ruleA) .no, .sl (kkids.map polA) .no, oblsA kobls] 32)) = G4 := ⟨_, rfl⟩
            rw [eG4]
            have p1 : G4 i1 = some (.obj [.s pid, .v (.bool pset), .v (.int .i64 palg), tgtA ptgt, y4, y5, oblsA pobls] 32) := by rw [← eG4, upd_other _ _ n41.symm]; exact q1
            have p4 : G4 i4 = some (.obj [.s kid, .v (.bool kset), .v (.int .i64 kalg), tgtA ktgt, .sl (krules.map ruleA) .no, .sl (kkids.map polA) .no, oblsA kobls] 32) := by rw [← eG4, upd_same]
            have sG : Ab.Sub G G4 := by rw [← eG4]; exact .upd_new h4
            refine .calls (hm2 i1 (.obj [.s pid, .v (.bool pset), .v (.int .i64 palg), tgtA ptgt, y4, y5, oblsA pobls] 32) i4 (.obj [.s kid, .v (.bool kset), .v (.int .i64 kalg), tgtA ktgt, .sl (krules.map ruleA) .no, .sl (kkids.map polA) .no, oblsA kobls] 32)) [0, 1, 2, 3, 4, 5, 6] (.hm2 p1 p4) (by kernel_rfl) rfl ?_
            simp -implicitDefEqProofs only [go_sem, r1, hm2_fst _ _ n41.symm, hm2_snd]
            refine (ihi G4).pthen ?_
            refine ⟨.hm2 p1 p4, ?_⟩
            simp -implicitDefEqProofs only [go_sem, r1, hm2_fst _ _ n41.symm, hm2_snd]
            obtain ⟨id4, hg4, o4⟩ := (v5.sub sG).ow (by intro e; rw [List.map_eq_nil_iff] at e; rw [e] at hlt; cases hlt)
            have o4' := o4
            obtain ⟨cap, rest, ey, hid, hr, hc, hsz⟩ := o4'
            have hbd : i * 7 + 7 ≤ (flatA (pkids.map polA) ++ rest).length := by
              rw [List.length_append, flatA_length hsz, List.length_map]; omega
            have e2 : List.take (i * 7) (flatA (pkids.map polA) ++ rest) ++ [.s kid, .v (.bool kset), .v (.int .i64 kalg), tgtA ktgt, .sl (krules.map ruleA) .no, .sl (kkids.map polA) .no, oblsA kobls] ++ List.drop (i * 7 + 7) (flatA (pkids.map polA) ++ rest) = flatA (pkids.map polA) ++ rest := by
              refine (put_flat hsz i (by simpa using hlt) 0 [.s kid, .v (.bool kset), .v (.int .i64 kalg), tgtA ktgt, .sl (krules.map ruleA) .no, .sl (kkids.map polA) .no, oblsA kobls] (Nat.le_of_ble_eq_true rfl)).trans ?_
              rw [set_same]
              rw [List.getElem?_eq_getElem (by simpa using hlt), List.getElem_map, hpk, polC_mk]; rfl
            refine o4.idx (U := U) (e := 32) i rfl (by simpa using hlt) (by simp only [go_sem]) (by decide) ?_
            simp -implicitDefEqProofs only [go_sem, r1, hm2_fst _ _ n41.symm, hm2_snd, hid]
            rw [e2, upd_id hid]
            refine ⟨by omega, .hm2 p1 p4, ?_⟩
            simp -implicitDefEqProofs only [go_sem, r1, r2, r57, r58, r59, w1]
            refine ⟨_, ?_, i + 1, p1, sG _ _ vz, vs.trans sG, v4.sub sG, v5.sub sG, by omega, rfl, ?_, ?_, ?_, ?_, ?_⟩
            · omega
            all_goals simp -implicitDefEqProofs only [go_sem, r1, r2, r57, r58, r59, w1]
          · simp -implicitDefEqProofs only [go_sem, r1, r2, r57, r58, r59, q1, vz]
            refine .mk _ (.refl _) (.refl _) ⟨vs.put n2 _, polA (.mk pid pset palg ptgt prules pkids pobls), ?_, polC_mk ..⟩
            rw [polC_mk]
            have z4 : ∀ b, Frz g (upd G i2 b) y4 (.sl (prules.map ruleA) .no) := fun b => (v4.keep fun id e => upd_other _ _ (hn4 id e)).frz (pureL_map pure_rule prules)
            have z5 : ∀ b, Frz g (upd G i2 b) y5 (.sl (pkids.map polA) .no) := fun b => (v5.keep fun id e => upd_other _ _ (hn5 id e)).frz (by rw [← kidsA_eq]; exact pure_kids pkids)
            refine .agg _ _ rfl fun k k1 k2 => ?_
            rcases k with _ | _ | _ | _ | _ | _ | _ | k
            · exact .pure rfl
            · exact .pure rfl
            · exact .pure rfl
            · exact .pure (pure_tgt _)
            · exact z4 _
            · exact z5 _
            · exact .pure (pure_obls _)
            · simp at k1; omega
termination_by p => SizeOf.sizeOf p
decreasing_by
  have := List.sizeOf_lt_of_mem (List.getElem_mem hj)
  simp only [PolD.mk.sizeOf_spec]
  omega
end Go.Proofs.YtnhelgnmadbpgaaGreatDoor

set_option linter.unusedSimpArgs false
set_option linter.unusedVariables false
namespace Go.Ab
open Go
def apart (a b : AV) : Prop := ∀ i, nid a = some i → nid b ≠ some i
theorem apart.symm {a b : AV} (h : apart a b) : apart b a := fun i e1 e2 => h i e2 e1
theorem apart_of {a y : AV} {tb : TypeId} {g h : Heap} {sz : Nat} {xs : List AV} (hw : OwE tb g h sz y xs) (ha : ∀ i, nid a = some i → g i ≠ none) : apart a y := fun i e1 e2 => ha i e1 (hw.nid e2).1
theorem OwE.there {tb : TypeId} {h0 h h' : Heap} {sz : Nat} {y : AV} {xs : List AV} (hw : OwE tb h0 h sz y xs) (hs : ∀ i, h i ≠ Option.none → h' i ≠ Option.none) : ∀ i, Ab.nid y = some i → h' i ≠ Option.none := fun i e => hs i (hw.nid e).2.1
theorem Sub.some {h h' : Heap} (hs : Sub h h') : ∀ i, h i ≠ Option.none → h' i ≠ Option.none := fun i e e' => e (hs.none e')
end Go.Ab
namespace Go.Proofs.YtnhelgnmadbpgaaGreatDoor
open Go Go.Ab Go.Bf
def MyCase (h0 h : Heap) (ys : List AV) (x : AV) (c : CaseD) : Prop := ∃ f l, x = .agg [.s c.id, .s c.owner, .s c.state, f, l] ∧ OwE 84 h0 h 4 f (c.fields.map fieldA) ∧ OwE 119 h0 h 3 l (c.log.map hapA) ∧ apart f l ∧ ∀ y ∈ ys, apart f y ∧ apart l y
def OwnC (h0 h : Heap) (ys : List AV) (y1 : AV) (cs : List CaseD) (i0 : Nat) : Prop := ∃ xs, OwE 63 h0 h 5 y1 xs ∧ xs.length = cs.length ∧ (∀ j (h1 : j < xs.length) (h2 : j < cs.length), j ≠ i0 → xs[j] = caseA cs[j]) ∧ ∀ (h1 : i0 < xs.length) (h2 : i0 < cs.length), MyCase h0 h ys xs[i0] cs[i0]
def OwnS (h0 h : Heap) (x : AV) (s : StoreD) (i0 : Nat) : Prop := ∃ y1 y2 y3 y4, x = .agg ([.v (.int .i64 s.tick), y1, y2, y3, y4] ++ polC s.policy ++ [.v (.int .i64 s.version)]) ∧ OwnC h0 h [y1, y2, y3, y4] y1 s.cases i0 ∧
  OwE 105 h0 h 7 y2 (s.reviews.map revA) ∧ OwE 114 h0 h 3 y3 (s.notices.map notA) ∧ OwE 75 h0 h 2 y4 (s.roles.map roleA) ∧ apart y1 y2 ∧ apart y1 y3 ∧ apart y1 y4 ∧ apart y2 y3 ∧ apart y2 y4 ∧ apart y3 y4
theorem over_full {cs L : List AV} (h : L.length = cs.length) : Ab.over cs 0 L = L := by
  rw [Ab.over, List.take_zero, List.nil_append, Nat.zero_add, List.drop_of_length_le (by omega), List.append_nil]
theorem ownCase2_ok {h : Heap} {x : AV} {c : CaseD} (i i0 : Nat) (hb : RdC h x c) (hl : c.fields.length ≤ 1000000) (hl2 : c.log.length ≤ 1000000) : FnOK Tryz.prog 68 [x] h fun r h' =>
    ∃ f l, r = .agg [.s c.id, .s c.owner, .s c.state, f, l] ∧ Ab.Sub h h' ∧ f.cells = [f] ∧ l.cells = [l] ∧ (i ≠ i0 → f = fieldsA c.fields ∧ l = logA c.log) ∧ (i = i0 → OwE 84 h h' 4 f (c.fields.map fieldA) ∧ OwE 119 h h' 3 l (c.log.map hapA) ∧ apart f l) := by
  by_cases e : i = i0
  · exact (ownCase_ok hb hl hl2).mono fun r h' ⟨⟨f, l, e1, a, b, c⟩, d⟩ => ⟨f, l, e1, d, a.rd.cells, b.rd.cells, fun hh => (hh e).elim, fun _ => ⟨a, b, c⟩⟩
  · exact (ownCasep_ok hb hl hl2).mono fun r h' ⟨e1, e2⟩ => ⟨_, _, e1, by rw [e2]; exact .refl _, rfl, rfl, fun _ => ⟨rfl, rfl⟩, fun hh => (e hh).elim⟩
theorem MyCase.sub {h0 h h' : Heap} {ys : List AV} {x : AV} {c : CaseD} (hm : MyCase h0 h ys x c) (hs : Ab.Sub h h') : MyCase h0 h' ys x c := by
  obtain ⟨f, l, e, a, b, c, d⟩ := hm
  exact ⟨f, l, e, a.sub hs, b.sub hs, c, d⟩
theorem MyCase.keep {h0 h h' : Heap} {ys : List AV} {x : AV} {c : CaseD} (hm : MyCase h0 h ys x c) (hs : ∀ f l, x = .agg [.s c.id, .s c.owner, .s c.state, f, l] → (∀ y ∈ ys, apart f y ∧ apart l y) → ∀ i, (nid f = some i ∨ nid l = some i) → h' i = h i) : MyCase h0 h' ys x c := by
  obtain ⟨f, l, e, a, b, c, d⟩ := hm
  exact ⟨f, l, e, a.keep fun i hi => hs f l e d i (.inl hi), b.keep fun i hi => hs f l e d i (.inr hi), c, d⟩
set_option maxRecDepth 100000 in
theorem own_ok {h : Heap} {x : AV} {s : StoreD} (hb : RdS h x s) (i0 : Nat) (hf : Few s) (hp : polE 1 s.policy) : FnOK Tryz.prog 45 [x] h fun r h' => OwnS h h' r s i0 ∧ Ab.Sub h h' := by
  obtain ⟨y1, y2, y3, y4, rfl, ⟨xs0, hc, hn, hcs⟩, h2, h3, h4⟩ := hb
  have hpo := ownPolicy_ok s.policy 1 hp
  cases hpp : s.policy with
  | mk pid pset palg ptgt prules pkids pobls =>
  rw [hpp, polC_mk] at hpo
  have hcC : polC (.mk pid pset palg ptgt prules pkids pobls) = [.s pid, .v (.bool pset), .v (.int .i64 palg), tgtA ptgt, .sl (prules.map ruleA) .no, .sl (pkids.map polA) .no, oblsA pobls] := by simp [polC, kidsA_eq]
  have hfc := hf.cases
  refine FnOK.body hU hm Tryz.func45 rfl (by kernel_rfl) 41 rfl [.cell 2 34] rfl (Nat.le_of_ble_eq_true rfl) (fun hwf => ?_)
  simp -implicitDefEqProofs only [go_sem, hcC, List.cons_append, List.nil_append]
  intro i1 h1
  simp -implicitDefEqProofs only [go_sem]
  intro i2 h2'
  have n21 := ne_upd h2'
  have n2 := upd_none h2'
  simp -implicitDefEqProofs only [go_sem, upd_ne, n21, n21.symm]
  obtain ⟨H, eH⟩ : ∃ H, upd (upd h i1 (some (.obj [.v (.int .i64 s.tick), y1, y2, y3, y4, .s pid, .v (.bool pset), .v (.int .i64 palg), tgtA ptgt, .sl (prules.map ruleA) .no, .sl (pkids.map polA) .no, oblsA pobls, .v (.int .i64 s.version)] 34))) i2 (some (.obj [.v (.int .i64 0), .sl [] .full, .sl [] .full, .sl [] .full, .sl [] .full, .s [], .v (.bool false), .v (.int .i64 0), .sl [] .full, .sl [] .full, .sl [] .full, .sl [] .full, .v (.int .i64 0)] 34)) = H := ⟨_, rfl⟩
  have hH : Ab.Sub h H := by rw [← eH]; exact ((Sub.refl h).put h1 _).put n2 _
  have g1 : H i1 = some (.obj [.v (.int .i64 s.tick), y1, y2, y3, y4, .s pid, .v (.bool pset), .v (.int .i64 palg), tgtA ptgt, .sl (prules.map ruleA) .no, .sl (pkids.map polA) .no, oblsA pobls, .v (.int .i64 s.version)] 34) := by rw [← eH, upd_other _ _ n21.symm, upd_same]
  have g2 : H i2 = some (.obj [.v (.int .i64 0), .sl [] .full, .sl [] .full, .sl [] .full, .sl [] .full, .s [], .v (.bool false), .v (.int .i64 0), .sl [] .full, .sl [] .full, .sl [] .full, .sl [] .full, .v (.int .i64 0)] 34) := by rw [← eH, upd_same]
  rw [eH]
  clear eH
  refine (clCase_ok y1 xs0 H (hc.sub hH) (by omega)).mono fun z1 H1 ⟨w1, s1⟩ => ?_
  simp -implicitDefEqProofs only [go_sem, s1 _ _ g1, w1.rd.fit, w1.rd.cells]
  have v1 : ∀ b, OwE 63 h (upd H1 i1 b) 5 z1 xs0 := fun b => (w1.less hH).keep fun id e => upd_other _ _ (ne_of_none (w1.nid e).1 g1)
  have vs : ∀ b, Ab.Sub h (upd H1 i1 b) := fun b => (hH.trans s1).put h1 b
  have vz : ∀ b, upd H1 i1 b i2 = some (.obj [.v (.int .i64 0), .sl [] .full, .sl [] .full, .sl [] .full, .sl [] .full, .s [], .v (.bool false), .v (.int .i64 0), .sl [] .full, .sl [] .full, .sl [] .full, .sl [] .full, .v (.int .i64 0)] 34) := fun b => by rw [upd_other _ _ n21]; exact s1 _ _ g2
  have hz1 : ∀ id, nid z1 = some id → id ≠ i1 := fun id e => ne_of_none (w1.nid e).1 g1
  have hz2 : ∀ id, nid z1 = some id → id ≠ i2 := fun id e => ne_of_none (w1.nid e).1 g2
  obtain ⟨H2, eH2⟩ : ∃ H2, upd H1 i1 (some (.obj [.v (.int .i64 s.tick), z1, y2, y3, y4, .s pid, .v (.bool pset), .v (.int .i64 palg), tgtA ptgt, .sl (prules.map ruleA) .no, .sl (pkids.map polA) .no, oblsA pobls, .v (.int .i64 s.version)] 34)) = H2 := ⟨_, rfl⟩
  replace v1 := v1 (some (.obj [.v (.int .i64 s.tick), z1, y2, y3, y4, .s pid, .v (.bool pset), .v (.int .i64 palg), tgtA ptgt, .sl (prules.map ruleA) .no, .sl (pkids.map polA) .no, oblsA pobls, .v (.int .i64 s.version)] 34))
  replace vs := vs (some (.obj [.v (.int .i64 s.tick), z1, y2, y3, y4, .s pid, .v (.bool pset), .v (.int .i64 palg), tgtA ptgt, .sl (prules.map ruleA) .no, .sl (pkids.map polA) .no, oblsA pobls, .v (.int .i64 s.version)] 34))
  replace vz := vz (some (.obj [.v (.int .i64 s.tick), z1, y2, y3, y4, .s pid, .v (.bool pset), .v (.int .i64 palg), tgtA ptgt, .sl (prules.map ruleA) .no, .sl (pkids.map polA) .no, oblsA pobls, .v (.int .i64 s.version)] 34))
  have q1 : H2 i1 = some (.obj [.v (.int .i64 s.tick), z1, y2, y3, y4, .s pid, .v (.bool pset), .v (.int .i64 palg), tgtA ptgt, .sl (prules.map ruleA) .no, .sl (pkids.map polA) .no, oblsA pobls, .v (.int .i64 s.version)] 34) := by rw [← eH2, upd_same]
  rw [eH2] at v1 vs vz
  rw [eH2]
  clear eH2
  simp -implicitDefEqProofs only [go_sem, q1, v1.rd.len, hn]
  refine .intro (fun m ρ G => ∃ (i : Nat) (xs : List AV), G i1 = some (.obj [.v (.int .i64 s.tick), z1, y2, y3, y4, .s pid, .v (.bool pset), .v (.int .i64 palg), tgtA ptgt, .sl (prules.map ruleA) .no, .sl (pkids.map polA) .no, oblsA pobls, .v (.int .i64 s.version)] 34) ∧ G i2 = some (.obj [.v (.int .i64 0), .sl [] .full, .sl [] .full, .sl [] .full, .sl [] .full, .s [], .v (.bool false), .v (.int .i64 0), .sl [] .full, .sl [] .full, .sl [] .full, .sl [] .full, .v (.int .i64 0)] 34) ∧ Ab.Sub h G ∧ OwE 63 h G 5 z1 xs ∧ xs.length = s.cases.length ∧ (∀ j (h1 : j < xs.length) (h2 : j < s.cases.length), j < i → j ≠ i0 → xs[j] = caseA s.cases[j]) ∧ (∀ (h1 : i0 < xs.length) (h2 : i0 < s.cases.length), i0 < i → MyCase h G [z1] xs[i0] s.cases[i0]) ∧ (∀ j (h1 : j < xs.length) (h2 : j < s.cases.length), i ≤ j → RdC h xs[j] s.cases[j]) ∧ i ≤ s.cases.length ∧ m = s.cases.length - i ∧
    lk ρ 1 = some (.ptr i1 0) ∧ lk ρ 2 = some (.ptr i2 0) ∧ lk ρ 10 = some z1 ∧ lk ρ 11 = some (.v (.int .i64 s.cases.length)) ∧ lk ρ 12 = some (.v (.int .i64 i))) s.cases.length ?_ ?_
  · refine ⟨0, xs0, q1, vz, vs, v1, hn, fun j _ _ hj => (by omega), fun _ _ hj => (by omega), fun j a b _ => hcs j a b, by omega, rfl, ?_, ?_, ?_, ?_, ?_⟩ <;> simp -implicitDefEqProofs only [go_sem]
  · rintro m ρ G ⟨i, xs, q1, vz, vs, v1, hn, hlo, hmy, hhi, hi, rfl, r1, r2, r10, r11, r12⟩
    simp -implicitDefEqProofs only [go_sem, r1, r2, r10, r11, r12]
    refine .intro (fun e => ?_) (fun e => ?_)
    · have hlt : i < s.cases.length := Int.ofNat_lt.1 (of_decide_eq_true e)
      have hltx : i < xs.length := by omega
      have w1 : IntKind.i64.wrap ((i : Int) + 1) = ((i + 1 : Nat) : Int) := by rw [wr64 _ (by omega)]; omega
      obtain ⟨f, l, ex, hfl, hlg⟩ := hhi i hltx hlt (Nat.le_refl _)
      have hff := hf.fields _ (List.getElem_mem hlt)
      have hfg := hf.log _ (List.getElem_mem hlt)
      simp -implicitDefEqProofs only [go_sem, r1, r2, r10, r11, r12]
      refine v1.rd.idx (e := 63) i rfl hltx uCase (by decide) fun p hp1 => ?_
      have hld := hp1.all (U := U) (ty := 63) (by simp only [go_sem]) (by rw [uCase, ex]; rfl) (by simp only [go_sem]; rw [ex]; rfl)
      simp -implicitDefEqProofs only [go_sem, r1, r2, r10, r11, r12, hld, ex]
      intro i4 h4
      have n41 : i4 ≠ i1 := ne_of_none h4 q1
      simp -implicitDefEqProofs only [go_sem, r1, r2, r10, r11, r12]
      obtain ⟨G4, eG4⟩ : ∃ G4, upd G i4 (some (.obj [.s s.cases[i].id, .s s.cases[i].owner, .s s.cases[i].state, f, l] 63)) = G4 := ⟨_, rfl⟩
      rw [eG4]
      have p1 : G4 i1 = some (.obj [.v (.int .i64 s.tick), z1, y2, y3, y4, .s pid, .v (.bool pset), .v (.int .i64 palg), tgtA ptgt, .sl (prules.map ruleA) .no, .sl (pkids.map polA) .no, oblsA pobls, .v (.int .i64 s.version)] 34) := by rw [← eG4, upd_other _ _ n41.symm]; exact q1
      have p4 : G4 i4 = some (.obj [.s s.cases[i].id, .s s.cases[i].owner, .s s.cases[i].state, f, l] 63) := by rw [← eG4, upd_same]
      have sG : Ab.Sub G G4 := by rw [← eG4]; exact .upd_new h4
      refine .calls (hm2 i1 (.obj [.v (.int .i64 s.tick), z1, y2, y3, y4, .s pid, .v (.bool pset), .v (.int .i64 palg), tgtA ptgt, .sl (prules.map ruleA) .no, .sl (pkids.map polA) .no, oblsA pobls, .v (.int .i64 s.version)] 34) i4 (.obj [.s s.cases[i].id, .s s.cases[i].owner, .s s.cases[i].state, f, l] 63)) [0, 1, 2, 3, 4, 5, 6] (.hm2 p1 p4) (by kernel_rfl) rfl ?_
      simp -implicitDefEqProofs only [go_sem, r1, hm2_fst _ _ n41.symm, hm2_snd]
      refine (ownCase2_ok i i0 (show RdC G4 (.agg [.s s.cases[i].id, .s s.cases[i].owner, .s s.cases[i].state, f, l]) s.cases[i] from ⟨f, l, rfl, hfl.sub (vs.trans sG), hlg.sub (vs.trans sG)⟩) hff hfg).mono fun r G5 ⟨f', l', er, s5, cf, cl, hne, heq⟩ => ?_
      subst er
      have p1' := s5 _ _ p1
      have p4' := s5 _ _ p4
      refine ⟨.hm2 p1' p4', ?_⟩
      simp -implicitDefEqProofs only [go_sem, r1, hm2_fst _ _ n41.symm, hm2_snd]
      obtain ⟨id1, hg1, o1⟩ := ((v1.sub sG).sub s5).ow (by intro e; rw [e] at hltx; cases hltx)
      have t1 : id1 ≠ i1 := ow_ne o1 p1' (by decide)
      have t2 : id1 ≠ i2 := hz2 id1 o1.nid
      have t3 : G4 id1 ≠ none := fun e => (v1.nid o1.nid).2.1 (sG.none e)
      have o1' := o1
      obtain ⟨cap, rest, ey, hid, hr, hcap, hsz⟩ := o1'
      have hbd : i * 5 + 5 ≤ (flatA xs ++ rest).length := by
        rw [List.length_append, flatA_length hsz]; omega
      have hx5 : xs[i].cells.length = 5 := hsz _ (List.getElem_mem hltx)
      have e2 : List.take (i * 5) (flatA xs ++ rest) ++ [.s s.cases[i].id, .s s.cases[i].owner, .s s.cases[i].state, f', l'] ++ List.drop (i * 5 + 5) (flatA xs ++ rest) = flatA (xs.set i (.agg [.s s.cases[i].id, .s s.cases[i].owner, .s s.cases[i].state, f', l'])) ++ rest := by
        refine (put_flat hsz i hltx 0 [.s s.cases[i].id, .s s.cases[i].owner, .s s.cases[i].state, f', l'] (Nat.le_of_ble_eq_true rfl)).trans ?_
        rw [over_full (by rw [hx5]; rfl)]
      refine o1.idx (U := U) (e := 63) i rfl hltx uCase (by decide) ?_
      simp -implicitDefEqProofs only [go_sem, r1, hm2_fst _ _ n41.symm, hm2_snd, hid]
      rw [e2]
      have t4 : id1 ≠ i4 := fun e => (v1.nid o1.nid).2.1 (by rw [e]; exact h4)
      refine ⟨by omega, .hm2 (by rw [upd_other _ _ t1.symm]; exact p1') (by rw [upd_other _ _ t4.symm]; exact p4'), ?_⟩
      simp -implicitDefEqProofs only [go_sem, r1, r2, r10, r11, r12, w1]
      have ho : ∀ b k, k ≠ id1 → upd G5 id1 b k = G5 k := fun b k hk => upd_other _ _ hk
      have hs6 : ∀ b, Ab.Sub h (upd G5 id1 b) := fun b => ((vs.trans sG).trans s5).put hg1 b
      refine ⟨_, ?_, i + 1, xs.set i (.agg [.s s.cases[i].id, .s s.cases[i].owner, .s s.cases[i].state, f', l']), (ho _ _ t1.symm).trans p1', (ho _ _ t2.symm).trans (s5 _ _ (sG _ _ vz)), hs6 _, .inr ⟨id1, hg1, cap, rest, by rw [List.length_set]; exact ey, upd_same .., by rw [List.length_set]; exact hr, by rw [List.length_set]; exact hcap, ?_⟩, by rw [List.length_set]; exact hn, fun j a b hj hj0 => ?_, fun a b hj => ?_, fun j a b hj => ?_, by omega, rfl, ?_, ?_, ?_, ?_, ?_⟩
      · omega
      · intro z hz
        rcases List.mem_or_eq_of_mem_set hz with hz | rfl
        · exact hsz z hz
        · rfl
      · have a' : j < xs.length := by rw [List.length_set] at a; exact a
        by_cases hji : j = i
        · subst hji
          obtain ⟨ef, el⟩ := hne hj0
          rw [List.getElem_set_self, ef, el]; rfl
        · rw [List.getElem_set_ne (Ne.symm hji)]
          exact hlo j a' b (by omega) hj0
      · have a' : i0 < xs.length := by rw [List.length_set] at a; exact a
        by_cases hji : i = i0
        · subst hji
          obtain ⟨of, ol, hap⟩ := heq rfl
          have kf : ∀ k, G4 k = none → upd G5 id1 (some (.obj (flatA (xs.set i (.agg [.s s.cases[i].id, .s s.cases[i].owner, .s s.cases[i].state, f', l'])) ++ rest) 63)) k = G5 k := fun k hk => upd_other _ _ fun e => t3 (by rw [← e]; exact hk)
          rw [List.getElem_set_self]
          refine ⟨f', l', rfl, (of.less (vs.trans sG)).keep fun k hk => kf k (of.nid hk).1, (ol.less (vs.trans sG)).keep fun k hk => kf k (ol.nid hk).1, hap, fun y hy => ?_⟩
          rw [List.mem_singleton.1 hy]
          have hz1 : ∀ k, nid z1 = some k → G4 k ≠ none := (v1.sub sG).there fun k hk => hk
          exact ⟨(apart_of of hz1).symm, (apart_of ol hz1).symm⟩
        · rw [List.getElem_set_ne hji]
          have hm := hmy a' b (by omega)
          refine MyCase.keep (h := G5) ((hm.sub sG).sub s5) fun f l ex hap k hk => ?_
          refine upd_other _ _ fun e => ?_
          subst e
          rcases hk with hk | hk
          · exact (hap z1 (List.mem_singleton.2 rfl)).1 _ hk o1.nid
          · exact (hap z1 (List.mem_singleton.2 rfl)).2 _ hk o1.nid
      · have a' : j < xs.length := by rw [List.length_set] at a; exact a
        rw [List.getElem_set_ne (by omega)]
        exact hhi j a' b (by omega)
      all_goals simp -implicitDefEqProofs only [go_sem, r1, r2, r10, r11, r12, w1]
    · have hge : i = s.cases.length := by have := of_decide_eq_false e; omega
      simp -implicitDefEqProofs only [go_sem, r1, r2, r10, r11, r12]
      refine .stage (hm1 i1 (.obj [.v (.int .i64 s.tick), z1, y2, y3, y4, .s pid, .v (.bool pset), .v (.int .i64 palg), tgtA ptgt, .sl (prules.map ruleA) .no, .sl (pkids.map polA) .no, oblsA pobls, .v (.int .i64 s.version)] 34)) [0, 1, 3, 4, 6, 7, 2, 9, 5, 8] [10, 11, 12, 13, 14] (.hm1 q1) (by kernel_rfl) ?_
      simp -implicitDefEqProofs only [go_sem, r1, hm1_same]
      refine (clReview_ok y2 _ G (h2.sub vs) (by rw [List.length_map]; exact hf.reviews)).mono fun z2 G1 ⟨o2, s1⟩ => ?_
      refine ⟨.hm1 (s1 _ _ q1), ?_⟩
      simp -implicitDefEqProofs only [go_sem, r1, hm1_same]
      refine (clNotice_ok y3 _ G1 ((h3.sub vs).sub s1) (by rw [List.length_map]; exact hf.notices)).mono fun z3 G2 ⟨o3, s2⟩ => ?_
      refine ⟨.hm1 (s2 _ _ (s1 _ _ q1)), ?_⟩
      simp -implicitDefEqProofs only [go_sem, r1, hm1_same]
      refine (clRole_ok y4 _ G2 (((h4.sub vs).sub s1).sub s2) (by rw [List.length_map]; exact hf.roles)).mono fun z4 G3 ⟨o4, s3⟩ => ?_
      have s03 : Ab.Sub G G3 := s1.trans (s2.trans s3)
      have q1' := s03 _ _ q1
      have q2' := s03 _ _ vz
      refine ⟨.hm1 q1', noHeap, (fun _ _ e => by cases e), ?_⟩
      simp -implicitDefEqProofs only [go_sem, r1, q1', o2.rd.fit, o2.rd.cells, o3.rd.fit, o3.rd.cells, o4.rd.fit, o4.rd.cells]
      refine ⟨fun _ _ e => (by cases e), fun _ _ e => (by cases e), fun _ _ e => (by cases e), ?_⟩
      refine (show FnOK Tryz.prog 90 [_] _ _ from hpo _).pthen ?_
      have vz' : ∀ b, upd G3 i1 b i2 = some (.obj [.v (.int .i64 0), .sl [] .full, .sl [] .full, .sl [] .full, .sl [] .full, .s [], .v (.bool false), .v (.int .i64 0), .sl [] .full, .sl [] .full, .sl [] .full, .sl [] .full, .v (.int .i64 0)] 34) := fun b => by rw [upd_other _ _ n21]; exact q2'
      simp -implicitDefEqProofs only [go_sem, r1, r2, vz']
      have k1 : ∀ {tb : TypeId} {z : AV} {xs : List AV} {n : Nat} {g : Heap}, OwE tb g G3 n z xs → Ab.Sub h g → (∀ id, nid z = some id → id ≠ i1 ∧ id ≠ i2) → ∀ a b, OwE tb h (upd (upd G3 i1 a) i2 b) n z xs := fun w hg hn a b => (w.less hg).keep fun id e => by
        rw [upd_other _ _ (hn id e).2, upd_other _ _ (hn id e).1]
      have new : ∀ {tb : TypeId} {z : AV} {xs : List AV} {n : Nat} {g : Heap}, OwE tb g G3 n z xs → Ab.Sub G g → ∀ id, nid z = some id → id ≠ i1 ∧ id ≠ i2 := fun w hg id e => ⟨ne_of_none (w.nid e).1 (hg _ _ q1), ne_of_none (w.nid e).1 (hg _ _ vz)⟩
      have n2' := new (o2.sub (s2.trans s3)) (.refl _)
      have n3' := new (o3.sub s3) s1
      have n4' := new o4 (s1.trans s2)
      have n1' : ∀ id, nid z1 = some id → id ≠ i1 ∧ id ≠ i2 := fun id e => ⟨hz1 id e, hz2 id e⟩
      have aG : ∀ k, nid z1 = some k → G k ≠ none := v1.there fun k hk => hk
      refine .mk _ (.refl _) (.refl _) ⟨⟨z1, z2, z3, z4, by rw [hpp, hcC]; rfl, ⟨xs, k1 (v1.sub s03) (.refl _) n1' _ _, hn, fun j a b hj => hlo j a b (by omega) hj, fun a b => ?_⟩, k1 (o2.sub (s2.trans s3)) vs n2' _ _, k1 (o3.sub s3) (vs.trans s1) n3' _ _, k1 o4 (vs.trans (s1.trans s2)) n4' _ _, ?_, ?_, ?_, ?_, ?_, ?_⟩, ((vs.trans s03).put h1 _).put n2 _⟩
      · have hm := (hmy a b (by omega)).sub s03
        obtain ⟨f, l, ex, of, ol, hap, hy⟩ := hm
        obtain ⟨af, al⟩ := hy z1 (List.mem_singleton.2 rfl)
        have kf : ∀ k, nid f = some k → k ≠ i1 ∧ k ≠ i2 := fun k hk => ⟨ow_ne (of.nid hk).2.2 q1' (by decide), ow_ne (of.nid hk).2.2 q2' (by decide)⟩
        have kl : ∀ k, nid l = some k → k ≠ i1 ∧ k ≠ i2 := fun k hk => ⟨ow_ne (ol.nid hk).2.2 q1' (by decide), ow_ne (ol.nid hk).2.2 q2' (by decide)⟩
        obtain ⟨f0, l0, ex0, of0, ol0, _⟩ := hmy a b (by omega)
        obtain ⟨rfl, rfl⟩ : f0 = f ∧ l0 = l := by
          rw [ex0] at ex
          simp only [AV.agg.injEq, List.cons.injEq, true_and, and_true] at ex
          exact ex
        have gf : ∀ k, nid f0 = some k → G k ≠ none := of0.there fun k hk => hk
        have gl : ∀ k, nid l0 = some k → G k ≠ none := ol0.there fun k hk => hk
        refine ⟨f0, l0, ex, k1 of (.refl _) kf _ _, k1 ol (.refl _) kl _ _, hap, fun y hy => ?_⟩
        simp only [List.mem_cons, List.not_mem_nil, or_false] at hy
        rcases hy with rfl | rfl | rfl | rfl
        · exact ⟨af, al⟩
        · exact ⟨apart_of o2 gf, apart_of o2 gl⟩
        · exact ⟨apart_of o3 fun k hk => s1.some k (gf k hk), apart_of o3 fun k hk => s1.some k (gl k hk)⟩
        · exact ⟨apart_of o4 fun k hk => (s1.trans s2).some k (gf k hk), apart_of o4 fun k hk => (s1.trans s2).some k (gl k hk)⟩
      · exact apart_of o2 aG
      · exact apart_of o3 fun k hk => s1.some k (aG k hk)
      · exact apart_of o4 fun k hk => (s1.trans s2).some k (aG k hk)
      · exact apart_of o3 (o2.there fun k hk => hk)
      · exact apart_of o4 ((o2.sub s2).there fun k hk => hk)
      · exact apart_of o4 (o3.there fun k hk => hk)
end Go.Proofs.YtnhelgnmadbpgaaGreatDoor

set_option linter.unusedSimpArgs false
set_option linter.unusedVariables false
namespace Go.Ab
open Go
theorem mid_put {A B C X : List AV} {k m : Nat} (hk : k = A.length) (hm : m = X.length) (h : X.length = B.length) : (A ++ (B ++ C)).take k ++ X ++ (A ++ (B ++ C)).drop (k + m) = A ++ (X ++ C) := by
  subst hk; subst hm
  rw [List.take_left, ← List.drop_drop, List.drop_left, h, List.drop_left, List.append_assoc]
theorem ins_put {A B C X : List AV} {k1 k2 k3 k4 : Nat} (h1 : k1 = A.length + X.length) (h2 : k2 = k1 + B.length) (h3 : k3 = A.length) (h4 : k4 = k3 + X.length) (hc : X.length ≤ C.length) :
    List.take k3 (List.take k1 (A ++ (B ++ C)) ++ B ++ List.drop k2 (A ++ (B ++ C))) ++ X ++ List.drop k4 (List.take k1 (A ++ (B ++ C)) ++ B ++ List.drop k2 (A ++ (B ++ C))) = A ++ (X ++ (B ++ C.drop X.length)) := by
  subst h1; subst h2; subst h3; subst h4
  have e1 : List.take (A.length + X.length) (A ++ (B ++ C)) = A ++ List.take X.length (B ++ C) := by rw [List.take_append, List.take_of_length_le (by omega), Nat.add_sub_cancel_left]
  have e2 : List.drop (A.length + X.length + B.length) (A ++ (B ++ C)) = C.drop X.length := by
    rw [Nat.add_assoc, ← List.drop_drop, List.drop_left, Nat.add_comm, ← List.drop_drop, List.drop_left]
  rw [e1, e2, List.append_assoc A]
  have e3 : (List.take X.length (B ++ C)).length = X.length := by rw [List.length_take, List.length_append]; omega
  have e4 : A ++ (List.take X.length (B ++ C) ++ B ++ List.drop X.length C) = A ++ (List.take X.length (B ++ C) ++ (B ++ C.drop X.length)) := by simp only [List.append_assoc]
  rw [List.append_assoc A, e4]
  exact mid_put rfl rfl e3.symm
theorem ins_two {A Z R X B : List AV} {k1 k2 k3 k4 : Nat} (h1 : k1 = A.length) (h2 : k2 = k1 + X.length) (h3 : k3 = A.length + X.length) (h4 : k4 = k3 + B.length) (hz : Z.length = X.length + B.length) :
    List.take k3 (List.take k1 (A ++ Z ++ R) ++ X ++ List.drop k2 (A ++ Z ++ R)) ++ B ++ List.drop k4 (List.take k1 (A ++ Z ++ R) ++ X ++ List.drop k2 (A ++ Z ++ R)) = A ++ (X ++ (B ++ R)) := by
  subst h1; subst h2; subst h3; subst h4
  obtain ⟨Z1, Z2, rfl, e1⟩ : ∃ Z1 Z2, Z = Z1 ++ Z2 ∧ Z1.length = X.length := ⟨Z.take X.length, Z.drop X.length, (List.take_append_drop _ _).symm, by rw [List.length_take]; omega⟩
  have e2 : Z2.length = B.length := by rw [List.length_append] at hz; omega
  have e3 : A ++ (Z1 ++ Z2) ++ R = A ++ (Z1 ++ (Z2 ++ R)) := by simp only [List.append_assoc]
  rw [e3, mid_put rfl rfl e1.symm, ← List.append_assoc A X, mid_put (by rw [List.length_append]) rfl e2.symm, List.append_assoc]
end Go.Ab
namespace Go.Proofs.YtnhelgnmadbpgaaGreatDoor
open Go Go.Ab Go.Bf
theorem ovCase_ok {h : Heap} {v : AV} {id off len cap : Nat} {cs : List AV} {t : TypeId} (hv : v.cells.length = 5) (hid : h id = some (.obj cs t)) (hcs : cs ≠ []) : FnOK Tryz.prog 93 [.sl [v] .full, .ob id off len cap 5] h fun r h' => r = .v (.bool false) ∧ h' = h :=
  overlaps_ok (U := U) (tS := 22) (tR := 4) (e := 63) hU Tryz.func93 (by kernel_rfl) (by kernel_rfl) (by kernel_rfl) (by kernel_rfl) (by simp only [go_sem]) (by simp only [go_sem]) (by simp only [go_sem]; exact hv) (by simp) hid hcs
set_option maxRecDepth 100000 in
theorem insCase_ok (y : AV) (xs : List AV) (v : AV) (i : Nat) (h0 h : Heap) (hw : OwE 63 h0 h 5 y xs) (hs0 : Ab.Sub h0 h) (hi : i ≤ xs.length) (hl : xs.length ≤ 1000000) (hv : v.cells.length = 5) (hva : fit v 5) :
    FnOK Tryz.prog 48 [y, .v (.int .i64 i), .sl [v] .full] h fun r h' => OwE 63 h0 h' 5 r (xs.take i ++ ([v] ++ xs.drop i)) ∧ (∀ k, h k ≠ none → nid y ≠ some k → h' k = h k) ∧ ∀ k, nid r = some k → h k = none ∨ nid y = some k := by
  rcases hw with ⟨rfl, rfl⟩ | ⟨id, hg, cap, rest, rfl, hid, hr, hc, hsz⟩
  · obtain rfl : i = 0 := by simpa using hi
    refine FnOK.body hU hm Tryz.func48 rfl (by kernel_rfl) 95 rfl [.tmp 6] rfl (Nat.le_of_ble_eq_true rfl) (fun hwf => ?_)
    simp -implicitDefEqProofs only [go_sem]
    refine ⟨by omega, by omega, hv, .ob (by simp only [go_sem]) (newOb.ow (xs := [v]) (by intro z hz; rw [List.mem_singleton.1 hz]; simp only [go_sem]; exact hv) (by simp [flatA]) rfl fun id y' h' hid hw ho => ?_)⟩
    have hw' : Ow 63 h' 5 id y' [v] := by have := hw; simp only [go_sem] at this; exact this
    simp -implicitDefEqProofs only [go_sem]
    refine .same (.refl _) ⟨.inr ⟨id, hs0.none hid, hw'⟩, fun k hk _ => ho k (fun e => hk (by rw [e]; exact hid)), fun k hk => ?_⟩
    rw [show oneOr [y'] = y' from rfl, hw'.nid] at hk
    cases hk
    exact .inl hid
  · have how : OwE 63 h0 h 5 (.ob id 0 xs.length cap 5) xs := .inr ⟨id, hg, cap, rest, rfl, hid, hr, hc, hsz⟩
    have hfl := flatA_length hsz
    refine FnOK.body hU hm Tryz.func48 rfl (by kernel_rfl) 95 rfl [.tmp 6] rfl (Nat.le_of_ble_eq_true rfl) (fun hwf => ?_)
    simp -implicitDefEqProofs only [go_sem, hid]
    refine ⟨by omega, by omega, ?_⟩
    cases d1 : ((i : Int) == (xs.length : Int))
    case true =>
      have hin : i = xs.length := by
        have : (i : Int) = (xs.length : Int) := by simpa using d1
        omega
      simp -implicitDefEqProofs only [go_sem, d1]
      subst hin
      refine ⟨by omega, ?_⟩
      refine OwE.app (U := U) (tb := 63) how hs0 (.sl (by intro z hz; rw [List.mem_singleton.1 hz]; exact hv) .full : Rd h 5 (.sl [v] .full) [v]) (by simp only [go_sem]) (by decide) (by simp only [go_sem, ne_eq, not_false_eq_true]) (by simp only [go_sem]) (by simp) (by simp only [go_sem, List.length_cons, List.length_nil]; omega) fun id2 y' h' g2 hor hw ho => ?_
      simp -implicitDefEqProofs only [go_sem]
      have e1 : xs.take xs.length ++ ([v] ++ xs.drop xs.length) = xs ++ [v] := by simp
      refine .same (.refl _) ⟨by have : OwE 63 h0 h' 5 y' (xs ++ [v]) := .inr ⟨id2, g2, hw⟩; rw [← e1] at this; exact this, fun k hk hk2 => ho k fun e => ?_, fun k hk => ?_⟩
      · rcases hor with hor | ⟨l, c, ey⟩
        · exact hk (by rw [e]; exact hor)
        · cases ey
          exact hk2 (by rw [e]; rfl)
      · rw [show oneOr [y'] = y' from rfl, hw.nid] at hk
        cases hk
        rcases hor with hor | ⟨l, c, ey⟩
        · exact .inl hor
        · cases ey; exact .inr rfl
    have hne : i < xs.length := by
      have : ¬ (i : Int) = (xs.length : Int) := by simpa using d1
      omega
    have wn : IntKind.i64.wrap ((xs.length : Int) + 1) = ((xs.length + 1 : Nat) : Int) := by rw [wr64 _ (by omega)]; omega
    have wi : IntKind.i64.wrap ((i : Int) + 1) = ((i + 1 : Nat) : Int) := by rw [wr64 _ (by omega)]; omega
    have wm : IntKind.i64.wrap (((xs.length + 1 : Nat) : Int) - (i : Int)) = ((xs.length + 1 - i : Nat) : Int) := by rw [wr64 _ (by omega)]; omega
    have f1 : flatA xs = flatA (xs.take i) ++ flatA (xs.drop i) := by rw [← flatA_app, List.take_append_drop]
    have f2 : (flatA (xs.take i)).length = i * 5 := by rw [flatA_length (sz := 5) fun z hz => hsz z (List.mem_of_mem_take hz), List.length_take, Nat.min_eq_left hi]
    have f3 : (flatA (xs.drop i)).length = (xs.length - i) * 5 := by rw [flatA_length (sz := 5) fun z hz => hsz z (List.mem_of_mem_drop hz), List.length_drop]
    have f4 : flatA (xs.take i ++ ([v] ++ xs.drop i)) = flatA (xs.take i) ++ (v.cells ++ flatA (xs.drop i)) := by simp [flatA]
    have f5 : Sized 5 (xs.take i ++ ([v] ++ xs.drop i)) := fun z hz => by
      rcases List.mem_append.1 hz with hz | hz
      · exact hsz z (List.mem_of_mem_take hz)
      · rcases List.mem_append.1 hz with hz | hz
        · rw [List.mem_singleton.1 hz]; exact hv
        · exact hsz z (List.mem_of_mem_drop hz)
    have f6 : (xs.take i ++ ([v] ++ xs.drop i)).length = xs.length + 1 := by simp; omega
    have f6' : (xs.take i ++ v :: xs.drop i).length = xs.length + 1 := f6
    cases d2 : decide ((cap : Int) < ((xs.length + 1 : Nat) : Int))
    · have e2 := of_decide_eq_false d2
      simp -implicitDefEqProofs only [go_sem, d1, wn, d2]
      refine ⟨by omega, ?_⟩
      simp -implicitDefEqProofs only [go_sem, wi]
      have hcs : flatA xs ++ rest ≠ [] := by
        intro e
        have := congrArg List.length e
        rw [List.length_append, hfl] at this
        simp at this
        omega
      refine ⟨by omega, by omega, by omega, by omega, by omega, by omega, ?_⟩
      refine (ovCase_ok hv hid hcs).pthen ?_
      simp -implicitDefEqProofs only [go_sem]
      refine .calls noHeap [0, 1, 2, 3, 4, 5, 6, 7, 8] (fun _ _ e => by cases e) (by kernel_rfl) rfl ?_
      simp -implicitDefEqProofs only [go_sem, wi, hid, Nat.sub_zero]
      have hmin : min (xs.length + 1 - i) (xs.length + 1 - (i + 1)) = xs.length - i := by omega
      refine ⟨by omega, by omega, by omega, by omega, by omega, by omega, xs.drop i, by rw [hmin, List.length_drop], by rw [hmin, List.length_append, hfl, hr]; omega, ?q1, fun z hz => hsz z (List.mem_of_mem_drop hz), by rw [List.length_drop]; omega, by rw [List.length_append, hfl, hr]; omega, (by intro _ _ e; cases e), by omega, by omega, by omega, hv, by omega, ?ln, ?fin⟩
      case q1 => rw [hmin, f1, List.append_assoc, ← f2, List.drop_left, ← f3, List.take_left]
      case ln => simp only [List.length_append, List.length_take, List.length_drop, hfl, hr, f3]; omega
      have hrl : (5 : Nat) ≤ rest.length := by rw [hr]; omega
      have hfv : flatA [v] = v.cells := by simp [flatA]
      have key := ins_put (A := flatA (xs.take i)) (B := flatA (xs.drop i)) (C := rest) (X := flatA [v]) (k1 := (i + 1) * 5) (k2 := (i + 1) * 5 + (flatA (xs.drop i)).length) (k3 := i * 5) (k4 := i * 5 + (flatA [v]).length) (by rw [hfv, hv, f2]; omega) rfl f2.symm rfl (by rw [hfv, hv]; exact hrl)
      rw [← List.append_assoc (flatA (xs.take i)) (flatA (xs.drop i)) rest, ← f1] at key
      rw [key]
      have e8 : flatA (xs.take i) ++ (flatA [v] ++ (flatA (xs.drop i) ++ rest.drop (flatA [v]).length)) = flatA (xs.take i ++ ([v] ++ xs.drop i)) ++ rest.drop 5 := by rw [f4, hfv, hv]; simp only [List.append_assoc]
      rw [e8]
      refine .same (.refl _) ⟨.inr ⟨id, hg, cap, rest.drop 5, by rw [← f6]; rfl, upd_same _ _ _, by rw [List.length_drop, hr, f6']; omega, by have := f6; simp only [List.cons_append, List.nil_append] at this; rw [this]; omega, f5⟩, fun k hk hk2 => upd_other _ _ fun e => hk2 (by rw [e]; rfl), fun k hk => .inr hk⟩
    · have e2 := of_decide_eq_true d2
      simp -implicitDefEqProofs only [go_sem, d1, wn, d2, wm]
      refine ⟨by omega, ?_⟩
      simp -implicitDefEqProofs only [go_sem, hid]
      have eA : List.take (i * 5) (flatA xs ++ rest) = flatA (xs.take i) := by rw [f1, List.append_assoc, ← f2, List.take_left]
      refine ⟨by omega, by omega, by omega, by omega, by omega, by omega, by rw [List.length_append, hfl]; omega, ?_⟩
      rw [Nat.sub_zero, eA]
      obtain ⟨Z, eZ⟩ : ∃ Z, zerosA (AV.agg [AV.s [], AV.s [], AV.s [], AV.sl [] Perm.full, AV.sl [] Perm.full]) (xs.length + 1 - i) 5 = Z := ⟨_, rfl⟩
      have lZ : Z.length = (xs.length + 1 - i) * 5 := by rw [← eZ]; simp [zerosA]
      rw [eZ]
      intro id2 cap2 rest2 hid2 hc2 hr2
      have hx : ¬ id = id2 := fun e => by rw [e, hid2] at hid; cases hid
      simp -implicitDefEqProofs only [go_sem]
      have hfv : flatA [v] = v.cells := by simp [flatA]
      refine ⟨by omega, by omega, by omega, hv, by omega, by simp only [List.length_append, f2, lZ, hr2]; omega, ?_⟩
      refine .calls noHeap [0, 1, 2, 3, 4, 5, 6, 7, 8] (fun _ _ e => by cases e) (by kernel_rfl) rfl ?_
      simp -implicitDefEqProofs only [go_sem, wi, hid, hx, Nat.sub_zero]
      have hmin : min (xs.length - i) (i + (xs.length + 1 - i) - (i + 1)) = xs.length - i := by omega
      have l0 : (flatA (xs.take i) ++ Z ++ rest2).length = (i + (xs.length + 1 - i)) * 5 + (cap2 - (i + (xs.length + 1 - i))) * 5 := by simp only [List.length_append, f2, lZ, hr2]; omega
      refine ⟨by omega, by omega, by omega, by omega, by omega, by omega, xs.drop i, by rw [hmin, List.length_drop], by rw [hmin, List.length_append, hfl, hr]; omega, ?q2, fun z hz => hsz z (List.mem_of_mem_drop hz), by rw [List.length_drop]; omega, ?lm, (by intro _ _ e; cases e), ?fim⟩
      case q2 => rw [hmin, f1, List.append_assoc, ← f2, List.drop_left, ← f3, List.take_left]
      case lm => rw [hfv]; simp only [List.length_append, List.length_take, List.length_drop, l0, hv]; omega
      rw [ins_two f2.symm rfl (by rw [hfv, hv, f2]; omega) rfl (by rw [hfv, hv, lZ, f3]; omega)]
      have e8 : flatA (xs.take i) ++ (flatA [v] ++ (flatA (xs.drop i) ++ rest2)) = flatA (xs.take i ++ ([v] ++ xs.drop i)) ++ rest2 := by rw [f4, hfv]; simp only [List.append_assoc]
      rw [e8]
      have e9 : i + (xs.length + 1 - i) = xs.length + 1 := by omega
      rw [e9] at hr2 hc2 ⊢
      refine .same (.refl _) ⟨.inr ⟨id2, hs0.none hid2, cap2, rest2, by rw [← f6]; rfl, upd_same _ _ _, by rw [hr2, f6'], by rw [f6']; omega, f5⟩, fun k hk hk2 => upd_other _ _ fun e => hk (by rw [e]; exact hid2), fun k hk => .inl (by cases hk; exact hid2)⟩
theorem ovField_ok {h : Heap} {v : AV} {id off len cap : Nat} {cs : List AV} {t : TypeId} (hv : v.cells.length = 4) (hid : h id = some (.obj cs t)) (hcs : cs ≠ []) : FnOK Tryz.prog 129 [.sl [v] .full, .ob id off len cap 4] h fun r h' => r = .v (.bool false) ∧ h' = h :=
  overlaps_ok (U := U) (tS := 60) (tR := 4) (e := 84) hU Tryz.func129 (by kernel_rfl) (by kernel_rfl) (by kernel_rfl) (by kernel_rfl) (by simp only [go_sem]) (by simp only [go_sem]) (by simp only [go_sem]; exact hv) (by simp) hid hcs
set_option maxRecDepth 100000 in
theorem insField_ok (y : AV) (xs : List AV) (v : AV) (i : Nat) (h0 h : Heap) (hw : OwE 84 h0 h 4 y xs) (hs0 : Ab.Sub h0 h) (hi : i ≤ xs.length) (hl : xs.length ≤ 1000000) (hv : v.cells.length = 4) (hva : fit v 4) :
    FnOK Tryz.prog 96 [y, .v (.int .i64 i), .sl [v] .full] h fun r h' => OwE 84 h0 h' 4 r (xs.take i ++ ([v] ++ xs.drop i)) ∧ (∀ k, h k ≠ none → nid y ≠ some k → h' k = h k) ∧ ∀ k, nid r = some k → h k = none ∨ nid y = some k := by
  rcases hw with ⟨rfl, rfl⟩ | ⟨id, hg, cap, rest, rfl, hid, hr, hc, hsz⟩
  · obtain rfl : i = 0 := by simpa using hi
    refine FnOK.body hU hm Tryz.func96 rfl (by kernel_rfl) 95 rfl [.tmp 6] rfl (Nat.le_of_ble_eq_true rfl) (fun hwf => ?_)
    simp -implicitDefEqProofs only [go_sem]
    refine ⟨by omega, by omega, hv, .ob (by simp only [go_sem]) (newOb.ow (xs := [v]) (by intro z hz; rw [List.mem_singleton.1 hz]; simp only [go_sem]; exact hv) (by simp [flatA]) rfl fun id y' h' hid hw ho => ?_)⟩
    have hw' : Ow 84 h' 4 id y' [v] := by have := hw; simp only [go_sem] at this; exact this
    simp -implicitDefEqProofs only [go_sem]
    refine .same (.refl _) ⟨.inr ⟨id, hs0.none hid, hw'⟩, fun k hk _ => ho k (fun e => hk (by rw [e]; exact hid)), fun k hk => ?_⟩
    rw [show oneOr [y'] = y' from rfl, hw'.nid] at hk
    cases hk
    exact .inl hid
  · have how : OwE 84 h0 h 4 (.ob id 0 xs.length cap 4) xs := .inr ⟨id, hg, cap, rest, rfl, hid, hr, hc, hsz⟩
    have hfl := flatA_length hsz
    refine FnOK.body hU hm Tryz.func96 rfl (by kernel_rfl) 95 rfl [.tmp 6] rfl (Nat.le_of_ble_eq_true rfl) (fun hwf => ?_)
    simp -implicitDefEqProofs only [go_sem, hid]
    refine ⟨by omega, by omega, ?_⟩
    cases d1 : ((i : Int) == (xs.length : Int))
    case true =>
      have hin : i = xs.length := by
        have : (i : Int) = (xs.length : Int) := by simpa using d1
        omega
      simp -implicitDefEqProofs only [go_sem, d1]
      subst hin
      refine ⟨by omega, ?_⟩
      refine OwE.app (U := U) (tb := 84) how hs0 (.sl (by intro z hz; rw [List.mem_singleton.1 hz]; exact hv) .full : Rd h 4 (.sl [v] .full) [v]) (by simp only [go_sem]) (by decide) (by simp only [go_sem, ne_eq, not_false_eq_true]) (by simp only [go_sem]) (by simp) (by simp only [go_sem, List.length_cons, List.length_nil]; omega) fun id2 y' h' g2 hor hw ho => ?_
      simp -implicitDefEqProofs only [go_sem]
      have e1 : xs.take xs.length ++ ([v] ++ xs.drop xs.length) = xs ++ [v] := by simp
      refine .same (.refl _) ⟨by have : OwE 84 h0 h' 4 y' (xs ++ [v]) := .inr ⟨id2, g2, hw⟩; rw [← e1] at this; exact this, fun k hk hk2 => ho k fun e => ?_, fun k hk => ?_⟩
      · rcases hor with hor | ⟨l, c, ey⟩
        · exact hk (by rw [e]; exact hor)
        · cases ey
          exact hk2 (by rw [e]; rfl)
      · rw [show oneOr [y'] = y' from rfl, hw.nid] at hk
        cases hk
        rcases hor with hor | ⟨l, c, ey⟩
        · exact .inl hor
        · cases ey; exact .inr rfl
    have hne : i < xs.length := by
      have : ¬ (i : Int) = (xs.length : Int) := by simpa using d1
      omega
    have wn : IntKind.i64.wrap ((xs.length : Int) + 1) = ((xs.length + 1 : Nat) : Int) := by rw [wr64 _ (by omega)]; omega
    have wi : IntKind.i64.wrap ((i : Int) + 1) = ((i + 1 : Nat) : Int) := by rw [wr64 _ (by omega)]; omega
    have wm : IntKind.i64.wrap (((xs.length + 1 : Nat) : Int) - (i : Int)) = ((xs.length + 1 - i : Nat) : Int) := by rw [wr64 _ (by omega)]; omega
    have f1 : flatA xs = flatA (xs.take i) ++ flatA (xs.drop i) := by rw [← flatA_app, List.take_append_drop]
    have f2 : (flatA (xs.take i)).length = i * 4 := by rw [flatA_length (sz := 4) fun z hz => hsz z (List.mem_of_mem_take hz), List.length_take, Nat.min_eq_left hi]
    have f3 : (flatA (xs.drop i)).length = (xs.length - i) * 4 := by rw [flatA_length (sz := 4) fun z hz => hsz z (List.mem_of_mem_drop hz), List.length_drop]
    have f4 : flatA (xs.take i ++ ([v] ++ xs.drop i)) = flatA (xs.take i) ++ (v.cells ++ flatA (xs.drop i)) := by simp [flatA]
    have f5 : Sized 4 (xs.take i ++ ([v] ++ xs.drop i)) := fun z hz => by
      rcases List.mem_append.1 hz with hz | hz
      · exact hsz z (List.mem_of_mem_take hz)
      · rcases List.mem_append.1 hz with hz | hz
        · rw [List.mem_singleton.1 hz]; exact hv
        · exact hsz z (List.mem_of_mem_drop hz)
    have f6 : (xs.take i ++ ([v] ++ xs.drop i)).length = xs.length + 1 := by simp; omega
    have f6' : (xs.take i ++ v :: xs.drop i).length = xs.length + 1 := f6
    cases d2 : decide ((cap : Int) < ((xs.length + 1 : Nat) : Int))
    · have e2 := of_decide_eq_false d2
      simp -implicitDefEqProofs only [go_sem, d1, wn, d2]
      refine ⟨by omega, ?_⟩
      simp -implicitDefEqProofs only [go_sem, wi]
      have hcs : flatA xs ++ rest ≠ [] := by
        intro e
        have := congrArg List.length e
        rw [List.length_append, hfl] at this
        simp at this
        omega
      refine ⟨by omega, by omega, by omega, by omega, by omega, by omega, ?_⟩
      refine (ovField_ok hv hid hcs).pthen ?_
      simp -implicitDefEqProofs only [go_sem]
      refine .calls noHeap [0, 1, 2, 3, 4, 5, 6, 7, 8] (fun _ _ e => by cases e) (by kernel_rfl) rfl ?_
      simp -implicitDefEqProofs only [go_sem, wi, hid, Nat.sub_zero]
      have hmin : min (xs.length + 1 - i) (xs.length + 1 - (i + 1)) = xs.length - i := by omega
      refine ⟨by omega, by omega, by omega, by omega, by omega, by omega, xs.drop i, by rw [hmin, List.length_drop], by rw [hmin, List.length_append, hfl, hr]; omega, ?q1, fun z hz => hsz z (List.mem_of_mem_drop hz), by rw [List.length_drop]; omega, by rw [List.length_append, hfl, hr]; omega, (by intro _ _ e; cases e), by omega, by omega, by omega, hv, by omega, ?ln, ?fin⟩
      case q1 => rw [hmin, f1, List.append_assoc, ← f2, List.drop_left, ← f3, List.take_left]
      case ln => simp only [List.length_append, List.length_take, List.length_drop, hfl, hr, f3]; omega
      have hrl : (4 : Nat) ≤ rest.length := by rw [hr]; omega
      have hfv : flatA [v] = v.cells := by simp [flatA]
      have key := ins_put (A := flatA (xs.take i)) (B := flatA (xs.drop i)) (C := rest) (X := flatA [v]) (k1 := (i + 1) * 4) (k2 := (i + 1) * 4 + (flatA (xs.drop i)).length) (k3 := i * 4) (k4 := i * 4 + (flatA [v]).length) (by rw [hfv, hv, f2]; omega) rfl f2.symm rfl (by rw [hfv, hv]; exact hrl)
      rw [← List.append_assoc (flatA (xs.take i)) (flatA (xs.drop i)) rest, ← f1] at key
      rw [key]
      have e8 : flatA (xs.take i) ++ (flatA [v] ++ (flatA (xs.drop i) ++ rest.drop (flatA [v]).length)) = flatA (xs.take i ++ ([v] ++ xs.drop i)) ++ rest.drop 4 := by rw [f4, hfv, hv]; simp only [List.append_assoc]
      rw [e8]
      refine .same (.refl _) ⟨.inr ⟨id, hg, cap, rest.drop 4, by rw [← f6]; rfl, upd_same _ _ _, by rw [List.length_drop, hr, f6']; omega, by have := f6; simp only [List.cons_append, List.nil_append] at this; rw [this]; omega, f5⟩, fun k hk hk2 => upd_other _ _ fun e => hk2 (by rw [e]; rfl), fun k hk => .inr hk⟩
    · have e2 := of_decide_eq_true d2
      simp -implicitDefEqProofs only [go_sem, d1, wn, d2, wm]
      refine ⟨by omega, ?_⟩
      simp -implicitDefEqProofs only [go_sem, hid]
      have eA : List.take (i * 4) (flatA xs ++ rest) = flatA (xs.take i) := by rw [f1, List.append_assoc, ← f2, List.take_left]
      refine ⟨by omega, by omega, by omega, by omega, by omega, by omega, by rw [List.length_append, hfl]; omega, ?_⟩
      rw [Nat.sub_zero, eA]
      obtain ⟨Z, eZ⟩ : ∃ Z, zerosA (AV.agg [AV.s [], AV.v (Value.int IntKind.i64 0), AV.v (Value.int IntKind.i64 0), AV.s []]) (xs.length + 1 - i) 4 = Z := ⟨_, rfl⟩
      have lZ : Z.length = (xs.length + 1 - i) * 4 := by rw [← eZ]; simp [zerosA]
      rw [eZ]
      intro id2 cap2 rest2 hid2 hc2 hr2
      have hx : ¬ id = id2 := fun e => by rw [e, hid2] at hid; cases hid
      simp -implicitDefEqProofs only [go_sem]
      have hfv : flatA [v] = v.cells := by simp [flatA]
      refine ⟨by omega, by omega, by omega, hv, by omega, by simp only [List.length_append, f2, lZ, hr2]; omega, ?_⟩
      refine .calls noHeap [0, 1, 2, 3, 4, 5, 6, 7, 8] (fun _ _ e => by cases e) (by kernel_rfl) rfl ?_
      simp -implicitDefEqProofs only [go_sem, wi, hid, hx, Nat.sub_zero]
      have hmin : min (xs.length - i) (i + (xs.length + 1 - i) - (i + 1)) = xs.length - i := by omega
      have l0 : (flatA (xs.take i) ++ Z ++ rest2).length = (i + (xs.length + 1 - i)) * 4 + (cap2 - (i + (xs.length + 1 - i))) * 4 := by simp only [List.length_append, f2, lZ, hr2]; omega
      refine ⟨by omega, by omega, by omega, by omega, by omega, by omega, xs.drop i, by rw [hmin, List.length_drop], by rw [hmin, List.length_append, hfl, hr]; omega, ?q2, fun z hz => hsz z (List.mem_of_mem_drop hz), by rw [List.length_drop]; omega, ?lm, (by intro _ _ e; cases e), ?fim⟩
      case q2 => rw [hmin, f1, List.append_assoc, ← f2, List.drop_left, ← f3, List.take_left]
      case lm => rw [hfv]; simp only [List.length_append, List.length_take, List.length_drop, l0, hv]; omega
      rw [ins_two f2.symm rfl (by rw [hfv, hv, f2]; omega) rfl (by rw [hfv, hv, lZ, f3]; omega)]
      have e8 : flatA (xs.take i) ++ (flatA [v] ++ (flatA (xs.drop i) ++ rest2)) = flatA (xs.take i ++ ([v] ++ xs.drop i)) ++ rest2 := by rw [f4, hfv]; simp only [List.append_assoc]
      rw [e8]
      have e9 : i + (xs.length + 1 - i) = xs.length + 1 := by omega
      rw [e9] at hr2 hc2 ⊢
      refine .same (.refl _) ⟨.inr ⟨id2, hs0.none hid2, cap2, rest2, by rw [← f6]; rfl, upd_same _ _ _, by rw [hr2, f6'], by rw [f6']; omega, f5⟩, fun k hk hk2 => upd_other _ _ fun e => hk (by rw [e]; exact hid2), fun k hk => .inl (by cases hk; exact hid2)⟩
end Go.Proofs.YtnhelgnmadbpgaaGreatDoor

set_option linter.unusedSimpArgs false
set_option linter.unusedVariables false
namespace Go.Ab
open Go
theorem At.mid {h : Heap} {A B : List AV} {x : AV} {k : Nat} {t : TypeId} (hk : h k = some (.obj (A ++ (x.cells ++ B)) t)) (o : Nat) : At h (.ptr k (A.length + o)) x o :=
  .inr ⟨k, A.length, _, t, rfl, hk, by simp only [List.length_append]; omega, by rw [List.drop_left, List.take_left]⟩
noncomputable def pick (H : Heap) (l : List Nat) : Heap := fun j => if j ∈ l then H j else none
theorem pick_at {H : Heap} {l : List Nat} {j : Nat} (hj : j ∈ l) : pick H l j = H j := if_pos hj
theorem pick_to {H h' : Heap} {l : List Nat} (hs : ∀ j ∈ l, h' j = H j) : Sub (pick H l) h' := fun j b hb => by
  by_cases hj : j ∈ l
  · rw [pick_at hj] at hb; rw [hs j hj]; exact hb
  · rw [pick, if_neg hj] at hb; cases hb
theorem pick_sub {H : Heap} {l : List Nat} : Sub (pick H l) H := pick_to fun _ _ => rfl
end Go.Ab
namespace Go.Proofs.YtnhelgnmadbpgaaGreatDoor
open Go Go.Ab Go.Bf
def caseL (c : CaseD) (f l : AV) : List AV := [.s c.id, .s c.owner, .s c.state, f, l]
theorem happens_ok {h0 h : Heap} {s : StoreD} (y1 y2 y3 y4 : AV) {k o : Nat} {A B : List AV} {t : TypeId} {c : CaseD} {f l : AV} (ho : o = A.length) (hk : h k = some (.obj (A ++ (caseL c f l ++ B)) t)) (ht : t ≠ 119)
    (hlo : OwE 119 h0 h 3 l (c.log.map hapA)) (hs0 : Ab.Sub h0 h) (hll : c.log.length ≤ 1000000) (actor what : Txt) :
    FnOK Tryz.prog 47 [.agg ([.v (.int .i64 s.tick), y1, y2, y3, y4] ++ polC s.policy ++ [.v (.int .i64 s.version)]), .ptr k o, .s actor, .s what] h fun r h' => ∃ l', OwE 119 h0 h' 3 l' ((c.log ++ [(⟨s.tick, actor, what⟩ : HapD)]).map hapA) ∧ h' k = some (.obj (A ++ (caseL c f l' ++ B)) t) ∧ (∀ j, h j ≠ none → j ≠ k → nid l ≠ some j → h' j = h j) ∧ ∀ j, nid l' = some j → h j = none ∨ nid l = some j := by
  cases hpp : s.policy with
  | mk pid pset palg ptgt prules pkids pobls =>
  have hcC : polC (.mk pid pset palg ptgt prules pkids pobls) = [.s pid, .v (.bool pset), .v (.int .i64 palg), tgtA ptgt, .sl (prules.map ruleA) .no, .sl (pkids.map polA) .no, oblsA pobls] := by simp [polC, kidsA_eq]
  refine FnOK.body hU hm Tryz.func47 rfl (by kernel_rfl) 22 rfl [] rfl (Nat.le_of_ble_eq_true rfl) (fun hwf => ?_)
  simp -implicitDefEqProofs only [go_sem, hcC, List.cons_append, List.nil_append]
  intro i1 h1
  simp -implicitDefEqProofs only [go_sem]
  obtain ⟨H, eH⟩ : ∃ H, upd h i1 (some (.obj [.v (.int .i64 s.tick), y1, y2, y3, y4, .s pid, .v (.bool pset), .v (.int .i64 palg), tgtA ptgt, .sl (prules.map ruleA) .no, .sl (pkids.map polA) .no, oblsA pobls, .v (.int .i64 s.version)] 34)) = H := ⟨_, rfl⟩
  have n1k : k ≠ i1 := fun e => by rw [e, h1] at hk; cases hk
  have g1 : H i1 = some (.obj [.v (.int .i64 s.tick), y1, y2, y3, y4, .s pid, .v (.bool pset), .v (.int .i64 palg), tgtA ptgt, .sl (prules.map ruleA) .no, .sl (pkids.map polA) .no, oblsA pobls, .v (.int .i64 s.version)] 34) := by rw [← eH, upd_same]
  have gk : H k = some (.obj (A ++ (caseL c f l ++ B)) t) := by rw [← eH, upd_other _ _ n1k]; exact hk
  have hH : Ab.Sub h H := by rw [← eH]; exact (Sub.refl h).put h1 _
  have hoj : ∀ j, j ≠ i1 → H j = h j := fun j hj => by rw [← eH]; exact upd_other _ _ hj
  rw [eH]
  clear eH
  refine .stage (hm2 k (.obj (A ++ (caseL c f l ++ B)) t) i1 (.obj [.v (.int .i64 s.tick), y1, y2, y3, y4, .s pid, .v (.bool pset), .v (.int .i64 palg), tgtA ptgt, .sl (prules.map ruleA) .no, .sl (pkids.map polA) .no, oblsA pobls, .v (.int .i64 s.version)] 34)) [0, 1, 2, 3, 4, 5, 6, 7, 8, 9, 10, 11, 12, 13] [14] (.hm2 gk g1) (by kernel_rfl) ?_
  have hc4 : (A ++ (caseL c f l ++ B))[o + 4]? = some l := by rw [ho, List.getElem?_append_right (by omega), Nat.add_sub_cancel_left]; rfl
  obtain ⟨CS, eCS⟩ : ∃ CS, A ++ (caseL c f l ++ B) = CS := ⟨_, rfl⟩
  rw [eCS] at hc4 gk ⊢
  simp -implicitDefEqProofs only [go_sem, hm2_snd, hm2_fst _ _ n1k, hc4]
  have hap1 : Rd H 3 (.sl [hapA ⟨s.tick, actor, what⟩] .full) [hapA ⟨s.tick, actor, what⟩] := .sl (by intro z hz; rw [List.mem_singleton.1 hz]; rfl) .full
  refine OwE.app (U := U) (tb := 119) (hlo.sub hH) (hs0.trans hH) hap1 (by simp only [go_sem]) (by decide) (by simp only [go_sem, ne_eq, not_false_eq_true]) (by simp only [go_sem]) (by simp) (by simp only [go_sem, List.length_cons, List.length_nil, List.length_map]; omega) fun id2 y' h' g2 hor hw ho2 => ?_
  have hor' : H id2 = none ∨ nid l = some id2 := by
    rcases hor with hor | ⟨l, c, ey⟩
    · exact .inl hor
    · exact .inr (by rw [ey]; rfl)
  have k2 : k ≠ id2 := by
    rcases hor' with hor | hor
    · exact fun e => by rw [← e, gk] at hor; cases hor
    · exact (ow_ne ((hlo.sub hH).nid hor).2.2 gk ht).symm
  have i2 : i1 ≠ id2 := by
    rcases hor' with hor | hor
    · exact fun e => by rw [← e, g1] at hor; cases hor
    · exact fun e => (hlo.nid hor).2.1 (by rw [← e]; exact h1)
  have gk' := (ho2 k k2).trans gk
  have gi' := (ho2 i1 i2).trans g1
  refine ⟨.hm2 gk' gi', ?_⟩
  simp -implicitDefEqProofs only [go_sem]
  refine ⟨noHeap, (fun _ _ e => by cases e), ?_⟩
  simp -implicitDefEqProofs only [go_sem, gk', hw.rd.fit, hw.rd.cells]
  have lCS : CS.length = A.length + (5 + B.length) := by rw [← eCS]; simp [caseL]; omega
  have e5 : List.take (o + 4) CS ++ [y'] ++ List.drop (o + 4 + 1) CS = A ++ (caseL c f y' ++ B) := by
    have := mid_put (A := A ++ [.s c.id, .s c.owner, .s c.state, f]) (B := [l]) (C := B) (X := [y']) (k := o + 4) (m := 1) (by rw [ho]; simp) rfl rfl
    simp only [← eCS, caseL, List.append_assoc, List.cons_append, List.nil_append] at this ⊢
    exact this
  rw [e5]
  refine ⟨by omega, (fun _ _ e => by cases e), .same (.refl _) ⟨y', ?_, upd_same .., fun j hj hjk hjl => ?_, fun j hj => ?_⟩⟩
  · have hw' : Ow 119 (upd h' k (some (.obj (A ++ (caseL c f y' ++ B)) t))) 3 id2 y' (c.log.map hapA ++ [hapA ⟨s.tick, actor, what⟩]) := hw.same (upd_other _ _ k2.symm)
    rw [List.map_append]
    exact .inr ⟨id2, g2, hw'⟩
  · have hj2 : j ≠ id2 := by
      rcases hor' with hor | hor
      · intro e
        have := hoj j (fun e' => hj (by rw [e']; exact h1))
        rw [e, hor] at this
        exact hj (by rw [e]; exact this.symm)
      · exact fun e => hjl (by rw [e]; exact hor)
    have hj1 : j ≠ i1 := fun e => hj (by rw [e]; exact h1)
    rw [upd_other _ _ hjk, ho2 j hj2, hoj j hj1]
  · have : id2 = j := by have := hw.nid; rw [hj] at this; exact (Option.some.inj this).symm
    rw [← this]
    rcases hor' with hor | hor
    · refine .inl ?_
      cases hh : h id2 with
      | none => rfl
      | some b => rw [hH _ _ hh] at hor; cases hor
    · exact .inr hor
theorem write1_ok {h : Heap} (f : FieldD) {k : Nat} {name : Txt} (hk : h k = some (.obj [.s name] 9)) : FnOK Tryz.prog 95 [fieldA f, .ptr k 0] h fun r h' => r = .v (.bool (geB f.name name)) ∧ h' = h := by
  refine FnOK.body hU hm Tryz.func95 rfl (by kernel_rfl) 8 rfl [.tmp 3] rfl (Nat.le_of_ble_eq_true rfl) (fun hwf => ?_)
  simp -implicitDefEqProofs only [go_sem, fieldA]
  intro i1 h1
  have n1 : k ≠ i1 := fun e => by subst e; rw [hk] at h1; cases h1
  simp -implicitDefEqProofs only [go_sem, upd_ne, n1, n1.symm, hk]
  exact .mk _ (.refl _) (.upd_new h1) ⟨rfl, rfl⟩
theorem writeD_app {fs : List FieldD} {name : Txt} {v : ValD} (hx : ¬ fs.findIdx (fun f => geB f.name name) < fs.length) : writeD fs name v = fs ++ [⟨name, v⟩] := by
  unfold writeD
  simp only [List.getElem?_eq_none (show fs.length ≤ fs.findIdx (fun f => geB f.name name) by omega)]
theorem writeD_set {fs : List FieldD} {name : Txt} {v : ValD} (hx : fs.findIdx (fun f => geB f.name name) < fs.length) (he : fs[fs.findIdx (fun f => geB f.name name)].name = name) : writeD fs name v = fs.set (fs.findIdx (fun f => geB f.name name)) ⟨name, v⟩ := by
  unfold writeD
  simp only [List.getElem?_eq_getElem hx, he, if_true]
theorem writeD_ins {fs : List FieldD} {name : Txt} {v : ValD} (hx : fs.findIdx (fun f => geB f.name name) < fs.length) (he : fs[fs.findIdx (fun f => geB f.name name)].name ≠ name) : writeD fs name v = fs.take (fs.findIdx (fun f => geB f.name name)) ++ [⟨name, v⟩] ++ fs.drop (fs.findIdx (fun f => geB f.name name)) := by
  unfold writeD
  simp only [List.getElem?_eq_getElem hx, he, if_false]
set_option maxRecDepth 100000 in
theorem write_ok {h0 h : Heap} {k o : Nat} {A B : List AV} {t : TypeId} {c : CaseD} {f l : AV} (ho : o = A.length) (hk : h k = some (.obj (A ++ (caseL c f l ++ B)) t)) (ht : t ≠ 84)
    (hfo : OwE 84 h0 h 4 f (c.fields.map fieldA)) (hs0 : Ab.Sub h0 h) (hff : c.fields.length ≤ 1000000) (name : Txt) (v : ValD) :
    FnOK Tryz.prog 49 [.ptr k o, .s name, valA v] h fun r h' => ∃ f', OwE 84 h0 h' 4 f' ((writeD c.fields name v).map fieldA) ∧ h' k = some (.obj (A ++ (caseL c f' l ++ B)) t) ∧ (∀ j, h j ≠ none → j ≠ k → nid f ≠ some j → h' j = h j) ∧ ∀ j, nid f' = some j → h j = none ∨ nid f = some j := by
  have hc3 : (A ++ (caseL c f l ++ B))[o + 3]? = some f := by rw [ho, List.getElem?_append_right (by omega), Nat.add_sub_cancel_left]; rfl
  have lCS : (A ++ (caseL c f l ++ B)).length = A.length + (5 + B.length) := by simp [caseL]; omega
  have e5 : ∀ y', List.take (o + 3) (A ++ (caseL c f l ++ B)) ++ [y'] ++ List.drop (o + 3 + 1) (A ++ (caseL c f l ++ B)) = A ++ (caseL c y' l ++ B) := fun y' => by
    have := mid_put (A := A ++ [.s c.id, .s c.owner, .s c.state]) (B := [f]) (C := l :: B) (X := [y']) (k := o + 3) (m := 1) (by rw [ho]; simp) rfl rfl
    simp only [caseL, List.append_assoc, List.cons_append, List.nil_append] at this ⊢
    exact this
  obtain ⟨CS, eCS⟩ : ∃ CS, A ++ (caseL c f l ++ B) = CS := ⟨_, rfl⟩
  rw [eCS] at hc3 hk lCS e5
  refine FnOK.body hU hm Tryz.func49 rfl (by kernel_rfl) 60 rfl [] rfl (Nat.le_of_ble_eq_true rfl) (fun hwf => ?_)
  simp -implicitDefEqProofs only [go_sem, valA]
  intro i1 h1
  simp -implicitDefEqProofs only [go_sem]
  intro i2 h2
  have n21 := ne_upd h2
  have n2 := upd_none h2
  have nk1 : k ≠ i1 := fun e => by rw [e, h1] at hk; cases hk
  have nk2 : k ≠ i2 := fun e => by rw [e, n2] at hk; cases hk
  obtain ⟨H, eH⟩ : ∃ H, upd (upd h i1 (some (.obj [.s name] 9))) i2 (some (.obj [.v (.int .i64 v.kind), .v (.int .i64 v.n), .s v.s] 38)) = H := ⟨_, rfl⟩
  have g1 : H i1 = some (.obj [.s name] 9) := by rw [← eH, upd_other _ _ n21.symm, upd_same]
  have g2 : H i2 = some (.obj [.v (.int .i64 v.kind), .v (.int .i64 v.n), .s v.s] 38) := by rw [← eH, upd_same]
  have gk : H k = some (.obj CS t) := by rw [← eH, upd_other _ _ nk2, upd_other _ _ nk1]; exact hk
  have hH : Ab.Sub h H := by rw [← eH]; exact ((Sub.refl h).put h1 _).put n2 _
  have hoj : ∀ j, h j ≠ none → H j = h j := fun j hj => by rw [← eH, upd_other _ _ (fun e => hj (by rw [e]; exact n2)), upd_other _ _ (fun e => hj (by rw [e]; exact h1))]
  rw [eH]
  clear eH
  simp -implicitDefEqProofs only [go_sem, gk, hc3]
  refine (ixField_ok f _ c.fields (fun f => geB f.name name) _ [.ptr i1 0] _ (hfo.sub hH).rd (by simp) (by simp; omega) (agg_map (fun _ => rfl) _) fun i a b => by
    rw [List.getElem_map]; exact write1_ok _ g1).pthen ?_
  have hns : ∀ G, Ab.Sub noHeap G := fun G _ _ e => by cases e
  by_cases hx : c.fields.findIdx (fun f => geB f.name name) < c.fields.length
  · obtain ⟨i, ei⟩ : ∃ i, c.fields.findIdx (fun f => geB f.name name) = i := ⟨_, rfl⟩
    have hxm : i < (c.fields.map fieldA).length := by rw [← ei]; simpa using hx
    have e1 : ixD (fun f => geB f.name name) c.fields = (i : Nat) := by rw [ixD, ei]; exact if_pos (by rw [← ei]; exact hx)
    have d1 : decide (((i : Nat) : Int) < 0) = false := decide_eq_false (by omega)
    rw [e1]
    simp -implicitDefEqProofs only [go_sem, d1]
    refine ⟨.of (by kernel_rfl), ?_⟩
    simp -implicitDefEqProofs only [go_sem, gk, hc3, g1]
    refine (hfo.sub hH).rd.idx (e := 84) i rfl hxm uField (by decide) fun p hp1 => ?_
    simp -implicitDefEqProofs only [go_sem]
    refine hp1.field (f := 0) (off := 0) (t := 9) rfl uStr fun p2 hp2 => ?_
    have hld := hp2.part (U := U) (ty := 9) uStr (by rw [List.getElem_map, uStr1]; exact Nat.le_of_ble_eq_true rfl)
    simp -implicitDefEqProofs only [go_sem, hld, List.getElem_map, fieldA, g1]
    have hxi : i < c.fields.length := by rw [← ei]; exact hx
    cases d2 : (c.fields[i].name == name)
    · have hne : c.fields[i].name ≠ name := by simpa using d2
      simp -implicitDefEqProofs only [go_sem, d2]
      refine .stage (pick H [k, i1, i2]) [0, 1, 2, 3, 4, 5, 6, 7, 8, 9, 10, 11, 12] [13] pick_sub (by kernel_rfl) ?_
      simp -implicitDefEqProofs only [go_sem, pick_at (show k ∈ [k, i1, i2] by simp), pick_at (show i1 ∈ [k, i1, i2] by simp), pick_at (show i2 ∈ [k, i1, i2] by simp), gk, g1, g2, hc3]
      refine (insField_ok f _ (fieldA ⟨name, v⟩) i h0 H (hfo.sub hH) (hs0.trans hH) (by omega) (by simpa using hff) rfl (by simp [fieldA, Ab.fit])).mono fun f' H1 ⟨w1, fr, ap⟩ => ?_
      have nk : nid f ≠ some k := fun e => ow_ne ((hfo.sub hH).nid e).2.2 gk ht rfl
      have n1' : nid f ≠ some i1 := fun e => (hfo.nid e).2.1 h1
      have n2' : nid f ≠ some i2 := fun e => (hfo.nid e).2.1 n2
      have gk' : H1 k = some (.obj CS t) := (fr k (by rw [gk]; simp) nk).trans gk
      refine ⟨pick_to fun j hj => ?_, ?_⟩
      · simp only [List.mem_cons, List.not_mem_nil, or_false] at hj
        rcases hj with rfl | rfl | rfl
        · exact fr _ (by rw [gk]; simp) nk
        · exact fr _ (by rw [g1]; simp) n1'
        · exact fr _ (by rw [g2]; simp) n2'
      simp -implicitDefEqProofs only [go_sem]
      refine ⟨noHeap, hns _, ?_⟩
      simp -implicitDefEqProofs only [go_sem, gk', w1.rd.fit, w1.rd.cells]
      have hk2 : nid f' ≠ some k := fun e => by
        rcases ap k e with h | h
        · rw [gk] at h; cases h
        · exact nk h
      have em : List.take i (c.fields.map fieldA) ++ ([fieldA ⟨name, v⟩] ++ List.drop i (c.fields.map fieldA)) = (writeD c.fields name v).map fieldA := by
        rw [writeD_ins hx (by simp only [ei]; exact hne), ei]
        simp [List.map_append, List.map_take, List.map_drop]
      rw [e5]
      rw [em] at w1
      refine ⟨by omega, hns _, .same (.refl _) ⟨f', w1.keep fun id e => upd_other _ _ fun e' => hk2 (by rw [← e']; exact e), upd_same .., fun j hj hjk hjl => ?_, fun j hj => ?_⟩⟩
      · rw [upd_other _ _ hjk, fr j (by rw [hoj j hj]; exact hj) hjl, hoj j hj]
      · rcases ap j hj with h | h
        · exact .inl (hH.none h)
        · exact .inr h
    · have heq : c.fields[i].name = name := by simpa using d2
      simp -implicitDefEqProofs only [go_sem, d2]
      refine ⟨.of (by kernel_rfl), ?_⟩
      simp -implicitDefEqProofs only [go_sem, gk, g2, hc3]
      obtain ⟨id1, hg1, o1⟩ := (hfo.sub hH).ow (by intro e; rw [e] at hxm; cases hxm)
      have t1 : id1 ≠ k := ow_ne o1 gk ht
      have o1' := o1
      obtain ⟨cap, rest, ey, hid, hr, hcap, hsz⟩ := o1'
      refine o1.idx (U := U) (e := 84) i rfl hxm uField (by decide) ?_
      simp -implicitDefEqProofs only [go_sem, hid]
      have hxl := List.getElem_map (f := fieldA) (l := c.fields) (i := i) (h := hxm)
      have e2 : List.take (i * 4 + 1) (flatA (c.fields.map fieldA) ++ rest) ++ [.v (.int .i64 v.kind), .v (.int .i64 v.n), .s v.s] ++ List.drop (i * 4 + 1 + 3) (flatA (c.fields.map fieldA) ++ rest) = flatA ((writeD c.fields name v).map fieldA) ++ rest := by
        refine (put_flat hsz i hxm 1 [.v (.int .i64 v.kind), .v (.int .i64 v.n), .s v.s] (Nat.le_of_ble_eq_true rfl)).trans ?_
        rw [writeD_set hx (by simp only [ei]; exact heq), ei, List.map_set, hxl]
        have : AV.agg (over (fieldA c.fields[i]).cells 1 [.v (.int .i64 v.kind), .v (.int .i64 v.n), .s v.s]) = fieldA ⟨name, v⟩ := by rw [← heq]; rfl
        rw [this]
      have lw : (writeD c.fields name v).length = c.fields.length := by rw [writeD_set hx (by simp only [ei]; exact heq), List.length_set]
      rw [e2]
      refine ⟨by rw [List.length_append, flatA_length hsz]; omega, .same (.refl _) ⟨f, .inr ⟨id1, hg1, cap, rest, by rw [ey]; simp [lw], upd_same .., by rw [hr]; simp [lw], by rw [List.length_map] at hcap ⊢; omega, sized_map (f := fieldA) (n := 4) (fun _ => rfl) _⟩, (upd_other _ _ t1.symm).trans (by rw [eCS]; exact gk), fun j hj hjk hjl => ?_, fun j hj => .inr hj⟩⟩
      have : j ≠ id1 := fun e => hjl (by rw [e]; exact o1.nid)
      rw [upd_other _ _ this, hoj j hj]
  · have e1 : ixD (fun f => geB f.name name) c.fields = -1 := by rw [ixD]; exact if_neg hx
    have d1 : decide ((-1 : Int) < 0) = true := rfl
    rw [e1]
    simp -implicitDefEqProofs only [go_sem, d1]
    refine .stage (pick H [k, i1, i2]) [0, 1, 2, 3, 4, 5, 6, 7, 8, 9, 10, 11] [12] pick_sub (by kernel_rfl) ?_
    simp -implicitDefEqProofs only [go_sem, pick_at (show k ∈ [k, i1, i2] by simp), pick_at (show i1 ∈ [k, i1, i2] by simp), pick_at (show i2 ∈ [k, i1, i2] by simp), gk, g1, g2, hc3]
    have hap1 : Rd H 4 (.sl [fieldA ⟨name, v⟩] .full) [fieldA ⟨name, v⟩] := .sl (by intro z hz; rw [List.mem_singleton.1 hz]; rfl) .full
    refine OwE.app (U := U) (tb := 84) (hfo.sub hH) (hs0.trans hH) hap1 (by simp only [go_sem]) (by decide) (by simp only [go_sem, ne_eq, not_false_eq_true]) (by simp only [go_sem]) (by simp) (by simp only [go_sem, List.length_cons, List.length_nil, List.length_map]; omega) fun id2 y' h' g3 hor hw ho2 => ?_
    have hor' : H id2 = none ∨ nid f = some id2 := by
      rcases hor with hor | ⟨l, c, ey⟩
      · exact .inl hor
      · exact .inr (by rw [ey]; rfl)
    have k2 : k ≠ id2 := by
      rcases hor' with hor | hor
      · exact fun e => by rw [← e, gk] at hor; cases hor
      · exact (ow_ne ((hfo.sub hH).nid hor).2.2 gk ht).symm
    have j1 : i1 ≠ id2 := by
      rcases hor' with hor | hor
      · exact fun e => by rw [← e, g1] at hor; cases hor
      · exact fun e => (hfo.nid hor).2.1 (by rw [← e]; exact h1)
    have j2 : i2 ≠ id2 := by
      rcases hor' with hor | hor
      · exact fun e => by rw [← e, g2] at hor; cases hor
      · exact fun e => (hfo.nid hor).2.1 (by rw [← e]; exact n2)
    refine ⟨pick_to fun j hj => ho2 j ?_, ?_⟩
    · simp only [List.mem_cons, List.not_mem_nil, or_false] at hj
      rcases hj with rfl | rfl | rfl
      · exact k2
      · exact j1
      · exact j2
    have gk' := (ho2 k k2).trans gk
    simp -implicitDefEqProofs only [go_sem]
    refine ⟨noHeap, hns _, ?_⟩
    simp -implicitDefEqProofs only [go_sem, gk', hw.rd.fit, hw.rd.cells]
    rw [e5, writeD_app hx]
    refine ⟨by omega, hns _, .same (.refl _) ⟨y', ?_, upd_same .., fun j hj hjk hjl => ?_, fun j hj => ?_⟩⟩
    · have hw' : Ow 84 (upd h' k (some (.obj (A ++ (caseL c y' l ++ B)) t))) 4 id2 y' (c.fields.map fieldA ++ [fieldA ⟨name, v⟩]) := hw.same (upd_other _ _ k2.symm)
      rw [List.map_append]
      exact .inr ⟨id2, g3, hw'⟩
    · have hj2 : j ≠ id2 := by
        rcases hor' with hor | hor
        · intro e
          have := hoj j hj
          rw [e, hor] at this
          exact hj (by rw [e]; exact this.symm)
        · exact fun e => hjl (by rw [e]; exact hor)
      rw [upd_other _ _ hjk, ho2 j hj2, hoj j hj]
    · have : id2 = j := by have := hw.nid; rw [hj] at this; exact (Option.some.inj this).symm
      rw [← this]
      rcases hor' with hor | hor
      · exact .inl (hH.none hor)
      · exact .inr hor
end Go.Proofs.YtnhelgnmadbpgaaGreatDoor

set_option linter.unusedSimpArgs false
set_option linter.unusedVariables false
namespace Go.Proofs.YtnhelgnmadbpgaaGreatDoor
open Go Go.Ab Go.Bf
theorem caseD_at {cs : List CaseD} {id : Txt} (h : thereD cs id = true) : caseD cs id = cs[findD cs id]'(thereD_lt h) := by
  unfold caseD
  rw [if_pos h, List.getD_eq_getElem?_getD, List.getElem?_eq_getElem (thereD_lt h)]; rfl
theorem caseD_no {cs : List CaseD} {id : Txt} (h : thereD cs id = false) : caseD cs id = zeroCase := by
  unfold caseD
  rw [if_neg (by simp [h])]
theorem frz_empty {g h : Heap} {p : Perm} : Frz g h (.sl [] p) (.sl [] .no) := .sl _ _ _ rfl (fun i h1 => by cases h1) (fun i h1 => by cases h1)
theorem frz_case {g h : Heap} (c : CaseD) : Frz g h (caseA c) (caseA c) := .agg _ _ rfl fun j a b => by
  rcases j with _ | _ | _ | _ | _ | j
  · exact .pure rfl
  · exact .pure rfl
  · exact .pure rfl
  · exact .pure (show pureB (fieldsA c.fields) = true from pureL_map (fun _ => rfl) c.fields)
  · exact .pure (show pureB (logA c.log) = true from pureL_map (fun _ => rfl) c.log)
  · simp [caseC] at a; omega
set_option maxRecDepth 100000 in
theorem case_ok {h : Heap} {x : AV} {s : StoreD} (hb : RdS h x s) (id : Txt) (hf : Few s) : FnOK Tryz.prog 27 [x, .s id] h fun r h' => r = .tup [caseA (caseD s.cases id), .v (.bool (thereD s.cases id))] ∧ h' = h :=
  FnOK.freeze fun g hg _ => by
  replace hb := hb.sub hg
  have hb0 := hb
  obtain ⟨y1, y2, y3, y4, rfl, ⟨xs, hc, hn, hcs⟩, h2, h3, h4⟩ := hb
  cases hpp : s.policy with
  | mk pid pset palg ptgt prules pkids pobls =>
  have hcC : polC (.mk pid pset palg ptgt prules pkids pobls) = [.s pid, .v (.bool pset), .v (.int .i64 palg), tgtA ptgt, .sl (prules.map ruleA) .no, .sl (pkids.map polA) .no, oblsA pobls] := by simp [polC, kidsA_eq]
  rw [hpp, hcC] at hb0
  refine FnOK.body hU hm Tryz.func27 rfl (by kernel_rfl) 23 rfl [.cell 4 63, .tmp 5] rfl (Nat.le_of_ble_eq_true rfl) (fun hwf => ?_)
  simp -implicitDefEqProofs only [go_sem, hcC, List.cons_append, List.nil_append]
  intro i1 h1
  simp -implicitDefEqProofs only [go_sem]
  intro i2 h2'
  have n21 := ne_upd h2'
  have n2 := upd_none h2'
  simp -implicitDefEqProofs only [go_sem, upd_ne, n21, n21.symm]
  have hs : ∀ a b, Ab.Sub g (upd (upd g i1 a) i2 b) := fun a b => ((Sub.refl g).put h1 a).put n2 b
  refine (find_ok (hb0.sub (hs _ _)) id hf.cases).pthen ?_
  cases d1 : thereD s.cases id
  · simp -implicitDefEqProofs only [go_sem, upd_ne, n21, n21.symm]
    refine .mk _ (.refl _) (.refl _) ⟨hs _ _, .tup [.agg [.s [], .s [], .s [], .sl [] .no, .sl [] .no], .v (.bool false)], .tup _ _ rfl fun i a b => ?_, by rw [caseD_no d1]; rfl⟩
    rcases i with _ | _ | i
    · refine .agg _ _ rfl fun j c d => ?_
      rcases j with _ | _ | _ | _ | _ | j
      · exact .pure rfl
      · exact .pure rfl
      · exact .pure rfl
      · exact frz_empty
      · exact frz_empty
      · simp at c; omega
    · exact .pure rfl
    · simp at a; omega
  · have hlt := thereD_lt d1
    have hltx : findD s.cases id < xs.length := by omega
    obtain ⟨f, l, ex, hfl, hlg⟩ := hcs _ hltx hlt
    simp -implicitDefEqProofs only [go_sem, upd_ne, n21, n21.symm]
    refine hc.idx (e := 63) (findD s.cases id) rfl hltx uCase (by decide) fun p hp1 => ?_
    have hld := fun a b => (hp1.sub (hs a b)).all (U := U) (ty := 63) (by simp only [go_sem]) (by rw [uCase, ex]; rfl) (by simp only [go_sem]; rw [ex]; rfl)
    simp -implicitDefEqProofs only [go_sem, hld, upd_ne, n21, n21.symm]
    refine (ownCasep_ok ((hcs _ hltx hlt).sub (hs _ _)) (hf.fields _ (List.getElem_mem hlt)) (hf.log _ (List.getElem_mem hlt))).pthen ?_
    rw [← caseD_at d1]
    simp -implicitDefEqProofs only [go_sem, caseA, caseC, fieldsA, logA, upd_ne, n21, n21.symm]
    refine .mk _ (.refl _) (.refl _) ⟨hs _ _, _, .tup _ _ rfl fun i a b => ?_, rfl⟩
    rcases i with _ | _ | i
    · exact frz_case _
    · exact .pure rfl
    · simp at a; omega
set_option maxRecDepth 100000 in
theorem readyCase_ok {h : Heap} {x : AV} {s : StoreD} (hb : RdS h x s) (o : OpD) (hf : Few s) : FnOK Tryz.prog 63 [x, opA o] h fun r h' => r = .v (.int .i64 (readyCaseD s o)) ∧ h' = h := by
  have hb0 := hb
  obtain ⟨y1, y2, y3, y4, rfl, ⟨xs, hc, hn, hcs⟩, h2, h3, h4⟩ := hb
  cases hpp : s.policy with
  | mk pid pset palg ptgt prules pkids pobls =>
  have hcC : polC (.mk pid pset palg ptgt prules pkids pobls) = [.s pid, .v (.bool pset), .v (.int .i64 palg), tgtA ptgt, .sl (prules.map ruleA) .no, .sl (pkids.map polA) .no, oblsA pobls] := by simp [polC, kidsA_eq]
  rw [hpp, hcC] at hb0
  refine FnOK.body hU hm Tryz.func63 rfl (by kernel_rfl) 67 rfl [.tmp 4] rfl (Nat.le_of_ble_eq_true rfl) (fun hwf => ?_)
  simp -implicitDefEqProofs only [go_sem, hcC, opA, opC, List.cons_append, List.nil_append]
  intro i1 h1
  simp -implicitDefEqProofs only [go_sem]
  intro i2 h2'
  have n21 := ne_upd h2'
  have n2 := upd_none h2'
  simp -implicitDefEqProofs only [go_sem, upd_ne, n21, n21.symm]
  have hs : ∀ a b, Ab.Sub h (upd (upd h i1 a) i2 b) := fun a b => ((Sub.refl h).put h1 a).put n2 b
  refine (case_ok (hb0.sub (hs _ _)) o.case hf).pthen ?_
  simp -implicitDefEqProofs only [go_sem, caseA, caseC, fieldsA, logA]
  intro i3 h3'
  have n32 := ne_upd h3'
  have h3b := upd_none h3'
  have n31 := ne_upd h3b
  have n3 := upd_none h3b
  have hs3 : ∀ a b d, Ab.Sub h (upd (upd (upd h i1 a) i2 b) i3 d) := fun a b d => (((Sub.refl h).put h1 a).put n2 b).put n3 d
  have hA := (fun a b d => Sub.trans (Sub.refl h) (hs3 a b d))
  simp -implicitDefEqProofs only [go_sem, upd_ne, n21, n21.symm, n31, n31.symm, n32, n32.symm]
  have hfl : (caseD s.cases o.case).fields.length ≤ 1000000000 := by
    unfold caseD
    split
    · rename_i ht
      have hlt := thereD_lt ht
      rw [List.getD_eq_getElem?_getD, List.getElem?_eq_getElem hlt]
      exact Nat.le_trans (hf.fields _ (List.getElem_mem hlt)) (by decide)
    · exact Nat.zero_le _
  cases d1 : thereD s.cases o.case
  · simp -implicitDefEqProofs only [go_sem, upd_ne, n21, n21.symm, n31, n31.symm, n32, n32.symm]
    exact .mk _ (.refl _) (hs3 _ _ _) ⟨by simp only [readyCaseD, d1]; rfl, rfl⟩
  · simp -implicitDefEqProofs only [go_sem, upd_ne, n21, n21.symm, n31, n31.symm, n32, n32.symm]
    cases k3 : (o.kind == 3)
    · have p3 : o.kind ≠ 3 := by simpa using k3
      simp -implicitDefEqProofs only [go_sem, upd_ne, n21, n21.symm, n31, n31.symm, n32, n32.symm, List.length_map, k3]
      cases k2 : (o.kind == 2)
      · have p2 : o.kind ≠ 2 := by simpa using k2
        have k2n : (o.kind != 2) = true := by simp [bne, k2]
        cases d256 : decide ((256 : Int) ≤ ((caseD s.cases o.case).log.length : Int))
        · have p256 : ¬ 256 ≤ (caseD s.cases o.case).log.length := by have := of_decide_eq_false d256; omega
          simp -implicitDefEqProofs only [go_sem, upd_ne, n21, n21.symm, n31, n31.symm, n32, n32.symm, List.length_map, k3, k2, k2n, d256]
          cases k4 : (o.kind == 4)
          · have p4 : o.kind ≠ 4 := by simpa using k4
            simp -implicitDefEqProofs only [go_sem, upd_ne, n21, n21.symm, n31, n31.symm, n32, n32.symm, List.length_map, k3, k2, k2n, d256, k4]
            exact .mk _ (.refl _) (hs3 _ _ _) ⟨by simp [readyCaseD, d1, p3, p2, p256, p4, oneOr], rfl⟩
          · have p4 : o.kind = 4 := by simpa using k4
            simp -implicitDefEqProofs only [go_sem, upd_ne, n21, n21.symm, n31, n31.symm, n32, n32.symm, List.length_map, k3, k2, k2n, d256, k4]
            refine (follows_ok _ _ _).pthen ?_
            cases dfo : followsD (caseD s.cases o.case).state o.to
            · simp -implicitDefEqProofs only [go_sem, upd_ne, n21, n21.symm, n31, n31.symm, n32, n32.symm, List.length_map, k3, k2, k2n, d256, k4, dfo]
              exact .mk _ (.refl _) (hs3 _ _ _) ⟨by simp [readyCaseD, d1, p3, p2, p256, p4, dfo, oneOr], rfl⟩
            · simp -implicitDefEqProofs only [go_sem, upd_ne, n21, n21.symm, n31, n31.symm, n32, n32.symm, List.length_map, k3, k2, k2n, d256, k4, dfo]
              exact .mk _ (.refl _) (hs3 _ _ _) ⟨by simp [readyCaseD, d1, p3, p2, p256, p4, dfo, oneOr], rfl⟩
        · have p256 : 256 ≤ (caseD s.cases o.case).log.length := by have := of_decide_eq_true d256; omega
          simp -implicitDefEqProofs only [go_sem, upd_ne, n21, n21.symm, n31, n31.symm, n32, n32.symm, List.length_map, k3, k2, k2n, d256]
          exact .mk _ (.refl _) (hs3 _ _ _) ⟨by simp [readyCaseD, d1, p3, p2, p256, oneOr], rfl⟩
      · have p2 : o.kind = 2 := by simpa using k2
        have k2n : (o.kind != 2) = false := by simp [bne, k2]
        simp -implicitDefEqProofs only [go_sem, upd_ne, n21, n21.symm, n31, n31.symm, n32, n32.symm, List.length_map, k3, k2, k2n]
        cases k4 : (o.kind == 4)
        · have p4 : o.kind ≠ 4 := by simpa using k4
          simp -implicitDefEqProofs only [go_sem, upd_ne, n21, n21.symm, n31, n31.symm, n32, n32.symm, List.length_map, k3, k2, k2n, k4]
          exact .mk _ (.refl _) (hs3 _ _ _) ⟨by simp [readyCaseD, d1, p3, p2, p4, oneOr], rfl⟩
        · have p4 : o.kind = 4 := by simpa using k4
          omega
    · have p3 : o.kind = 3 := by simpa using k3
      cases d16 : decide ((16 : Int) ≤ ((caseD s.cases o.case).fields.length : Int))
      · have p16 : ¬ 16 ≤ (caseD s.cases o.case).fields.length := by have := of_decide_eq_false d16; omega
        simp -implicitDefEqProofs only [go_sem, upd_ne, n21, n21.symm, n31, n31.symm, n32, n32.symm, List.length_map, k3, d16]
        cases k2 : (o.kind == 2)
        · have p2 : o.kind ≠ 2 := by simpa using k2
          have k2n : (o.kind != 2) = true := by simp [bne, k2]
          cases d256 : decide ((256 : Int) ≤ ((caseD s.cases o.case).log.length : Int))
          · have p256 : ¬ 256 ≤ (caseD s.cases o.case).log.length := by have := of_decide_eq_false d256; omega
            simp -implicitDefEqProofs only [go_sem, upd_ne, n21, n21.symm, n31, n31.symm, n32, n32.symm, List.length_map, k3, d16, k2, k2n, d256]
            cases dcl : ((caseD s.cases o.case).state == closedT)
            · have pcl : (caseD s.cases o.case).state ≠ closedT := by simpa using dcl
              simp only [closedT] at dcl
              simp -implicitDefEqProofs only [go_sem, upd_ne, n21, n21.symm, n31, n31.symm, n32, n32.symm, List.length_map, k3, d16, k2, k2n, d256, dcl]
              cases k4 : (o.kind == 4)
              · have p4 : o.kind ≠ 4 := by simpa using k4
                simp -implicitDefEqProofs only [go_sem, upd_ne, n21, n21.symm, n31, n31.symm, n32, n32.symm, List.length_map, k3, d16, k2, k2n, d256, dcl, k4]
                exact .mk _ (.refl _) (hs3 _ _ _) ⟨by simp [readyCaseD, d1, p3, p16, p2, p256, pcl, p4, oneOr], rfl⟩
              · have p4 : o.kind = 4 := by simpa using k4
                omega
            · have pcl : (caseD s.cases o.case).state = closedT := by simpa using dcl
              simp only [closedT] at dcl
              simp -implicitDefEqProofs only [go_sem, upd_ne, n21, n21.symm, n31, n31.symm, n32, n32.symm, List.length_map, k3, d16, k2, k2n, d256, dcl]
              exact .mk _ (.refl _) (hs3 _ _ _) ⟨by simp [readyCaseD, d1, p3, p16, p2, p256, pcl, oneOr], rfl⟩
          · have p256 : 256 ≤ (caseD s.cases o.case).log.length := by have := of_decide_eq_true d256; omega
            simp -implicitDefEqProofs only [go_sem, upd_ne, n21, n21.symm, n31, n31.symm, n32, n32.symm, List.length_map, k3, d16, k2, k2n, d256]
            exact .mk _ (.refl _) (hs3 _ _ _) ⟨by simp [readyCaseD, d1, p3, p16, p2, p256, oneOr], rfl⟩
        · have p2 : o.kind = 2 := by simpa using k2
          omega
      · have p16 : 16 ≤ (caseD s.cases o.case).fields.length := by have := of_decide_eq_true d16; omega
        simp -implicitDefEqProofs only [go_sem, upd_ne, n21, n21.symm, n31, n31.symm, n32, n32.symm, List.length_map, k3, d16]
        refine (field_ok (show RdC _ (.agg [.s (caseD s.cases o.case).id, .s (caseD s.cases o.case).owner, .s (caseD s.cases o.case).state, AV.sl ((caseD s.cases o.case).fields.map fieldA) .no, AV.sl ((caseD s.cases o.case).log.map hapA) .no]) (caseD s.cases o.case) from rdC _ _) o.field hfl).pthen ?_
        simp -implicitDefEqProofs only [go_sem, upd_ne, n21, n21.symm, n31, n31.symm, n32, n32.symm, List.length_map, k3, d16, valA]
        cases dv : ((fieldD (caseD s.cases o.case).fields o.field).kind == (0 : Int) && ((fieldD (caseD s.cases o.case).fields o.field).n == (0 : Int) && (fieldD (caseD s.cases o.case).fields o.field).s == ([] : Txt)))
        · have pv : eqV (fieldD (caseD s.cases o.case).fields o.field) zeroVal = false := dv
          simp -implicitDefEqProofs only [go_sem, upd_ne, n21, n21.symm, n31, n31.symm, n32, n32.symm, List.length_map, k3, d16, dv]
          cases k2 : (o.kind == 2)
          · have p2 : o.kind ≠ 2 := by simpa using k2
            have k2n : (o.kind != 2) = true := by simp [bne, k2]
            cases d256 : decide ((256 : Int) ≤ ((caseD s.cases o.case).log.length : Int))
            · have p256 : ¬ 256 ≤ (caseD s.cases o.case).log.length := by have := of_decide_eq_false d256; omega
              simp -implicitDefEqProofs only [go_sem, upd_ne, n21, n21.symm, n31, n31.symm, n32, n32.symm, List.length_map, k3, d16, dv, k2, k2n, d256]
              cases dcl : ((caseD s.cases o.case).state == closedT)
              · have pcl : (caseD s.cases o.case).state ≠ closedT := by simpa using dcl
                simp only [closedT] at dcl
                simp -implicitDefEqProofs only [go_sem, upd_ne, n21, n21.symm, n31, n31.symm, n32, n32.symm, List.length_map, k3, d16, dv, k2, k2n, d256, dcl]
                cases k4 : (o.kind == 4)
                · have p4 : o.kind ≠ 4 := by simpa using k4
                  simp -implicitDefEqProofs only [go_sem, upd_ne, n21, n21.symm, n31, n31.symm, n32, n32.symm, List.length_map, k3, d16, dv, k2, k2n, d256, dcl, k4]
                  exact .mk _ (.refl _) (hs3 _ _ _) ⟨by simp [readyCaseD, d1, p3, p16, pv, p2, p256, pcl, p4, oneOr], rfl⟩
                · have p4 : o.kind = 4 := by simpa using k4
                  omega
              · have pcl : (caseD s.cases o.case).state = closedT := by simpa using dcl
                simp only [closedT] at dcl
                simp -implicitDefEqProofs only [go_sem, upd_ne, n21, n21.symm, n31, n31.symm, n32, n32.symm, List.length_map, k3, d16, dv, k2, k2n, d256, dcl]
                exact .mk _ (.refl _) (hs3 _ _ _) ⟨by simp [readyCaseD, d1, p3, p16, pv, p2, p256, pcl, oneOr], rfl⟩
            · have p256 : 256 ≤ (caseD s.cases o.case).log.length := by have := of_decide_eq_true d256; omega
              simp -implicitDefEqProofs only [go_sem, upd_ne, n21, n21.symm, n31, n31.symm, n32, n32.symm, List.length_map, k3, d16, dv, k2, k2n, d256]
              exact .mk _ (.refl _) (hs3 _ _ _) ⟨by simp [readyCaseD, d1, p3, p16, pv, p2, p256, oneOr], rfl⟩
          · have p2 : o.kind = 2 := by simpa using k2
            omega
        · have pv : eqV (fieldD (caseD s.cases o.case).fields o.field) zeroVal = true := dv
          simp -implicitDefEqProofs only [go_sem, upd_ne, n21, n21.symm, n31, n31.symm, n32, n32.symm, List.length_map, k3, d16, dv]
          exact .mk _ (.refl _) (hs3 _ _ _) ⟨by simp [readyCaseD, d1, p3, p16, pv, oneOr], rfl⟩
set_option maxRecDepth 100000 in
theorem readyClose_ok {h : Heap} {x : AV} {s : StoreD} (hb : RdS h x s) (o : OpD) (hf : Few s) (h0 : 0 < o.review) (hr : o.review ≤ 9223372036854775807) : FnOK Tryz.prog 64 [x, opA o] h fun r h' => r = .v (.int .i64 (readyCloseD s o)) ∧ h' = h := by
  obtain ⟨y1, y2, y3, y4, rfl, ⟨xs, hc, hn, hcs⟩, h2, h3, h4⟩ := hb
  cases hpp : s.policy with
  | mk pid pset palg ptgt prules pkids pobls =>
  have hcC : polC (.mk pid pset palg ptgt prules pkids pobls) = [.s pid, .v (.bool pset), .v (.int .i64 palg), tgtA ptgt, .sl (prules.map ruleA) .no, .sl (pkids.map polA) .no, oblsA pobls] := by simp [polC, kidsA_eq]
  have hfr := hf.reviews
  refine FnOK.body hU hm Tryz.func64 rfl (by kernel_rfl) 35 rfl [.tmp 4] rfl (Nat.le_of_ble_eq_true rfl) (fun hwf => ?_)
  simp -implicitDefEqProofs only [go_sem, hcC, opA, opC, List.cons_append, List.nil_append]
  intro i1 h1
  simp -implicitDefEqProofs only [go_sem]
  intro i2 h2'
  have n21 := ne_upd h2'
  have n2 := upd_none h2'
  have hs : ∀ a b, Ab.Sub h (upd (upd h i1 a) i2 b) := fun a b => ((Sub.refl h).put h1 a).put n2 b
  simp -implicitDefEqProofs only [go_sem, upd_ne, n21, n21.symm, h2.len, List.length_map]
  obtain ⟨n, en⟩ : ∃ n : Nat, o.review = ((n : Nat) : Int) + 1 := ⟨(o.review - 1).toNat, by omega⟩
  have e1 : revAt s.reviews o.review = s.reviews[n]? := by
    unfold revAt
    rw [if_pos (by omega), show (o.review - 1).toNat = n by omega]
  have w1 : IntKind.i64.wrap (o.review - 1) = ((n : Nat) : Int) := by rw [wr64 _ (by omega)]; omega
  cases dlt : decide ((s.reviews.length : Int) < o.review)
  · have hlt : n < s.reviews.length := by have := of_decide_eq_false dlt; omega
    have hgl : revAt s.reviews o.review = some s.reviews[n] := by rw [e1, List.getElem?_eq_getElem hlt]
    simp -implicitDefEqProofs only [go_sem, upd_ne, n21, n21.symm, dlt, w1]
    refine h2.idx (e := 105) n rfl (by simpa using hlt) (by simp only [go_sem]) (by decide) fun p hp1 => ?_
    simp -implicitDefEqProofs only [go_sem, upd_ne, n21, n21.symm, dlt, w1]
    refine hp1.field (f := 6) (off := 6) (t := 4) rfl (by simp only [go_sem]) fun p2 hp2 => ?_
    have hld := fun a b => (hp2.sub (hs a b)).part (U := U) (ty := 4) (by simp only [go_sem]) (by rw [List.getElem_map, show (U 4).sz = 1 by simp only [go_sem]]; exact Nat.le_of_ble_eq_true rfl)
    simp -implicitDefEqProofs only [go_sem, hld, List.getElem_map, revA, upd_ne, n21, n21.symm, dlt, w1]
    cases dop : s.reviews[n].isOpen
    · simp -implicitDefEqProofs only [go_sem, upd_ne, n21, n21.symm, dlt, dop]
      exact .mk _ (.refl _) (hs _ _) ⟨by simp [readyCloseD, hgl, dop, oneOr], rfl⟩
    · simp -implicitDefEqProofs only [go_sem, upd_ne, n21, n21.symm, dlt, dop]
      refine ⟨.of (by kernel_rfl), ?_⟩
      simp -implicitDefEqProofs only [go_sem, upd_ne, n21, n21.symm, dlt, w1]
      refine h2.idx (e := 105) n rfl (by simpa using hlt) (by simp only [go_sem]) (by decide) fun p hp1 => ?_
      simp -implicitDefEqProofs only [go_sem, upd_ne, n21, n21.symm, dlt, w1]
      refine hp1.field (f := 2) (off := 2) (t := 9) rfl uStr fun p2 hp2 => ?_
      have hld := fun a b => (hp2.sub (hs a b)).part (U := U) (ty := 9) uStr (by rw [List.getElem_map, uStr1]; exact Nat.le_of_ble_eq_true rfl)
      simp -implicitDefEqProofs only [go_sem, hld, List.getElem_map, revA, upd_ne, n21, n21.symm, dlt, w1]
      cases dsu : (s.reviews[n].subj == o.subj)
      · have psu : s.reviews[n].subj ≠ o.subj := by simpa using dsu
        simp -implicitDefEqProofs only [go_sem, upd_ne, n21, n21.symm, dsu]
        exact .mk _ (.refl _) (hs _ _) ⟨by simp [readyCloseD, hgl, dop, psu, oneOr], rfl⟩
      · have psu : s.reviews[n].subj = o.subj := by simpa using dsu
        simp -implicitDefEqProofs only [go_sem, upd_ne, n21, n21.symm, dsu]
        exact .mk _ (.refl _) (hs _ _) ⟨by simp [readyCloseD, hgl, dop, psu, oneOr], rfl⟩
  · have hge : ¬ n < s.reviews.length := by have := of_decide_eq_true dlt; omega
    have hgn : revAt s.reviews o.review = none := by rw [e1, List.getElem?_eq_none (by omega)]
    simp -implicitDefEqProofs only [go_sem, upd_ne, n21, n21.symm, dlt]
    exact .mk _ (.refl _) (hs _ _) ⟨by simp [readyCloseD, hgn, oneOr], rfl⟩
set_option maxRecDepth 100000 in
theorem ready_ok {h : Heap} {x : AV} {s : StoreD} (hb : RdS h x s) (o : OpD) (hf : Few s) (hr : i64 o.review) (ht : i64 s.tick) : FnOK Tryz.prog 23 [x, opA o] h fun r h' => r = .v (.int .i64 (readyD s o)) ∧ h' = h := by
  have hb0 := hb
  have hfo := form_ok o
  have hrc := fun (G : Heap) (hG : Ab.Sub h G) => readyCase_ok (hb.sub hG) o hf
  have hrl := fun (G : Heap) (hG : Ab.Sub h G) (a : 0 < o.review) => readyClose_ok (hb.sub hG) o hf a hr.2
  have hfi := fun (G : Heap) (hG : Ab.Sub h G) => find_ok (hb.sub hG) o.case hf.cases
  have hha := fun (G : Heap) (hG : Ab.Sub h G) => has_ok (hb.sub hG) o.case o.field (Nat.le_trans hf.roles (by decide))
  obtain ⟨y1, y2, y3, y4, rfl, ⟨xs, hc, hn, hcs⟩, h2, h3, h4⟩ := hb
  cases hpp : s.policy with
  | mk pid pset palg ptgt prules pkids pobls =>
  have hcC : polC (.mk pid pset palg ptgt prules pkids pobls) = [.s pid, .v (.bool pset), .v (.int .i64 palg), tgtA ptgt, .sl (prules.map ruleA) .no, .sl (pkids.map polA) .no, oblsA pobls] := by simp [polC, kidsA_eq]
  rw [hpp, hcC] at hb0 hrc hrl hfi hha
  simp only [opA, opC, List.cons_append, List.nil_append] at hfo hrc hrl hfi hha
  refine FnOK.body hU hm Tryz.func23 rfl (by kernel_rfl) 63 rfl [.tmp 4] rfl (Nat.le_of_ble_eq_true rfl) (fun hwf => ?_)
  simp -implicitDefEqProofs only [go_sem, hcC, opA, opC, List.cons_append, List.nil_append]
  intro i1 h1
  simp -implicitDefEqProofs only [go_sem]
  intro i2 h2'
  have n21 := ne_upd h2'
  have n2 := upd_none h2'
  have hs : ∀ a b, Ab.Sub h (upd (upd h i1 a) i2 b) := fun a b => ((Sub.refl h).put h1 a).put n2 b
  simp -implicitDefEqProofs only [go_sem, upd_ne, n21, n21.symm]
  refine (hfo _).pthen ?_
  cases dform : formD o
  · simp -implicitDefEqProofs only [go_sem, upd_ne, n21, n21.symm, dform]
    exact .mk _ (.refl _) (hs _ _) ⟨by simp [readyD, dform, oneOr], rfl⟩
  · simp -implicitDefEqProofs only [go_sem, upd_ne, n21, n21.symm, dform]
    have hok : okD o = true := by simp only [formD, takesD, Bool.and_eq_true] at dform; exact dform.2.1.2
    by_cases p1 : o.kind = 1
    · have k1 : (o.kind == 1) = true := by simp [p1]
      simp -implicitDefEqProofs only [go_sem, upd_ne, n21, n21.symm, k1]
      refine (hfi _ (hs _ _)).pthen ?_
      cases dth : thereD s.cases o.case
      · simp -implicitDefEqProofs only [go_sem, upd_ne, n21, n21.symm, k1, dth, hc.len, hn]
        cases d64 : decide ((64 : Int) ≤ (s.cases.length : Int))
        · have p64 : ¬ 64 ≤ s.cases.length := by have := of_decide_eq_false d64; omega
          simp -implicitDefEqProofs only [go_sem, upd_ne, n21, n21.symm, k1, dth, hc.len, hn, d64]
          exact .mk _ (.refl _) (hs _ _) ⟨by simp [readyD, dform, p1, dth, p64, oneOr], rfl⟩
        · have p64 : 64 ≤ s.cases.length := by have := of_decide_eq_true d64; omega
          simp -implicitDefEqProofs only [go_sem, upd_ne, n21, n21.symm, k1, dth, hc.len, hn, d64]
          exact .mk _ (.refl _) (hs _ _) ⟨by simp [readyD, dform, p1, dth, p64, oneOr], rfl⟩
      · simp -implicitDefEqProofs only [go_sem, upd_ne, n21, n21.symm, k1, dth]
        exact .mk _ (.refl _) (hs _ _) ⟨by simp [readyD, dform, p1, dth, oneOr], rfl⟩
    have k1 : (o.kind == 1) = false := by simp [p1]
    simp -implicitDefEqProofs only [go_sem, upd_ne, n21, n21.symm, k1]
    by_cases p2 : o.kind = 2
    · have k2 : (o.kind == 2) = true := by simp [p2]
      simp -implicitDefEqProofs only [go_sem, upd_ne, n21, n21.symm, k1, k2]
      refine (hrc _ (hs _ _)).pthen ?_
      simp -implicitDefEqProofs only [go_sem, upd_ne, n21, n21.symm, k1, k2]
      exact .mk _ (.refl _) (hs _ _) ⟨by simp [readyD, dform, p1, p2, oneOr], rfl⟩
    have k2 : (o.kind == 2) = false := by simp [p2]
    simp -implicitDefEqProofs only [go_sem, upd_ne, n21, n21.symm, k1, k2]
    by_cases p3 : o.kind = 3
    · have k3 : (o.kind == 3) = true := by simp [p3]
      simp -implicitDefEqProofs only [go_sem, upd_ne, n21, n21.symm, k1, k2, k3]
      refine (hrc _ (hs _ _)).pthen ?_
      simp -implicitDefEqProofs only [go_sem, upd_ne, n21, n21.symm, k1, k2, k3]
      exact .mk _ (.refl _) (hs _ _) ⟨by simp [readyD, dform, p1, p2, p3, oneOr], rfl⟩
    have k3 : (o.kind == 3) = false := by simp [p3]
    simp -implicitDefEqProofs only [go_sem, upd_ne, n21, n21.symm, k1, k2, k3]
    by_cases p4 : o.kind = 4
    · have k4 : (o.kind == 4) = true := by simp [p4]
      simp -implicitDefEqProofs only [go_sem, upd_ne, n21, n21.symm, k1, k2, k3, k4]
      refine (hrc _ (hs _ _)).pthen ?_
      simp -implicitDefEqProofs only [go_sem, upd_ne, n21, n21.symm, k1, k2, k3, k4]
      exact .mk _ (.refl _) (hs _ _) ⟨by simp [readyD, dform, p1, p2, p3, p4, oneOr], rfl⟩
    have k4 : (o.kind == 4) = false := by simp [p4]
    simp -implicitDefEqProofs only [go_sem, upd_ne, n21, n21.symm, k1, k2, k3, k4]
    by_cases p5 : o.kind = 5
    · have k5 : (o.kind == 5) = true := by simp [p5]
      simp -implicitDefEqProofs only [go_sem, upd_ne, n21, n21.symm, k1, k2, k3, k4, k5]
      have hrv : 0 < o.review := by simpa [okD, p5] using hok
      refine (hrl _ (hs _ _) hrv).pthen ?_
      simp -implicitDefEqProofs only [go_sem, upd_ne, n21, n21.symm, k1, k2, k3, k4, k5]
      exact .mk _ (.refl _) (hs _ _) ⟨by simp [readyD, dform, p1, p2, p3, p4, p5, oneOr], rfl⟩
    have k5 : (o.kind == 5) = false := by simp [p5]
    simp -implicitDefEqProofs only [go_sem, upd_ne, n21, n21.symm, k1, k2, k3, k4, k5]
    by_cases p6 : o.kind = 6
    · have k6 : (o.kind == 6) = true := by simp [p6]
      simp -implicitDefEqProofs only [go_sem, upd_ne, n21, n21.symm, k1, k2, k3, k4, k5, k6]
      simp -implicitDefEqProofs only [go_sem, upd_ne, n21, n21.symm, k1, k2, k3, k4, k5, k6, h4.len, List.length_map]
      cases d64 : decide ((64 : Int) ≤ (s.roles.length : Int))
      · have p64 : ¬ 64 ≤ s.roles.length := by have := of_decide_eq_false d64; omega
        simp -implicitDefEqProofs only [go_sem, upd_ne, n21, n21.symm, k1, k2, k3, k4, k5, k6, d64]
        exact .mk _ (.refl _) (hs _ _) ⟨by simp [readyD, dform, p1, p2, p3, p4, p5, p6, p64, oneOr], rfl⟩
      · have p64 : 64 ≤ s.roles.length := by have := of_decide_eq_true d64; omega
        simp -implicitDefEqProofs only [go_sem, upd_ne, n21, n21.symm, k1, k2, k3, k4, k5, k6, d64]
        refine (hha _ (hs _ _)).pthen ?_
        cases dha : hasD s.roles ⟨o.case, o.field⟩
        · simp -implicitDefEqProofs only [go_sem, upd_ne, n21, n21.symm, k1, k2, k3, k4, k5, k6, d64, dha]
          exact .mk _ (.refl _) (hs _ _) ⟨by simp [readyD, dform, p1, p2, p3, p4, p5, p6, p64, dha, oneOr], rfl⟩
        · simp -implicitDefEqProofs only [go_sem, upd_ne, n21, n21.symm, k1, k2, k3, k4, k5, k6, d64, dha]
          exact .mk _ (.refl _) (hs _ _) ⟨by simp [readyD, dform, p1, p2, p3, p4, p5, p6, p64, dha, oneOr], rfl⟩
    have k6 : (o.kind == 6) = false := by simp [p6]
    simp -implicitDefEqProofs only [go_sem, upd_ne, n21, n21.symm, k1, k2, k3, k4, k5, k6]
    by_cases p8 : o.kind = 8
    · have k8 : (o.kind == 8) = true := by simp [p8]
      simp -implicitDefEqProofs only [go_sem, upd_ne, n21, n21.symm, k1, k2, k3, k4, k5, k6, k8]
      have hrv : 0 < o.review ∧ o.review ≤ 1099511627776 := by simpa [okD, p8] using hok
      have w1 : IntKind.i64.wrap (1099511627776 - o.review) = 1099511627776 - o.review := wr64 _ (by omega)
      cases dt : decide (1099511627776 - o.review < s.tick)
      · have pt : ¬ 1099511627776 - o.review < s.tick := of_decide_eq_false dt
        simp -implicitDefEqProofs only [go_sem, upd_ne, n21, n21.symm, k1, k2, k3, k4, k5, k6, k8, w1, dt]
        exact .mk _ (.refl _) (hs _ _) ⟨by simp [readyD, dform, p1, p2, p3, p4, p5, p6, p8, pt, oneOr], rfl⟩
      · have pt : 1099511627776 - o.review < s.tick := of_decide_eq_true dt
        simp -implicitDefEqProofs only [go_sem, upd_ne, n21, n21.symm, k1, k2, k3, k4, k5, k6, k8, w1, dt]
        exact .mk _ (.refl _) (hs _ _) ⟨by simp [readyD, dform, p1, p2, p3, p4, p5, p6, p8, pt, oneOr], rfl⟩
    have k8 : (o.kind == 8) = false := by simp [p8]
    simp -implicitDefEqProofs only [go_sem, upd_ne, n21, n21.symm, k1, k2, k3, k4, k5, k6, k8]
    exact .mk _ (.refl _) (hs _ _) ⟨by have : ¬ (2 ≤ o.kind ∧ o.kind ≤ 4) := (by omega); simp only [readyD, dform, p1, p5, p6, p8, this, if_false, Bool.true_eq_false, oneOr], rfl⟩
end Go.Proofs.YtnhelgnmadbpgaaGreatDoor

set_option linter.unusedVariables false
namespace Go.Bf
open Go Go.Ab
structure TokD where
  kind : Int
  pos : Int
  n : Int
  s : Txt
def tokA (t : TokD) : AV := .agg [.v (.int .i64 t.kind), .v (.int .i64 t.pos), .v (.int .i64 t.n), .s t.s]
def wrd (c : UInt8) : Bool := ltr c || dgt c || (c.toNat : Int) == 95
def decV (l : Txt) : Nat := l.foldl (fun n c => n * 10 + (c.toNat - 48)) 0
def numD (neg : Bool) (s : Txt) : Int × Nat :=
  let d := s.takeWhile dgt
  if d = [] ∨ (1 < d.length ∧ s.head? = some 48) then (0, 0) else
  let v : Int := if neg then -(decV d : Int) else (decV d : Int)
  if -9223372036854775808 ≤ v ∧ v ≤ 9223372036854775807 then (v, d.length) else (0, 0)
def wordD (s : Txt) : Txt := if nameOK (s.takeWhile wrd) then s.takeWhile wrd else []
def hexI (c : UInt8) : Int := if dgt c then (c.toNat : Int) - 48 else if 97 ≤ (c.toNat : Int) ∧ (c.toNat : Int) ≤ 102 then (c.toNat : Int) - 87 else -1
def oddD : Txt → Option UInt8
  | b :: x :: y :: _ => if b = 92 ∧ 0 ≤ hexI x ∧ 0 ≤ hexI y ∧ oddB (UInt8.ofNat (16 * hexI x + hexI y).toNat) = true then some (UInt8.ofNat (16 * hexI x + hexI y).toNat) else none
  | _ => none
def textF : Nat → Txt → Nat → Txt → Txt × Nat
  | 0, _, _, _ => ([], 0)
  | _ + 1, [], _, _ => ([], 0)
  | f + 1, c :: r, at_, out =>
    if c = 34 then (if 64 < out.length then ([], 0) else (out, at_ + 1))
    else if oddB c = false then textF f r (at_ + 1) (out ++ [c])
    else match oddD (c :: r) with
      | some b => textF f (r.drop 2) (at_ + 3) (out ++ [b])
      | none => ([], 0)
def textD (s : Txt) : Txt × Nat := textF s.length (s.drop 1) 1 []
def markB (c : UInt8) : Bool := c ∈ ([123, 125, 40, 41, 46, 44, 59, 61, 60, 62, 33] : Txt)
def beginsD (s : Txt) : TokD × Nat :=
  let c := s.headD 0
  if ltr c then (⟨1, 0, 0, wordD s⟩, (wordD s).length)
  else if dgt c then (⟨2, 0, (numD false s).1, []⟩, (numD false s).2)
  else if c = 45 then (⟨2, 0, (numD true (s.drop 1)).1, []⟩, if (numD true (s.drop 1)).1 = 0 then 0 else (numD true (s.drop 1)).2 + 1)
  else if c = 64 then (⟨3, 0, (numD false (s.drop 1)).1, []⟩, if (numD false (s.drop 1)).2 = 0 ∨ (numD false (s.drop 1)).1 > 1099511627776 then 0 else (numD false (s.drop 1)).2 + 1)
  else if c = 35 then (⟨4, 0, 0, wordD (s.drop 1)⟩, if wordD (s.drop 1) = [] then 0 else (wordD (s.drop 1)).length + 1)
  else if c = 34 then (⟨5, 0, 0, (textD s).1⟩, (textD s).2)
  else if markB c then (⟨6, 0, 0, [c]⟩, 1)
  else (⟨0, 0, 0, []⟩, 0)
inductive Lexed where
  | bad (e : Int) (at_ : Int)
  | ok (l : List TokD)
def blankB (c : UInt8) : Bool := (c.toNat : Int) == 32 || (c.toNat : Int) == 10
def lexF : Nat → Txt → Nat → List TokD → Lexed
  | 0, _, at_, _ => .bad 5 at_
  | _ + 1, [], at_, out => .ok (out ++ [⟨7, at_, 0, []⟩])
  | f + 1, c :: r, at_, out =>
    if blankB c then lexF f r (at_ + 1) out
    else if (beginsD (c :: r)).2 = 0 then .bad 5 at_
    else lexF f ((c :: r).drop (beginsD (c :: r)).2) (at_ + (beginsD (c :: r)).2) (out ++ [{ (beginsD (c :: r)).1 with pos := at_ }])
def lexD (s : Txt) : Lexed := if s.length > 4096 then .bad 6 4096 else lexF (s.length + 1) s 0 []
theorem takeWhile_le (p : UInt8 → Bool) (s : Txt) : (s.takeWhile p).length ≤ s.length := (List.takeWhile_prefix p).length_le
theorem takeWhile_take (p : UInt8 → Bool) (s : Txt) : s.take (s.takeWhile p).length = s.takeWhile p := by
  obtain ⟨t, ht⟩ := List.takeWhile_prefix (l := s) p
  have : s.take (s.takeWhile p).length = (s.takeWhile p ++ t).take (s.takeWhile p).length := by rw [ht]
  rw [this, List.take_left]
theorem numD_le (neg : Bool) (s : Txt) : (numD neg s).2 ≤ s.length := by
  have := takeWhile_le dgt s
  unfold numD
  simp only
  split
  · exact Nat.zero_le _
  · generalize (if neg = true then -(decV (s.takeWhile dgt) : Int) else (decV (s.takeWhile dgt) : Int)) = v
    split
    · exact this
    · exact Nat.zero_le _
theorem wordD_le (s : Txt) : (wordD s).length ≤ s.length := by
  have := takeWhile_le wrd s
  unfold wordD
  split
  · exact this
  · simp
theorem oddD_len {s : Txt} {b : UInt8} (h : oddD s = some b) : 3 ≤ s.length := by
  match s, h with
  | _ :: _ :: _ :: _, _ => simp
theorem textF_le : ∀ (f : Nat) (r : Txt) (at_ : Nat) (out : Txt), (textF f r at_ out).2 ≤ at_ + r.length
  | 0, _, _, _ => by simp [textF]
  | _ + 1, [], _, _ => by simp [textF]
  | f + 1, c :: r, at_, out => by
    simp only [textF]
    split
    · split <;> simp
    · split
      · have := textF_le f r (at_ + 1) (out ++ [c]); simp only [List.length_cons]; omega
      · split
        · rename_i b hb
          have h3 := oddD_len hb
          have := textF_le f (r.drop 2) (at_ + 3) (out ++ [b])
          simp only [List.length_cons, List.length_drop] at this h3 ⊢
          omega
        · simp
theorem beginsD_le (s : Txt) (hs : s ≠ []) : (beginsD s).2 ≤ s.length := by
  have h1 : 1 ≤ s.length := List.length_pos_iff.2 hs
  have hd : (s.drop 1).length = s.length - 1 := by simp
  have k1 := wordD_le s
  have k2 := wordD_le (s.drop 1)
  have k3 := numD_le false s
  have k4 := numD_le false (s.drop 1)
  have k5 := numD_le true (s.drop 1)
  have k6 := textF_le s.length (s.drop 1) 1 []
  unfold beginsD
  simp only
  split
  · exact k1
  split
  · exact k3
  split
  · simp only; split <;> omega
  split
  · simp only; split <;> omega
  split
  · simp only; split <;> omega
  split
  · simp only [textD]; omega
  split
  · simp only; omega
  · simp
end Go.Bf

set_option linter.unusedVariables false
namespace Go.Bf
open Go Go.Ab
structure PS where
  ts : List TokD
  pos : Nat
  rules : Nat
  bad : Int
  place : Int
def hereD (st : PS) : TokD := st.ts.getD st.pos ⟨7, 0, 0, []⟩
def wrongD (st : PS) (e p : Int) : PS := if st.bad = 0 then { st with bad := e, place := p } else st
def stuckD (st : PS) : PS := wrongD st 5 (hereD st).pos
def limitD (st : PS) (more : Bool) : PS := if more then wrongD st 6 (hereD st).pos else st
def isD (st : PS) (s : Txt) : Bool := st.bad == 0 && ((hereD st).s == s && ((hereD st).kind == 1 || (hereD st).kind == 6))
def nextD (st : PS) : PS := { st with pos := st.pos + 1 }
def takeD (st : PS) (s : Txt) : Bool × PS := if isD st s = true then (true, nextD st) else (false, st)
def mustD (st : PS) (s : Txt) : PS := if isD st s = true then nextD st else stuckD st
def nameP (st : PS) : Txt × PS :=
  if (hereD st).kind = 1 ∧ st.bad = 0 then ((hereD st).s, nextD st) else ([], if (hereD st).kind = 1 then st else stuckD st)
def idxT (s : Txt) : List Txt → Option Nat
  | [] => none
  | w :: r => if w = s then some 0 else (idxT s r).map (· + 1)
def amongD (st : PS) (ws : List Txt) : Int × PS := match idxT (hereD st).s ws with
  | some i => if (hereD st).kind = 1 ∧ st.bad = 0 then ((i : Int) + 1, nextD st) else (0, stuckD st)
  | none => (0, stuckD st)
def WfP (st : PS) : Prop := st.pos < st.ts.length ∧ (∀ i (h : i < st.ts.length), st.ts[i].kind ≠ 7 → i + 1 < st.ts.length) ∧ st.ts.length ≤ 5000
theorem hereD_eq {st : PS} (h : st.pos < st.ts.length) : hereD st = st.ts[st.pos] := by
  unfold hereD; rw [List.getD_eq_getElem?_getD, List.getElem?_eq_getElem h]; rfl
theorem wfP_wrong {st : PS} (e p : Int) (h : WfP st) : WfP (wrongD st e p) := by
  unfold wrongD; split <;> exact h
theorem wfP_next {st : PS} (h : WfP st) (hk : (hereD st).kind ≠ 7) : WfP (nextD st) := by
  rw [hereD_eq h.1] at hk
  exact ⟨h.2.1 _ h.1 hk, h.2⟩
theorem isD_kind {st : PS} {s : Txt} (h : isD st s = true) : (hereD st).kind ≠ 7 := by
  simp only [isD, Bool.and_eq_true, Bool.or_eq_true, beq_iff_eq] at h
  obtain ⟨_, _, h | h⟩ := h <;> rw [h] <;> decide
end Go.Bf

set_option linter.unusedVariables false
namespace Go.Bf
open Go Go.Ab
def Ah (st st' : PS) : Prop := WfP st' ∧ st'.ts = st.ts ∧ st.pos ≤ st'.pos
theorem Ah.refl {st : PS} (h : WfP st) : Ah st st := ⟨h, rfl, Nat.le_refl _⟩
theorem Ah.trans {a b c : PS} (x : Ah a b) (y : Ah b c) : Ah a c := ⟨y.1, y.2.1.trans x.2.1, Nat.le_trans x.2.2 y.2.2⟩
theorem ah_wrong {st : PS} (e p : Int) (h : WfP st) : Ah st (wrongD st e p) := ⟨wfP_wrong e p h, by unfold wrongD; split <;> rfl, by unfold wrongD; split <;> exact Nat.le_refl _⟩
theorem ah_next {st : PS} (h : WfP st) (hk : (hereD st).kind ≠ 7) : Ah st (nextD st) := ⟨wfP_next h hk, rfl, Nat.le_succ _⟩
theorem ah_stuck {st : PS} (h : WfP st) : Ah st (stuckD st) := ah_wrong _ _ h
theorem ah_limit {st : PS} (b : Bool) (h : WfP st) : Ah st (limitD st b) := by
  unfold limitD; split
  · exact ah_wrong _ _ h
  · exact .refl h
theorem ah_take {st : PS} (s : Txt) (h : WfP st) : Ah st (takeD st s).2 := by
  unfold takeD; split
  · rename_i hi; exact ah_next h (isD_kind hi)
  · exact .refl h
theorem ah_must {st : PS} (s : Txt) (h : WfP st) : Ah st (mustD st s) := by
  unfold mustD; split
  · rename_i hi; exact ah_next h (isD_kind hi)
  · exact ah_stuck h
theorem ah_name {st : PS} (h : WfP st) : Ah st (nameP st).2 := by
  unfold nameP; split
  · rename_i hi; exact ah_next h (by rw [hi.1]; decide)
  · simp only; split
    · exact .refl h
    · exact ah_stuck h
theorem ah_among {st : PS} (ws : List Txt) (h : WfP st) : Ah st (amongD st ws).2 := by
  unfold amongD; split
  · split
    · rename_i hi; exact ah_next h (by rw [hi.1]; decide)
    · exact ah_stuck h
  · exact ah_stuck h
def catWs : List Txt := [[115, 117, 98, 106, 101, 99, 116], [97, 99, 116, 105, 111, 110], [99, 97, 115, 101], [101, 110, 118]]
def attrP (st : PS) : AttrD × PS :=
  (⟨(amongD st catWs).1, (nameP (mustD (amongD st catWs).2 [46])).1, (takeD (nameP (mustD (amongD st catWs).2 [46])).2 [33]).1⟩, (takeD (nameP (mustD (amongD st catWs).2 [46])).2 [33]).2)
theorem ah_attr {st : PS} (h : WfP st) : Ah st (attrP st).2 := by
  have h1 := ah_among catWs h
  have h2 := ah_must [46] h1.1
  have h3 := ah_name h2.1
  exact ((h1.trans h2).trans h3).trans (ah_take [33] h3.1)
def trueT : Txt := [116, 114, 117, 101]
def falseT : Txt := [102, 97, 108, 115, 101]
def valueV (st : PS) : ValD × PS :=
  if (hereD st).kind = 2 then (⟨2, (hereD st).n, (hereD st).s⟩, st)
  else if (hereD st).kind = 3 then (⟨4, (hereD st).n, (hereD st).s⟩, st)
  else if (hereD st).kind = 4 then (⟨5, (hereD st).n, (hereD st).s⟩, st)
  else if (hereD st).kind = 5 then (⟨3, (hereD st).n, (hereD st).s⟩, st)
  else if isD st trueT then (⟨1, 1, []⟩, st)
  else if isD st falseT then (⟨1, 0, []⟩, st)
  else (⟨0, (hereD st).n, (hereD st).s⟩, stuckD st)
def valueP (st : PS) : ValD × PS := if (valueV st).2.bad = 0 then ((valueV st).1, nextD (valueV st).2) else (⟨0, 0, []⟩, (valueV st).2)
theorem stuck_bad (st : PS) : (stuckD st).bad ≠ 0 := by
  unfold stuckD wrongD; split
  · show (5 : Int) ≠ 0; decide
  · assumption
theorem valueV_cases (st : PS) : (valueV st).2 = st ∧ (hereD st).kind ≠ 7 ∨ (valueV st).2 = stuckD st := by
  unfold valueV
  split
  · rename_i h; exact .inl ⟨rfl, by rw [h]; decide⟩
  split
  · rename_i h; exact .inl ⟨rfl, by rw [h]; decide⟩
  split
  · rename_i h; exact .inl ⟨rfl, by rw [h]; decide⟩
  split
  · rename_i h; exact .inl ⟨rfl, by rw [h]; decide⟩
  split
  · rename_i h; exact .inl ⟨rfl, isD_kind h⟩
  split
  · rename_i h; exact .inl ⟨rfl, isD_kind h⟩
  · exact .inr rfl
theorem ah_value {st : PS} (h : WfP st) : Ah st (valueP st).2 := by
  unfold valueP
  rcases valueV_cases st with ⟨e, hk⟩ | e
  · rw [e]; split
    · exact ah_next h hk
    · exact .refl h
  · rw [e, if_neg (stuck_bad st)]; exact ah_stuck h
def opP (st : PS) : Int × PS :=
  if isD st [61] then (1, nextD st) else if isD st [60] then (2, nextD st) else if isD st [62] then (3, nextD st) else (0, stuckD st)
theorem ah_op {st : PS} (h : WfP st) : Ah st (opP st).2 := by
  unfold opP
  split
  · rename_i hi; exact ah_next h (isD_kind hi)
  split
  · rename_i hi; exact ah_next h (isD_kind hi)
  split
  · rename_i hi; exact ah_next h (isD_kind hi)
  · exact ah_stuck h
def matchP (st : PS) : MatchD × PS := (⟨(attrP st).1, (opP (attrP st).2).1, (valueP (opP (attrP st).2).2).1⟩, (valueP (opP (attrP st).2).2).2)
theorem ah_match {st : PS} (h : WfP st) : Ah st (matchP st).2 := by
  have h1 := ah_attr h
  have h2 := ah_op h1.1
  exact (h1.trans h2).trans (ah_value h2.1)
def manyF {α : Type} (one : PS → α × PS) (w : Txt) (most : Nat) : Nat → PS → List α → List α × PS
  | 0, st, l => (l, st)
  | f + 1, st, l => if isD st w = true then manyF one w most f (limitD (one (nextD st)).2 (decide (most < l.length + 1))) (l ++ [(one (nextD st)).1]) else (l, st)
theorem ah_many {α : Type} {one : PS → α × PS} (ho : ∀ st, WfP st → Ah st (one st).2) (w : Txt) (most : Nat) : ∀ (f : Nat) (st : PS) (l : List α), WfP st → Ah st (manyF one w most f st l).2
  | 0, st, l, h => .refl h
  | f + 1, st, l, h => by
    unfold manyF; split
    · rename_i hi
      have h1 := ah_next h (isD_kind hi)
      have h2 := ho _ h1.1
      have h3 := ah_limit (decide (most < l.length + 1)) h2.1
      exact ((h1.trans h2).trans h3).trans (ah_many ho w most f _ _ h3.1)
    · exact .refl h
def orT : Txt := [111, 114]
def andT : Txt := [97, 110, 100]
def whenT : Txt := [119, 104, 101, 110]
def allP (st : PS) : List MatchD × PS := manyF matchP [44] 8 st.ts.length (matchP st).2 [(matchP st).1]
theorem ah_all {st : PS} (h : WfP st) : Ah st (allP st).2 := (ah_match h).trans (ah_many (fun _ h => ah_match h) _ _ _ _ _ (ah_match h).1)
def anyP (st : PS) : List (List MatchD) × PS :=
  let a := allP (mustD st [40])
  let m := manyF allP orT 8 st.ts.length a.2 [a.1]
  (m.1, mustD m.2 [41])
theorem ah_any {st : PS} (h : WfP st) : Ah st (anyP st).2 := by
  have h0 := ah_must [40] h
  have h1 := ah_all h0.1
  have h2 := ah_many (fun _ h => ah_all h) orT 8 st.ts.length _ [(allP (mustD st [40])).1] h1.1
  exact ((h0.trans h1).trans h2).trans (ah_must [41] h2.1)
def tgtP (st : PS) : TgtD × PS := if isD st whenT = true then manyF anyP andT 8 st.ts.length (anyP (nextD st)).2 [(anyP (nextD st)).1] else ([], st)
theorem ah_tgt {st : PS} (h : WfP st) : Ah st (tgtP st).2 := by
  unfold tgtP; split
  · rename_i hi
    have h0 := ah_next h (isD_kind hi)
    have h1 := ah_any h0.1
    exact (h0.trans h1).trans (ah_many (fun _ h => ah_any h) _ _ _ _ _ h1.1)
  · exact .refl h
end Go.Bf

set_option linter.unusedVariables false
namespace Go.Bf
open Go Go.Ab
def fnWs : List Txt := [[111, 110, 101], [115, 105, 122, 101], [104, 97, 115], [101, 113], [108, 101, 115, 115], [97, 100, 100], [115, 117, 98], [109, 117, 108], [110, 111, 116], [97, 110, 100], [111, 114]]
def opers (op : Int) : List Bool := if op = 3 ∨ op = 4 then [true] else if op = 5 then [true, false] else if op = 11 then [false] else [false, false]
abbrev ExF := PS → List NodeD → (List NodeD × Bool) × PS
def operG (ex : ExF) (st : PS) (l : List NodeD) (must : Bool) : List NodeD × PS :=
  ((ex st l).1.1, if (ex st l).1.2 = must then (ex st l).2 else wrongD (ex st l).2 5 (hereD st).pos)
def opersG (ex : ExF) : List Bool → PS → List NodeD → List NodeD × PS
  | [], st, l => (l, st)
  | b :: bs, st, l => if st.bad = 0 then opersG ex bs (operG ex st l b).2 (operG ex st l b).1 else (l, st)
def funcG (ex : ExF) (st : PS) (l : List NodeD) : (List NodeD × NodeD) × PS :=
  (((opersG ex (opers (2 + (amongD st fnWs).1)) (amongD st fnWs).2 l).1, ⟨2 + (amongD st fnWs).1, ⟨0, 0, []⟩, ⟨0, [], false⟩⟩), mustD (opersG ex (opers (2 + (amongD st fnWs).1)) (amongD st fnWs).2 l).2 [41])
def headG (ex : ExF) (st : PS) (l : List NodeD) : (List NodeD × NodeD) × PS :=
  if isD st [40] = true then funcG ex (nextD st) l
  else if (hereD st).kind = 1 ∧ (hereD st).s ≠ trueT ∧ (hereD st).s ≠ falseT then ((l, ⟨2, ⟨0, 0, []⟩, (attrP st).1⟩), (attrP st).2)
  else ((l, ⟨1, (valueP st).1, ⟨0, [], false⟩⟩), (valueP st).2)
def exprF : Nat → ExF
  | 0, st, l => ((l, false), st)
  | f + 1, st, l => (((headG (exprF f) st l).1.1 ++ [(headG (exprF f) st l).1.2], (headG (exprF f) st l).1.2.op == 2), limitD (headG (exprF f) st l).2 (decide (32 < (headG (exprF f) st l).1.1.length + 1)))
def ExOK (ex : ExF) : Prop := ∀ st l, WfP st → Ah st (ex st l).2 ∧ (ex st l).1.1.length + 2 * st.pos ≤ l.length + 2 * (ex st l).2.pos + 1
theorem operG_ok {ex : ExF} (he : ExOK ex) (st : PS) (l : List NodeD) (b : Bool) (h : WfP st) : Ah st (operG ex st l b).2 ∧ (operG ex st l b).1.length + 2 * st.pos ≤ l.length + 2 * (operG ex st l b).2.pos + 1 := by
  obtain ⟨h1, h2⟩ := he st l h
  unfold operG
  simp only
  split
  · exact ⟨h1, h2⟩
  · refine ⟨h1.trans (ah_wrong _ _ h1.1), ?_⟩
    have : (wrongD (ex st l).2 5 (hereD st).pos).pos = (ex st l).2.pos := by unfold wrongD; split <;> rfl
    rw [this]; exact h2
theorem opersG_ok {ex : ExF} (he : ExOK ex) : ∀ (bs : List Bool) (st : PS) (l : List NodeD), WfP st → Ah st (opersG ex bs st l).2 ∧ (opersG ex bs st l).1.length + 2 * st.pos ≤ l.length + 2 * (opersG ex bs st l).2.pos + bs.length
  | [], st, l, h => ⟨.refl h, by simp [opersG]⟩
  | b :: bs, st, l, h => by
    unfold opersG; split
    · obtain ⟨h1, h2⟩ := operG_ok he st l b h
      obtain ⟨h3, h4⟩ := opersG_ok he bs (operG ex st l b).2 (operG ex st l b).1 h1.1
      exact ⟨h1.trans h3, by simp only [List.length_cons]; omega⟩
    · exact ⟨.refl h, by simp only [List.length_cons]; omega⟩
theorem opers_le (op : Int) : (opers op).length ≤ 2 := by
  unfold opers; repeat' split
  all_goals simp
theorem funcG_ok {ex : ExF} (he : ExOK ex) (st : PS) (l : List NodeD) (h : WfP st) : Ah st (funcG ex st l).2 ∧ (funcG ex st l).1.1.length + 2 * st.pos ≤ l.length + 2 * (funcG ex st l).2.pos + 2 := by
  have h1 := ah_among fnWs h
  obtain ⟨h2, h3⟩ := opersG_ok he (opers (2 + (amongD st fnWs).1)) _ l h1.1
  have h4 := ah_must [41] h2.1
  have := opers_le (2 + (amongD st fnWs).1)
  have p1 := h1.2.2
  have p4 := h4.2.2
  unfold funcG
  exact ⟨(h1.trans h2).trans h4, by simp only; omega⟩
theorem headG_ok {ex : ExF} (he : ExOK ex) (st : PS) (l : List NodeD) (h : WfP st) : Ah st (headG ex st l).2 ∧ (headG ex st l).1.1.length + 2 * st.pos ≤ l.length + 2 * (headG ex st l).2.pos := by
  unfold headG; split
  · rename_i hi
    have h1 := ah_next h (isD_kind hi)
    obtain ⟨h2, h3⟩ := funcG_ok he _ l h1.1
    have : (nextD st).pos = st.pos + 1 := rfl
    exact ⟨h1.trans h2, by omega⟩
  · split
    · have h1 := ah_attr h
      have := h1.2.2
      exact ⟨h1, by simp only; omega⟩
    · have h1 := ah_value h
      have := h1.2.2
      exact ⟨h1, by simp only; omega⟩
theorem exprF_ok : ∀ f, ExOK (exprF f)
  | 0 => fun st l h => ⟨.refl h, by simp [exprF]⟩
  | f + 1 => fun st l h => by
    obtain ⟨h1, h2⟩ := headG_ok (exprF_ok f) st l h
    have h3 := ah_limit (decide (32 < (headG (exprF f) st l).1.1.length + 1)) h1.1
    have := h3.2.2
    refine ⟨h1.trans h3, ?_⟩
    simp only [exprF, List.length_append, List.length_singleton]
    omega
def onWs : List Txt := [[112, 101, 114, 109, 105, 116], [100, 101, 110, 121]]
def dutyWs : List Txt := [[108, 111, 103], [114, 101, 100, 97, 99, 116], [114, 101, 118, 105, 101, 119], [110, 111, 116, 105, 102, 121]]
def onceT : Txt := [111, 110]
def oblP (st : PS) : OblD × PS :=
  (⟨(amongD st onWs).1, (amongD (amongD st onWs).2 dutyWs).1, (nameP (amongD (amongD st onWs).2 dutyWs).2).1⟩, (nameP (amongD (amongD st onWs).2 dutyWs).2).2)
theorem ah_obl {st : PS} (h : WfP st) : Ah st (oblP st).2 := by
  have h1 := ah_among onWs h
  have h2 := ah_among dutyWs h1.1
  exact (h1.trans h2).trans (ah_name h2.1)
def oblsP (st : PS) : List OblD × PS := manyF oblP onceT 8 st.ts.length st []
theorem ah_obls {st : PS} (h : WfP st) : Ah st (oblsP st).2 := ah_many (fun _ h => ah_obl h) _ _ _ _ _ h
end Go.Bf

set_option linter.unusedVariables false
namespace Go.Bf
open Go Go.Ab
inductive Rch (a : PS) : PS → Prop where
  | refl : Rch a a
  | wrong {b : PS} (e p : Int) : Rch a b → (e = 5 ∨ e = 6) → (∃ i, i ≤ b.pos ∧ p = (b.ts.getD i ⟨7, 0, 0, []⟩).pos) → Rch a (wrongD b e p)
  | next {b : PS} : Rch a b → b.bad = 0 → (hereD b).kind ≠ 7 → Rch a (nextD b)
theorem Rch.trans {a b c : PS} (x : Rch a b) (y : Rch b c) : Rch a c := by
  induction y with
  | refl => exact x
  | wrong e p _ h1 h2 ih => exact .wrong e p ih h1 h2
  | next _ h1 h2 ih => exact .next ih h1 h2
theorem rch_stuck (st : PS) : Rch st (stuckD st) := .wrong _ _ .refl (.inl rfl) ⟨st.pos, Nat.le_refl _, rfl⟩
theorem rch_limit (st : PS) (b : Bool) : Rch st (limitD st b) := by
  unfold limitD; split
  · exact .wrong _ _ .refl (.inr rfl) ⟨st.pos, Nat.le_refl _, rfl⟩
  · exact .refl
theorem isD_bad {st : PS} {s : Txt} (h : isD st s = true) : st.bad = 0 := by
  simp only [isD, Bool.and_eq_true, beq_iff_eq] at h; exact h.1
theorem rch_is {st : PS} {s : Txt} (h : isD st s = true) : Rch st (nextD st) := .next .refl (isD_bad h) (isD_kind h)
theorem rch_take (st : PS) (s : Txt) : Rch st (takeD st s).2 := by
  unfold takeD; split
  · rename_i h; exact rch_is h
  · exact .refl
theorem rch_must (st : PS) (s : Txt) : Rch st (mustD st s) := by
  unfold mustD; split
  · rename_i h; exact rch_is h
  · exact rch_stuck _
theorem rch_name (st : PS) : Rch st (nameP st).2 := by
  unfold nameP; split
  · rename_i h; exact .next .refl h.2 (by rw [h.1]; decide)
  · simp only; split
    · exact .refl
    · exact rch_stuck _
theorem rch_among (st : PS) (ws : List Txt) : Rch st (amongD st ws).2 := by
  unfold amongD; split
  · split
    · rename_i h; exact .next .refl h.2 (by rw [h.1]; decide)
    · exact rch_stuck _
  · exact rch_stuck _
theorem rch_attr (st : PS) : Rch st (attrP st).2 := (((rch_among st catWs).trans (rch_must _ [46])).trans (rch_name _)).trans (rch_take _ [33])
theorem rch_value (st : PS) : Rch st (valueP st).2 := by
  unfold valueP
  rcases valueV_cases st with ⟨e, hk⟩ | e
  · rw [e]; split
    · rename_i h; exact .next .refl h hk
    · exact .refl
  · rw [e, if_neg (stuck_bad st)]; exact rch_stuck st
theorem rch_op (st : PS) : Rch st (opP st).2 := by
  unfold opP
  split
  · rename_i h; exact rch_is h
  split
  · rename_i h; exact rch_is h
  split
  · rename_i h; exact rch_is h
  · exact rch_stuck _
theorem rch_match (st : PS) : Rch st (matchP st).2 := ((rch_attr st).trans (rch_op _)).trans (rch_value _)
theorem rch_many {α : Type} {one : PS → α × PS} (ho : ∀ st, Rch st (one st).2) (w : Txt) (most : Nat) : ∀ (f : Nat) (st : PS) (l : List α), Rch st (manyF one w most f st l).2
  | 0, st, l => .refl
  | f + 1, st, l => by
    unfold manyF; split
    · rename_i h
      exact (((rch_is h).trans (ho _)).trans (rch_limit _ _)).trans (rch_many ho w most f _ _)
    · exact .refl
theorem rch_all (st : PS) : Rch st (allP st).2 := (rch_match st).trans (rch_many rch_match _ _ _ _ _)
theorem rch_any (st : PS) : Rch st (anyP st).2 := (((rch_must st [40]).trans (rch_all _)).trans (rch_many rch_all orT 8 st.ts.length _ [(allP (mustD st [40])).1])).trans (rch_must _ [41])
theorem rch_tgt (st : PS) : Rch st (tgtP st).2 := by
  unfold tgtP; split
  · rename_i h; exact ((rch_is h).trans (rch_any _)).trans (rch_many rch_any _ _ _ _ _)
  · exact .refl
theorem rch_obl (st : PS) : Rch st (oblP st).2 := ((rch_among st onWs).trans (rch_among _ dutyWs)).trans (rch_name _)
theorem rch_obls (st : PS) : Rch st (oblsP st).2 := rch_many rch_obl _ _ _ _ _
theorem rch_pos {a b : PS} (h : Rch a b) : b.ts = a.ts ∧ a.pos ≤ b.pos ∧ b.rules = a.rules := by
  induction h with
  | refl => exact ⟨rfl, Nat.le_refl _, rfl⟩
  | wrong e p _ _ _ ih =>
    unfold wrongD; split
    · exact ih
    · exact ih
  | next _ _ _ ih => exact ⟨ih.1, Nat.le_succ_of_le ih.2.1, ih.2.2⟩
theorem rch_oper {ex : ExF} (he : ∀ st l, Rch st (ex st l).2) (st : PS) (l : List NodeD) (b : Bool) : Rch st (operG ex st l b).2 := by
  unfold operG; simp only; split
  · exact he st l
  · have := rch_pos (he st l)
    exact .wrong _ _ (he st l) (.inl rfl) ⟨st.pos, this.2.1, by rw [this.1]; rfl⟩
theorem rch_opers {ex : ExF} (he : ∀ st l, Rch st (ex st l).2) : ∀ (bs : List Bool) (st : PS) (l : List NodeD), Rch st (opersG ex bs st l).2
  | [], st, l => .refl
  | b :: bs, st, l => by
    unfold opersG; split
    · exact (rch_oper he st l b).trans (rch_opers he bs _ _)
    · exact .refl
theorem rch_expr : ∀ (f : Nat) (st : PS) (l : List NodeD), Rch st (exprF f st l).2
  | 0, st, l => .refl
  | f + 1, st, l => by
    refine Rch.trans ?_ (rch_limit _ _)
    unfold headG; split
    · rename_i h
      exact (rch_is h).trans (((rch_among _ fnWs).trans (rch_opers (rch_expr f) _ _ _)).trans (rch_must _ [41]))
    · split
      · exact rch_attr st
      · exact rch_value st
def ifT : Txt := [105, 102]
def permitT : Txt := [112, 101, 114, 109, 105, 116]
def denyT : Txt := [100, 101, 110, 121]
def policyT : Txt := [112, 111, 108, 105, 99, 121]
def setT : Txt := [115, 101, 116]
def kindWs : List Txt := [policyT, setT]
def algWs : List Txt := [[100, 101, 110, 121, 111, 118, 101, 114], [112, 101, 114, 109, 105, 116, 111, 118, 101, 114], [102, 105, 114, 115, 116], [111, 110, 108, 121], [100, 101, 110, 121, 117, 110, 108, 101, 115, 115], [112, 101, 114, 109, 105, 116, 117, 110, 108, 101, 115, 115]]
def condP (st : PS) : List NodeD × PS := if isD st ifT = true then operG (exprF st.ts.length) (nextD st) [] false else ([], st)
theorem rch_cond (st : PS) : Rch st (condP st).2 := by
  unfold condP; split
  · rename_i h; exact (rch_is h).trans (rch_oper (rch_expr _) _ _ _)
  · exact .refl
theorem ah_cond {st : PS} (h : WfP st) : Ah st (condP st).2 := by
  unfold condP; split
  · rename_i hi
    have h1 := ah_next h (isD_kind hi)
    exact h1.trans (operG_ok (exprF_ok _) _ _ _ h1.1).1
  · exact .refl h
def ruleP (deny : Bool) (st : PS) : RuleD × PS :=
  (⟨(nameP st).1, deny, (tgtP (nameP st).2).1, (condP (tgtP (nameP st).2).2).1, (oblsP (condP (tgtP (nameP st).2).2).2).1⟩, mustD (oblsP (condP (tgtP (nameP st).2).2).2).2 [59])
theorem rch_rule (deny : Bool) (st : PS) : Rch st (ruleP deny st).2 := ((((rch_name st).trans (rch_tgt _)).trans (rch_cond _)).trans (rch_obls _)).trans (rch_must _ [59])
theorem ah_rule (deny : Bool) {st : PS} (h : WfP st) : Ah st (ruleP deny st).2 := by
  have h1 := ah_name h
  have h2 := ah_tgt h1.1
  have h3 := ah_cond h2.1
  have h4 := ah_obls h3.1
  exact (((h1.trans h2).trans h3).trans h4).trans (ah_must [59] h4.1)
inductive RchR (a : PS) : PS → Prop where
  | refl : RchR a a
  | small {b c : PS} : RchR a b → Rch b c → RchR a c
  | rule {b : PS} : RchR a b → b.bad = 0 → b.rules ≠ 64 → (hereD b).kind ≠ 7 → RchR a { nextD b with rules := b.rules + 1 }
theorem RchR.trans {a b c : PS} (x : RchR a b) (y : RchR b c) : RchR a c := by
  induction y with
  | refl => exact x
  | small _ h1 ih => exact .small ih h1
  | rule _ h1 h2 h3 ih => exact .rule ih h1 h2 h3
theorem Rch.big {a b : PS} (h : Rch a b) : RchR a b := .small .refl h
def someF : Nat → PS → List RuleD → List RuleD × PS
  | 0, st, l => (l, st)
  | f + 1, st, l => if isD st permitT = true ∨ isD st denyT = true then
      if l.length = 16 ∨ st.rules = 64 then (l, limitD st true)
      else someF f (ruleP (isD st denyT) { nextD st with rules := st.rules + 1 }).2 (l ++ [(ruleP (isD st denyT) { nextD st with rules := st.rules + 1 }).1])
    else (l, st)
abbrev PoF := PS → PolD × PS
def kidsF (pol : PoF) (deep : Bool) : Nat → PS → List PolD → List PolD × PS
  | 0, st, l => (l, st)
  | f + 1, st, l => if isD st policyT = true ∨ isD st setT = true then
      if l.length = 16 ∨ deep = true then (l, limitD st true)
      else kidsF pol deep f (pol st).2 (l ++ [(pol st).1])
    else (l, st)
def headP (st : PS) : (Bool × Txt × Int × TgtD) × PS :=
  (((amongD st kindWs).1 == 2, (nameP (amongD st kindWs).2).1, (amongD (nameP (amongD st kindWs).2).2 algWs).1, (tgtP (amongD (nameP (amongD st kindWs).2).2 algWs).2).1), mustD (tgtP (amongD (nameP (amongD st kindWs).2).2 algWs).2).2 [123])
theorem rch_head (st : PS) : Rch st (headP st).2 := ((((rch_among st kindWs).trans (rch_name _)).trans (rch_among _ algWs)).trans (rch_tgt _)).trans (rch_must _ [123])
theorem ah_head {st : PS} (h : WfP st) : Ah st (headP st).2 := by
  have h1 := ah_among kindWs h
  have h2 := ah_name h1.1
  have h3 := ah_among algWs h2.1
  have h4 := ah_tgt h3.1
  exact (((h1.trans h2).trans h3).trans h4).trans (ah_must [123] h4.1)
def bodyP (pol : PoF) (deep : Bool) (set : Bool) (st : PS) : (List RuleD × List PolD) × PS :=
  if set = true then (([], (kidsF pol deep 17 st []).1), (kidsF pol deep 17 st []).2) else (((someF 17 st []).1, []), (someF 17 st []).2)
def polF : Nat → PoF
  | 0, st => (.mk [] false 0 [] [] [] [], st)
  | r + 1, st => (.mk (headP st).1.2.1 (headP st).1.1 (headP st).1.2.2.1 (headP st).1.2.2.2 (bodyP (polF r) (r == 0) (headP st).1.1 (headP st).2).1.1 (bodyP (polF r) (r == 0) (headP st).1.1 (headP st).2).1.2
      (oblsP (mustD (bodyP (polF r) (r == 0) (headP st).1.1 (headP st).2).2 [125])).1, (oblsP (mustD (bodyP (polF r) (r == 0) (headP st).1.1 (headP st).2).2 [125])).2)
theorem isD_or {st : PS} {a b : Txt} (h : isD st a = true ∨ isD st b = true) : st.bad = 0 ∧ (hereD st).kind ≠ 7 := by
  rcases h with h | h
  · exact ⟨isD_bad h, isD_kind h⟩
  · exact ⟨isD_bad h, isD_kind h⟩
theorem ah_rules {st : PS} (h : WfP st) (hk : (hereD st).kind ≠ 7) : Ah st { nextD st with rules := st.rules + 1 } := ah_next h hk
theorem ah_some : ∀ (f : Nat) (st : PS) (l : List RuleD), WfP st → Ah st (someF f st l).2
  | 0, st, l, h => .refl h
  | f + 1, st, l, h => by
    unfold someF; split
    · rename_i hi
      split
      · exact ah_limit true h
      · have h1 := ah_rules h (isD_or hi).2
        have h2 := ah_rule (isD st denyT) h1.1
        exact (h1.trans h2).trans (ah_some f _ _ h2.1)
    · exact .refl h
theorem rch_some : ∀ (f : Nat) (st : PS) (l : List RuleD), RchR st (someF f st l).2
  | 0, st, l => .refl
  | f + 1, st, l => by
    unfold someF; split
    · rename_i hi
      split
      · exact (rch_limit st true).big
      · rename_i hn
        have h1 : RchR st { nextD st with rules := st.rules + 1 } := .rule .refl (isD_or hi).1 (fun e => hn (.inr e)) (isD_or hi).2
        exact (h1.trans (rch_rule (isD st denyT) _).big).trans (rch_some f _ _)
    · exact .refl
theorem ah_kids {pol : PoF} (hp : ∀ st, WfP st → Ah st (pol st).2) (deep : Bool) : ∀ (f : Nat) (st : PS) (l : List PolD), WfP st → Ah st (kidsF pol deep f st l).2
  | 0, st, l, h => .refl h
  | f + 1, st, l, h => by
    unfold kidsF; split
    · split
      · exact ah_limit true h
      · have h1 := hp st h
        exact h1.trans (ah_kids hp deep f _ _ h1.1)
    · exact .refl h
theorem rch_kids {pol : PoF} (hp : ∀ st, RchR st (pol st).2) (deep : Bool) : ∀ (f : Nat) (st : PS) (l : List PolD), RchR st (kidsF pol deep f st l).2
  | 0, st, l => .refl
  | f + 1, st, l => by
    unfold kidsF; split
    · split
      · exact (rch_limit st true).big
      · exact (hp st).trans (rch_kids hp deep f _ _)
    · exact .refl
theorem ah_body {pol : PoF} (hp : ∀ st, WfP st → Ah st (pol st).2) (deep set : Bool) {st : PS} (h : WfP st) : Ah st (bodyP pol deep set st).2 := by
  unfold bodyP; split
  · exact ah_kids hp deep _ _ _ h
  · exact ah_some _ _ _ h
theorem rch_body {pol : PoF} (hp : ∀ st, RchR st (pol st).2) (deep set : Bool) (st : PS) : RchR st (bodyP pol deep set st).2 := by
  unfold bodyP; split
  · exact rch_kids hp deep _ _ _
  · exact rch_some _ _ _
theorem ah_pol : ∀ (r : Nat) (st : PS), WfP st → Ah st (polF r st).2
  | 0, st, h => .refl h
  | r + 1, st, h => by
    have h1 := ah_head h
    have h2 := ah_body (ah_pol r) (r == 0) (headP st).1.1 h1.1
    have h3 := ah_must [125] h2.1
    exact ((h1.trans h2).trans h3).trans (ah_obls h3.1)
theorem rch_pol : ∀ (r : Nat) (st : PS), RchR st (polF r st).2
  | 0, st => .refl
  | r + 1, st => (((rch_head st).big.trans (rch_body (rch_pol r) _ _ _)).trans (rch_must _ [125]).big).trans (rch_obls _).big
theorem rules_pol {a b : PS} (h : RchR a b) (h0 : a.rules ≤ 64) : b.rules ≤ 64 := by
  induction h with
  | refl => exact h0
  | small _ h1 ih => rw [(rch_pos h1).2.2]; exact ih
  | rule _ _ h2 _ ih => show _ + 1 ≤ 64; omega
end Go.Bf

set_option linter.unusedVariables false
namespace Go.Bf
open Go Go.Ab
theorem lexF_form : ∀ (f : Nat) (s : Txt) (a : Nat) (out l : List TokD), lexF f s a out = .ok l → ∃ pre, l = out ++ pre ++ [⟨7, (a + s.length : Nat), 0, []⟩] ∧ pre.length ≤ s.length ∧ ∀ t ∈ pre, (a : Int) ≤ t.pos ∧ t.pos < ((a + s.length : Nat) : Int)
  | 0, _, _, _, _, h => by simp [lexF] at h
  | f + 1, [], a, out, l, h => by
    simp only [lexF, Lexed.ok.injEq] at h
    exact ⟨[], by simp [← h], by simp, by simp⟩
  | f + 1, c :: r, a, out, l, h => by
    simp only [lexF] at h
    split at h
    · obtain ⟨pre, e1, e2, e3⟩ := lexF_form f r (a + 1) out l h
      have ee : ((a + 1 + r.length : Nat) : Int) = ((a + (c :: r).length : Nat) : Int) := by simp only [List.length_cons]; omega
      refine ⟨pre, by rw [e1, ee], by simp only [List.length_cons]; omega, fun t ht => ?_⟩
      have := e3 t ht
      rw [ee] at this
      exact ⟨by omega, this.2⟩
    · split at h
      · cases h
      · rename_i hn
        have hle := beginsD_le (c :: r) (by simp)
        obtain ⟨pre, e1, e2, e3⟩ := lexF_form f _ _ _ l h
        have ee : ((a + (beginsD (c :: r)).2 + ((c :: r).drop (beginsD (c :: r)).2).length : Nat) : Int) = ((a + (c :: r).length : Nat) : Int) := by rw [List.length_drop]; omega
        refine ⟨{ (beginsD (c :: r)).1 with pos := a } :: pre, by rw [e1, ee]; simp, by rw [List.length_drop] at e2; simp only [List.length_cons] at e2 hle ⊢; omega, fun t ht => ?_⟩
        rcases List.mem_cons.1 ht with rfl | ht
        · refine ⟨Int.le_refl _, ?_⟩
          show (a : Int) < _
          simp only [List.length_cons]; omega
        · have := e3 t ht
          rw [ee] at this
          exact ⟨by omega, this.2⟩
theorem lexD_form {s : Txt} {ts : List TokD} (h : lexD s = .ok ts) : ∃ pre, ts = pre ++ [⟨7, s.length, 0, []⟩] ∧ pre.length ≤ s.length ∧ (∀ t ∈ pre, 0 ≤ t.pos ∧ t.pos < (s.length : Int)) ∧ s.length ≤ 4096 := by
  unfold lexD at h
  split at h
  · cases h
  · rename_i hl
    obtain ⟨pre, e1, e2, e3⟩ := lexF_form _ _ _ _ _ h
    exact ⟨pre, by simpa using e1, e2, by simpa using e3, by omega⟩
theorem wfP_start {s : Txt} {ts : List TokD} (h : lexD s = .ok ts) (x : Nat) (e p : Int) : WfP ⟨ts, 0, x, e, p⟩ := by
  obtain ⟨pre, rfl, h2, _, h3⟩ := lexD_form h
  refine ⟨by simp, fun i hi hk => ?_, by simp; omega⟩
  by_cases hl : i < pre.length
  · simp; omega
  · exfalso
    simp only [List.length_append, List.length_singleton] at hi
    have : i = pre.length := by omega
    subst this
    apply hk
    simp
theorem lexF_bad : ∀ (f : Nat) (s : Txt) (a : Nat) (out : List TokD) (e p : Int), lexF f s a out = .bad e p → e = 5 ∧ 0 ≤ p ∧ (s.length < f → p ≤ ((a + s.length : Nat) : Int))
  | 0, s, a, out, e, p, h => by
    simp only [lexF, Lexed.bad.injEq] at h
    obtain ⟨rfl, rfl⟩ := h
    exact ⟨rfl, by omega, by omega⟩
  | f + 1, [], a, out, e, p, h => by simp [lexF] at h
  | f + 1, c :: r, a, out, e, p, h => by
    simp only [lexF] at h
    split at h
    · obtain ⟨h1, h2, h3⟩ := lexF_bad f r (a + 1) out e p h
      refine ⟨h1, h2, fun hl => ?_⟩
      simp only [List.length_cons] at hl ⊢
      have := h3 (by omega)
      omega
    · split at h
      · simp only [Lexed.bad.injEq] at h
        obtain ⟨rfl, rfl⟩ := h
        exact ⟨rfl, by omega, fun _ => by omega⟩
      · obtain ⟨h1, h2, h3⟩ := lexF_bad f _ _ _ e p h
        refine ⟨h1, h2, fun hl => ?_⟩
        have hle := beginsD_le (c :: r) (by simp)
        rw [List.length_drop] at h3
        have := h3 (by omega)
        omega
theorem lexD_bad {s : Txt} {e a : Int} (h : lexD s = .bad e a) : (e = 5 ∨ e = 6) ∧ 0 ≤ a ∧ a ≤ s.length := by
  unfold lexD at h
  split at h
  · simp only [Lexed.bad.injEq] at h
    obtain ⟨rfl, rfl⟩ := h
    exact ⟨.inr rfl, by omega, by omega⟩
  · obtain ⟨h1, h2, h3⟩ := lexF_bad _ _ _ _ _ _ h
    have := h3 (by omega)
    exact ⟨.inl h1, h2, by omega⟩
def zeroP : PolD := .mk [] false 0 [] [] [] []
def endP (s : Txt) (x : PolD × PS) : PS :=
  if (if (hereD x.2).kind = 7 then x.2 else stuckD x.2).bad = 0 ∧ rightE x.1 ≠ 0 then wrongD (if (hereD x.2).kind = 7 then x.2 else stuckD x.2) 5 s.length else (if (hereD x.2).kind = 7 then x.2 else stuckD x.2)
def parseT (s : Txt) (ts : List TokD) : PolD × Int × Int :=
  if (endP s (polF 4 ⟨ts, 0, 0, 0, 0⟩)).bad = 0 then ((polF 4 ⟨ts, 0, 0, 0, 0⟩).1, 0, 0) else (zeroP, (endP s (polF 4 ⟨ts, 0, 0, 0, 0⟩)).bad, (endP s (polF 4 ⟨ts, 0, 0, 0, 0⟩)).place)
def parseD (s : Txt) : PolD × Int × Int := match lexD s with
  | .bad e a => (zeroP, e, a)
  | .ok ts => parseT s ts
end Go.Bf

set_option linter.unusedSimpArgs false
set_option linter.unusedVariables false
namespace Go.Proofs.YtnhelgnmadbpgaaGreatDoor
open Go Go.Ab Go.Bf
def Byt (g : FuncId) (p : UInt8 → Bool) : Prop := ∀ (c : UInt8) (h : Heap), FnOK Tryz.prog g [.v (.int .u8 c.toNat)] h fun r h' => r = .v (.bool (p c)) ∧ h' = h
theorem isDigit_ok : Byt 153 dgt := fun c h => by
  refine FnOK.body hU hm Tryz.func153 rfl (by kernel_rfl) 9 rfl [.tmp 2] rfl (Nat.le_of_ble_eq_true rfl) (fun hwf => ?_)
  cases d1 : decide (48 ≤ (c.toNat : Int)) <;> cases d2 : decide ((c.toNat : Int) ≤ 57)
  all_goals
    simp -implicitDefEqProofs only [go_sem, d1, d2]
    exact .same (.refl _) ⟨by simp only [dgt, d1, d2]; rfl, rfl⟩
theorem isWord_ok : Byt 182 wrd := fun c h => by
  refine FnOK.body hU hm Tryz.func182 rfl (by kernel_rfl) 17 rfl [.tmp 2] rfl (Nat.le_of_ble_eq_true rfl) (fun hwf => ?_)
  cases d1 : decide (97 ≤ (c.toNat : Int)) <;> cases d2 : decide ((c.toNat : Int) ≤ 122) <;> cases d3 : dgt c <;> cases d4 : ((c.toNat : Int) == 95)
  all_goals
    simp -implicitDefEqProofs only [go_sem, d1, d2, d4]
    first
      | exact .same (.refl _) ⟨by simp only [wrd, ltr, d1, d2, d3, d4]; rfl, rfl⟩
      | (refine (isDigit_ok c _).pthen ?_
         simp -implicitDefEqProofs only [go_sem, d1, d2, d3, d4]
         exact .same (.refl _) ⟨by simp only [wrd, ltr, d1, d2, d3, d4]; rfl, rfl⟩)
theorem plain_ok : Byt 184 (fun c => !oddB c) := fun c h => by
  refine FnOK.body hU hm Tryz.func184 rfl (by kernel_rfl) 17 rfl [.tmp 2] rfl (Nat.le_of_ble_eq_true rfl) (fun hwf => ?_)
  cases d1 : decide (32 ≤ (c.toNat : Int)) <;> cases d2 : decide ((c.toNat : Int) ≤ 126) <;> cases d3 : ((c.toNat : Int) == 34) <;> cases d4 : ((c.toNat : Int) == 92)
  all_goals
    simp -implicitDefEqProofs only [go_sem, d1, d2, d3, d4, bne]
    refine .same (.refl _) ⟨?_, rfl⟩
    have e1 : decide ((c.toNat : Int) < 32) = !decide (32 ≤ (c.toNat : Int)) := by
      by_cases h : (32 : Int) ≤ c.toNat
      · simp [h, Int.not_lt.2 h]
      · simp [h, Int.not_le.1 h]
    have e2 : decide (126 < (c.toNat : Int)) = !decide ((c.toNat : Int) ≤ 126) := by
      by_cases h : (c.toNat : Int) ≤ 126
      · simp [h, Int.not_lt.2 h]
      · simp [h, Int.not_le.1 h]
    simp only [oddB, e1, e2, d1, d2, d3, d4]
    rfl
theorem tw_succ (p : UInt8 → Bool) (s : Txt) (i : Nat) (hi : i < s.length) (h : i ≤ (s.takeWhile p).length) (hp : p s[i] = true) : i + 1 ≤ (s.takeWhile p).length := by
  induction s generalizing i with
  | nil => cases hi
  | cons c r ih =>
    cases i with
    | zero => simp only [List.getElem_cons_zero] at hp; simp [hp]
    | succ i =>
      by_cases hc : p c = true
      · simp only [List.takeWhile_cons, hc, if_true, List.length_cons] at h ⊢
        have := ih i (by simpa using hi) (by omega) (by simpa using hp)
        omega
      · simp [hc] at h
theorem tw_at (p : UInt8 → Bool) (s : Txt) (i : Nat) (hi : i < s.length) (h : i ≤ (s.takeWhile p).length) (hp : p s[i] = false) : (s.takeWhile p).length = i := by
  induction s generalizing i with
  | nil => cases hi
  | cons c r ih =>
    cases i with
    | zero => simp only [List.getElem_cons_zero] at hp; simp [hp]
    | succ i =>
      by_cases hc : p c = true
      · simp only [List.takeWhile_cons, hc, if_true, List.length_cons] at h ⊢
        rw [ih i (by simpa using hi) (by omega) (by simpa using hp)]
      · simp [hc] at h
theorem run_ok (g : FuncId) (p : UInt8 → Bool) (hg : Byt g p) (s : Txt) (h : Heap) : FnOK Tryz.prog 181 [.s s, .fn g []] h fun r h' => r = .v (.int .i64 (s.takeWhile p).length) ∧ h' = h := by
  refine FnOK.body hU hm Tryz.func181 rfl (by kernel_rfl) 20 rfl [.tmp 4] rfl (Nat.le_of_ble_eq_true rfl) (fun hwf => ?_)
  have hlen := hwf (.s s) (by simp)
  simp only [wfA, wf1, lim] at hlen
  simp -implicitDefEqProofs only [go_sem]
  refine .intro (fun m ρ h' => h' = h ∧ ∃ i : Nat, i ≤ s.length ∧ m = s.length - i ∧ i ≤ (s.takeWhile p).length ∧ lk ρ 0 = some (.s s) ∧ lk ρ 1 = some (.fn g []) ∧ lk ρ 5 = some (.v (.int .i64 i))) s.length ?_ ?_
  · refine ⟨rfl, 0, by omega, rfl, by omega, ?_, ?_, ?_⟩ <;> simp -implicitDefEqProofs only [go_sem]
  · rintro m ρ h' ⟨rfl, i, hi, rfl, hc, r0, r1, r5⟩
    cases d1 : decide ((i : Int) < (s.length : Int))
    · have hge : i = s.length := by have := of_decide_eq_false d1; omega
      have := takeWhile_le p s
      simp -implicitDefEqProofs only [go_sem, r0, r1, r5, d1]
      exact .same (.refl _) ⟨by simp only [oneOr]; congr 3; omega, rfl⟩
    · have hlt : i < s.length := by have := of_decide_eq_true d1; omega
      have w1 : IntKind.i64.wrap ((i : Int) + 1) = ((i + 1 : Nat) : Int) := by rw [wr64 _ (by omega)]; omega
      simp -implicitDefEqProofs only [go_sem, r0, r1, r5, d1]
      refine .at i hlt ?_
      simp -implicitDefEqProofs only [go_sem, r0, r1, r5, d1, byteA]
      refine (hg s[i] _).pthen ?_
      cases d2 : p s[i]
      · have := tw_at p s i hlt hc d2
        simp -implicitDefEqProofs only [go_sem, r0, r1, r5, d1, d2]
        exact .same (.refl _) ⟨by rw [this]; rfl, rfl⟩
      · simp -implicitDefEqProofs only [go_sem, r0, r1, r5, d1, d2, w1]
        refine ⟨_, ?_, rfl, i + 1, by omega, rfl, tw_succ p s i hlt hc d2, ?_, ?_, ?_⟩
        · omega
        all_goals simp -implicitDefEqProofs only [go_sem, r0, r1, r5, w1]
theorem name_ok' (s : Txt) (h : Heap) : FnOK Tryz.prog 152 [.s s] h fun r h' => r = .s (wordD s) ∧ h' = h := by
  refine FnOK.body hU hm Tryz.func152 rfl (by kernel_rfl) 12 rfl [.tmp 2] rfl (Nat.le_of_ble_eq_true rfl) (fun hwf => ?_)
  simp -implicitDefEqProofs only [go_sem]
  refine (run_ok _ _ isWord_ok s _).pthen ?_
  simp -implicitDefEqProofs only [go_sem]
  refine ⟨by omega, by have := takeWhile_le wrd s; omega, ?_⟩
  simp -implicitDefEqProofs only [go_sem, Option.isSome_none, Option.isSome_some, cutL_ft, Int.toNat_natCast, takeWhile_take]
  refine ⟨by have := takeWhile_le wrd s; omega, ?_⟩
  refine (name_ok _ _).pthen ?_
  cases d1 : nameOK (s.takeWhile wrd)
  · simp -implicitDefEqProofs only [go_sem, d1]
    exact .same (.refl _) ⟨by simp [wordD, d1, oneOr], rfl⟩
  · simp -implicitDefEqProofs only [go_sem, d1]
    exact .same (.refl _) ⟨by simp [wordD, d1, oneOr], rfl⟩
theorem wr8 {x : Int} (h : 0 ≤ x ∧ x < 256) : IntKind.u8.wrap x = x := by
  unfold IntKind.wrap
  simp only [IntKind.signed, IntKind.bits]
  simp
  omega
theorem digit_ok (c : UInt8) (h : Heap) : FnOK Tryz.prog 197 [.v (.int .u8 c.toNat)] h fun r h' => r = .v (.int .i64 (hexI c)) ∧ h' = h := by
  refine FnOK.body hU hm Tryz.func197 rfl (by kernel_rfl) 20 rfl [.tmp 2] rfl (Nat.le_of_ble_eq_true rfl) (fun hwf => ?_)
  have hc := c.toNat_lt
  simp -implicitDefEqProofs only [go_sem]
  refine (isDigit_ok c _).pthen ?_
  cases d1 : dgt c
  case true =>
    have e1 : 48 ≤ (c.toNat : Int) ∧ (c.toNat : Int) ≤ 57 := by simpa [dgt] using d1
    have w1 : IntKind.u8.wrap ((c.toNat : Int) - 48) = (c.toNat : Int) - 48 := wr8 (by omega)
    have w2 : IntKind.i64.wrap ((c.toNat : Int) - 48) = (c.toNat : Int) - 48 := wr64 _ (by omega)
    simp -implicitDefEqProofs only [go_sem, d1, w1, w2]
    exact .same (.refl _) ⟨by simp [hexI, d1, oneOr], rfl⟩
  cases d2 : decide (97 ≤ (c.toNat : Int)) <;> cases d3 : decide ((c.toNat : Int) ≤ 102)
  case true.true =>
    have e2 := of_decide_eq_true d2
    have e3 := of_decide_eq_true d3
    have w1 : IntKind.u8.wrap ((c.toNat : Int) - 97) = (c.toNat : Int) - 97 := wr8 (by omega)
    have w2 : IntKind.i64.wrap ((c.toNat : Int) - 97) = (c.toNat : Int) - 97 := wr64 _ (by omega)
    have w3 : IntKind.i64.wrap ((c.toNat : Int) - 97 + 10) = (c.toNat : Int) - 87 := by rw [wr64 _ (by omega)]; omega
    simp -implicitDefEqProofs only [go_sem, d1, d2, d3, w1, w2, w3]
    exact .same (.refl _) ⟨by simp [hexI, d1, e2, e3, oneOr], rfl⟩
  all_goals
    simp -implicitDefEqProofs only [go_sem, d1, d2, d3]
    simp only [decide_eq_true_eq, decide_eq_false_iff_not] at d2 d3
    refine .same (.refl _) ⟨?_, rfl⟩
    have : ¬ (97 ≤ (c.toNat : Int) ∧ (c.toNat : Int) ≤ 102) := by omega
    simp [hexI, d1, this, oneOr]
theorem hexI_le (c : UInt8) : -1 ≤ hexI c ∧ hexI c ≤ 15 := by
  unfold hexI
  split
  · rename_i h; simp [dgt] at h; omega
  · split <;> omega
theorem u8_ofNat (n : Nat) (h : n < 256) : ((UInt8.ofNat n).toNat : Int) = n := by
  simp; omega
theorem odd_ok (s : Txt) (h : Heap) : FnOK Tryz.prog 185 [.s s] h fun r h' => (∃ x : Int, r = .tup [.v (.int .u8 x), .v (.bool (oddD s).isSome)] ∧ ∀ c, oddD s = some c → x = c.toNat) ∧ h' = h := by
  refine FnOK.body hU hm Tryz.func185 rfl (by kernel_rfl) 38 rfl [.tmp 2, .tmp 3] rfl (Nat.le_of_ble_eq_true rfl) (fun hwf => ?_)
  have hlen := hwf (.s s) (by simp)
  simp only [wfA, wf1, lim] at hlen
  cases d0 : decide ((s.length : Int) < 3)
  case true =>
    have e0 : s.length < 3 := by have := of_decide_eq_true d0; omega
    have : oddD s = none := by
      match s, e0 with
      | [], _ => rfl
      | [_], _ => rfl
      | [_, _], _ => rfl
    simp -implicitDefEqProofs only [go_sem, d0]
    exact .same (.refl _) ⟨⟨0, by rw [this]; rfl, fun c hc => by rw [this] at hc; cases hc⟩, rfl⟩
  have e0 : 3 ≤ s.length := by have := of_decide_eq_false d0; omega
  obtain ⟨b, x, y, t, rfl⟩ : ∃ b x y t, s = b :: x :: y :: t := by
    match s, e0 with
    | b :: x :: y :: t, _ => exact ⟨b, x, y, t, rfl⟩
  simp only [List.length_cons] at d0
  have bad : oddD (b :: x :: y :: t) = none → ∃ z : Int, AV.tup [.v (.int .u8 0), .v (.bool false)] = .tup [.v (.int .u8 z), .v (.bool (oddD (b :: x :: y :: t)).isSome)] ∧ ∀ c, oddD (b :: x :: y :: t) = some c → z = c.toNat :=
    fun e => ⟨0, by rw [e]; rfl, fun c hc => by rw [e] at hc; cases hc⟩
  cases d1 : ((b.toNat : Int) != 92)
  case true =>
    have e1 : b ≠ 92 := by rintro rfl; simp at d1
    simp -implicitDefEqProofs only [go_sem, d0]
    refine .at 0 (by simp) ?_
    simp -implicitDefEqProofs only [go_sem, d0, byteA, List.getElem_cons_zero, d1]
    exact .same (.refl _) ⟨bad (by simp [oddD, e1]), rfl⟩
  have e1 : b = 92 := by
    have : (b.toNat : Int) = 92 := by simpa using d1
    exact UInt8.toNat_inj.1 (by show b.toNat = 92; omega)
  simp -implicitDefEqProofs only [go_sem, d0]
  refine .at 0 (by simp) ?_
  simp -implicitDefEqProofs only [go_sem, d0, byteA, List.getElem_cons_zero, d1]
  refine .at 1 (by simp) ?_
  simp -implicitDefEqProofs only [go_sem, d0, byteA, List.getElem_cons_zero, List.getElem_cons_succ, d1]
  refine (digit_ok x _).pthen ?_
  cases d2 : decide (hexI x < 0)
  case true =>
    have e2 := of_decide_eq_true d2
    simp -implicitDefEqProofs only [go_sem, d0, d1, d2]
    exact .same (.refl _) ⟨bad (by simp [oddD]; intros; omega), rfl⟩
  have e2 : 0 ≤ hexI x := by have := of_decide_eq_false d2; omega
  simp -implicitDefEqProofs only [go_sem, d0, d1, d2]
  refine .at 2 (by simp) ?_
  simp -implicitDefEqProofs only [go_sem, d0, d1, d2, byteA, List.getElem_cons_zero, List.getElem_cons_succ]
  refine (digit_ok y _).pthen ?_
  cases d3 : decide (hexI y < 0)
  case true =>
    have e3 := of_decide_eq_true d3
    simp -implicitDefEqProofs only [go_sem, d0, d1, d2, d3]
    exact .same (.refl _) ⟨bad (by simp [oddD]; intros; omega), rfl⟩
  have e3 : 0 ≤ hexI y := by have := of_decide_eq_false d3; omega
  have hx := hexI_le x
  have hy := hexI_le y
  have w1 : IntKind.i64.wrap (16 * hexI x) = 16 * hexI x := wr64 _ (by omega)
  have w2 : IntKind.i64.wrap (16 * hexI x + hexI y) = 16 * hexI x + hexI y := wr64 _ (by omega)
  have w3 : IntKind.u8.wrap (16 * hexI x + hexI y) = ((UInt8.ofNat (16 * hexI x + hexI y).toNat).toNat : Int) := by
    rw [wr8 (by omega), u8_ofNat _ (by omega)]; omega
  simp -implicitDefEqProofs only [go_sem, d0, d1, d2, d3]
  refine .quiet (by kernel_rfl) ?_
  simp -implicitDefEqProofs only [go_sem]
  refine .at 1 (by simp) ?_
  simp -implicitDefEqProofs only [go_sem, byteA, List.getElem_cons_zero, List.getElem_cons_succ]
  refine ⟨_, digit_ok x _, ?_⟩
  simp -implicitDefEqProofs only [go_sem]
  refine .at 2 (by simp) ?_
  simp -implicitDefEqProofs only [go_sem, byteA, List.getElem_cons_zero, List.getElem_cons_succ]
  refine ⟨_, digit_ok y _, ?_⟩
  simp -implicitDefEqProofs only [go_sem, w1, w2, w3]
  refine (plain_ok _ _).pthen ?_
  simp -implicitDefEqProofs only [go_sem]
  refine .same (.refl _) ⟨⟨((UInt8.ofNat (16 * hexI x + hexI y).toNat).toNat : Int), ?_, fun c hc => ?_⟩, rfl⟩
  · cases d5 : oddB (UInt8.ofNat (16 * hexI x + hexI y).toNat) <;> simp [oddD, e1, e2, e3, d5, oneOr]
  · simp only [oddD] at hc
    split at hc
    · cases hc; rfl
    · cases hc
end Go.Proofs.YtnhelgnmadbpgaaGreatDoor

set_option linter.unusedSimpArgs false
set_option linter.unusedVariables false
namespace Go.Proofs.YtnhelgnmadbpgaaGreatDoor
open Go Go.Ab Go.Bf
theorem u5z : (U 5).sz = 1 := by simp only [go_sem]
theorem u5b : (U 5).bytes = 1 := by simp only [go_sem]
theorem byteA_sized (l : List UInt8) : Sized 1 (l.map byteA) := fun z hz => by
  obtain ⟨c, _, rfl⟩ := List.mem_map.1 hz; rfl
theorem text_ok (s : Txt) (hs : s.length ≤ 10000) (h : Heap) : FnOK Tryz.prog 155 [.s s] h fun r h' => r = .tup [.s (textD s).1, .v (.int .i64 (textD s).2)] ∧ h' = h := by
  refine FnOK.body hU hm Tryz.func155 rfl (by kernel_rfl) 50 rfl [.tmp 2, .tmp 3] rfl (Nat.le_of_ble_eq_true rfl) (fun hwf => ?_)
  simp -implicitDefEqProofs only [go_sem]
  refine .intro (fun m ρ h' => ∃ (i f : Nat) (y : AV) (out : Txt), Acc U 5 h h' y (out.map byteA) ∧ out.length ≤ i ∧ m = s.length + 1 - i ∧ i ≤ s.length + 3 ∧ s.length ≤ f + i ∧ textF f (s.drop i) i out = textD s ∧ lk ρ 0 = some (.s s) ∧ lk ρ 4 = some y ∧ lk ρ 5 = some (.v (.int .i64 i))) s.length ?_ ?_
  · refine ⟨1, s.length, .sl [] .full, [], .full (.refl _), by simp, by omega, by omega, by omega, rfl, ?_, ?_, ?_⟩ <;> simp -implicitDefEqProofs only [go_sem]
  · rintro m ρ h' ⟨i, f, y, out, hy, hoi, rfl, hi, hf, he, r0, r4, r5⟩
    cases d1 : decide ((i : Int) < (s.length : Int))
    · have hge : s.length ≤ i := by have := of_decide_eq_false d1; omega
      have hd : s.drop i = [] := List.drop_of_length_le hge
      have : textD s = ([], 0) := by
        rw [← he, hd]
        cases f <;> rfl
      simp -implicitDefEqProofs only [go_sem, r0, r4, r5, d1]
      exact .mk _ (.refl _) hy.1 ⟨by rw [this]; rfl, rfl⟩
    have hlt : i < s.length := by have := of_decide_eq_true d1; omega
    obtain ⟨f, rfl⟩ : ∃ g, f = g + 1 := ⟨f - 1, by omega⟩
    have hdr : s.drop i = s[i] :: s.drop (i + 1) := List.drop_eq_getElem_cons hlt
    rw [hdr] at he
    simp only [textF] at he
    have w1 : IntKind.i64.wrap ((i : Int) + 1) = ((i + 1 : Nat) : Int) := by rw [wr64 _ (by omega)]; omega
    have w3 : IntKind.i64.wrap ((i : Int) + 3) = ((i + 3 : Nat) : Int) := by rw [wr64 _ (by omega)]; omega
    simp -implicitDefEqProofs only [go_sem, r0, r4, r5, d1]
    refine .at i hlt ?_
    cases d2 : ((s[i].toNat : Int) == 34)
    case true =>
      have e2 : s[i] = 34 := by
        have : (s[i].toNat : Int) = 34 := by simpa using d2
        exact UInt8.toNat_inj.1 (by show s[i].toNat = 34; omega)
      rw [if_pos e2] at he
      cases d3 : decide (64 < (out.length : Int))
      case true =>
        have e3 : 64 < out.length := by have := of_decide_eq_true d3; omega
        rw [if_pos e3] at he
        simp -implicitDefEqProofs only [go_sem, r0, r4, r5, d1, byteA, d2, hy.len, List.length_map, d3]
        exact .mk _ (.refl _) hy.1 ⟨by rw [← he]; rfl, rfl⟩
      have e3 : ¬ 64 < out.length := by have := of_decide_eq_false d3; omega
      rw [if_neg e3] at he
      simp -implicitDefEqProofs only [go_sem, r0, r4, r5, d1, byteA, d2, hy.len, List.length_map, d3, w1]
      obtain ⟨q, rfl⟩ := hy.row
      simp -implicitDefEqProofs only [go_sem, r0, r4, r5, w1]
      exact .mk _ (.refl _) hy.1 ⟨by rw [← he]; rfl, rfl⟩
    have e2 : s[i] ≠ 34 := by intro e; rw [e] at d2; simp at d2
    rw [if_neg e2] at he
    simp -implicitDefEqProofs only [go_sem, r0, r4, r5, d1, byteA, d2]
    refine .at i hlt ?_
    simp -implicitDefEqProofs only [go_sem, r0, r4, r5, d1, byteA, d2]
    refine (plain_ok _ _).pthen ?_
    cases d4 : oddB s[i]
    · rw [if_pos d4] at he
      simp -implicitDefEqProofs only [go_sem, r0, r4, r5, d4]
      refine .at i hlt ?_
      simp -implicitDefEqProofs only [go_sem, r0, r4, r5, d4, byteA]
      refine hy.app (zs := [byteA s[i]]) (by rw [u5z]; decide) (by rw [u5b]; decide) (fun k hk => hk) (by rw [u5z]; exact byteA_sized out) (by rw [u5z]; exact byteA_sized [s[i]]) (by rw [u5b]; simp; omega) fun y' h2 hy' hk2 => ?_
      simp -implicitDefEqProofs only [go_sem, r0, r4, r5, d4, w1]
      refine ⟨_, ?_, i + 1, f, y', out ++ [s[i]], by simpa using hy', by simp; omega, rfl, by omega, by omega, he, ?_, ?_, ?_⟩
      · omega
      all_goals simp -implicitDefEqProofs only [go_sem, r0, r4, r5, w1]
    · rw [if_neg (by simp [d4])] at he
      simp -implicitDefEqProofs only [go_sem, r0, r4, r5, d4]
      refine ⟨by omega, ?_⟩
      simp -implicitDefEqProofs only [go_sem, Option.isSome_none, Option.isSome_some, cutL_tf, Int.toNat_natCast, r0, r4, r5]
      refine ⟨by omega, by omega, ?_⟩
      refine (odd_ok _ _).mono fun x h2 hx => ?_
      obtain ⟨⟨v, rfl, hv⟩, rfl⟩ := hx
      rw [← hdr] at he
      cases e5 : oddD (s.drop i) with
      | none =>
        rw [e5] at he
        simp -implicitDefEqProofs only [go_sem, r0, r4, r5, Option.isSome_none]
        exact .mk _ (.refl _) hy.1 ⟨by rw [← he]; rfl, rfl⟩
      | some b =>
        rw [e5] at he
        have hvb := hv b e5
        subst hvb
        have h3 := oddD_len e5
        simp only [List.length_drop] at h3
        simp -implicitDefEqProofs only [go_sem, r0, r4, r5, Option.isSome_some]
        refine hy.app (zs := [byteA b]) (by rw [u5z]; decide) (by rw [u5b]; decide) (fun k hk => hk) (by rw [u5z]; exact byteA_sized out) (by rw [u5z]; exact byteA_sized [b]) (by rw [u5b]; simp; omega) fun y' h2 hy' hk2 => ?_
        simp -implicitDefEqProofs only [go_sem, r0, r4, r5, w3]
        refine ⟨_, ?_, i + 3, f, y', out ++ [b], by simpa using hy', by simp; omega, rfl, by omega, by omega, ?_, ?_, ?_, ?_⟩
        · omega
        · simp only [List.drop_drop] at he
          exact he
        all_goals simp -implicitDefEqProofs only [go_sem, r0, r4, r5, w3]
end Go.Proofs.YtnhelgnmadbpgaaGreatDoor

set_option linter.unusedVariables false
namespace Go.Bf
open Go Go.Ab
theorem dgt_iff (c : UInt8) : dgt c = true ↔ 48 ≤ c.toNat ∧ c.toNat ≤ 57 := by
  simp only [dgt, Bool.and_eq_true, decide_eq_true_eq]; omega
def decA (acc : Nat) (l : Txt) : Nat := l.foldl (fun n c => n * 10 + (c.toNat - 48)) acc
theorem decA_cons (acc : Nat) (c : UInt8) (r : Txt) : decA acc (c :: r) = decA (acc * 10 + (c.toNat - 48)) r := List.foldl_cons ..
theorem dec_mono : ∀ (l : Txt) (acc : Nat), acc ≤ decA acc l
  | [], acc => Nat.le_refl _
  | c :: r, acc => by rw [decA_cons]; exact Nat.le_trans (by omega) (dec_mono r (acc * 10 + (c.toNat - 48)))
theorem parse_digits : ∀ (l : Txt) (acc : Nat), (∀ c ∈ l, dgt c = true) → acc < 18446744073709551616 →
    Lib.parseUint10 acc l = if decA acc l < 18446744073709551616 then .ok (decA acc l) else .range
  | [], acc, _, ha => by
    have : decA acc [] = acc := rfl
    rw [this, if_pos ha]; rfl
  | c :: r, acc, hd, ha => by
    have hc := (dgt_iff c).1 (hd c (by simp))
    have hm := dec_mono r (acc * 10 + (c.toNat - 48))
    rw [decA_cons]
    unfold Lib.parseUint10
    rw [if_pos hc]
    split
    · rw [if_neg (by omega)]
    · split
      · rw [if_neg (by omega)]
      · exact parse_digits r _ (fun x hx => hd x (by simp [hx])) (by omega)
def signT (neg : Bool) : Txt := if neg then [45] else []
theorem atoi_digits (neg : Bool) (d : Txt) (h0 : d ≠ []) (hd : ∀ c ∈ d, dgt c = true) :
    Lib.atoiAll (signT neg ++ d) = if -9223372036854775808 ≤ (if neg then -(decV d : Int) else (decV d : Int)) ∧ (if neg then -(decV d : Int) else (decV d : Int)) ≤ 9223372036854775807 then .ok (if neg then -(decV d : Int) else (decV d : Int)) else .range := by
  have hp : Lib.parseMag d = if decV d < 18446744073709551616 then .ok (decV d) else .range := by
    unfold Lib.parseMag
    rw [if_neg h0]
    exact parse_digits d 0 hd (by decide)
  cases neg
  · obtain ⟨c, r, rfl⟩ := List.exists_cons_of_ne_nil h0
    have hc := (dgt_iff c).1 (hd c (by simp))
    simp only [signT, Bool.false_eq_true, if_false, List.nil_append, Lib.atoiAll]
    rw [if_neg (by omega), hp]
    have e45 : (c.toNat = 45) = False := by simp; omega
    simp only [e45, not_false_eq_true, true_and, false_and, if_false]
    split
    · rename_i h; split at h
      · cases h
      · cases h
    · rename_i h; split at h
      · cases h
      · rw [if_neg (by omega)]
    · rename_i u h; split at h
      · cases h
        split
        · rw [if_neg (by omega)]
        · rw [if_pos (by omega)]
      · cases h
  · simp only [signT, if_true, List.cons_append, List.nil_append, Lib.atoiAll]
    rw [if_pos (.inr (by decide)), hp]
    simp only [show ((45 : UInt8).toNat = 45) = True by simp, not_true_eq_false, false_and, if_false, true_and, if_true]
    split
    · rename_i h; split at h
      · cases h
      · cases h
    · rename_i h; split at h
      · cases h
      · rw [if_neg (by omega)]
    · rename_i u h; split at h
      · cases h
        split
        · rw [if_neg (by omega)]
        · rw [if_pos (by omega)]
      · cases h
theorem takeWhile_dgt (s : Txt) : ∀ c ∈ s.takeWhile dgt, dgt c = true := fun c hc => by
  induction s with
  | nil => cases hc
  | cons x r ih =>
    simp only [List.takeWhile_cons] at hc
    split at hc
    · rename_i hx
      rcases List.mem_cons.1 hc with rfl | hc
      · exact hx
      · exact ih hc
    · cases hc
end Go.Bf
