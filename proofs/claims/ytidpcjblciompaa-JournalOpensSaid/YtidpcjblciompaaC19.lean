/- Frames: the program's functions. -/
import Derived.Test.YtidpcjblciompaaC18
set_option linter.unusedSimpArgs false
set_option linter.unusedVariables false
namespace Go.Proofs.Ytidpcjblciompaa
open Go Go.Ab

theorem frame_ok (y : AV) (l : List UInt8) (h : Heap) (hb : By h y l) (hl : l.length ≤ 1000000) :
    FnOK Try.prog 25 [y] h fun r h' => r = .sl ((frame l).map byteA) .no ∧ Sub h h' := by
  refine FnOK.body hU hm Try.func25 rfl (by kernel_rfl) 13 rfl [.tmp 2] rfl (Nat.le_of_ble_eq_true rfl) (fun hwf => ?_)
  have w1 := w32 l.length (by omega)
  simp -implicitDefEqProofs only [go_sem, ↓reduceIte, Nat.reduceLT, Nat.reduceEqDiff, Nat.reduceAdd, Nat.reduceLeDiff, Nat.reduceMul, Nat.reduceSub, Int.natCast_zero, Int.ofNat_zero, Int.natCast_one, Int.cast_ofNat_Int, bne_self_eq_false, beq_self_eq_true, Int.reduceBEq, Int.reduceBNe, Bool.not_true, Bool.not_false, hb.len, w1]
  refine (four_ok l.length (by omega) h).pthen ?_
  simp -implicitDefEqProofs only [go_sem, ↓reduceIte, Nat.reduceLT, Nat.reduceEqDiff, Nat.reduceAdd, Nat.reduceLeDiff, Nat.reduceMul, Nat.reduceSub, Int.natCast_zero, Int.ofNat_zero, Int.natCast_one, Int.cast_ofNat_Int, bne_self_eq_false, beq_self_eq_true, Int.reduceBEq, Int.reduceBNe, Bool.not_true, Bool.not_false]
  refine (sum_ok y l h hb (by omega)).pthen ?_
  simp -implicitDefEqProofs only [go_sem, ↓reduceIte, Nat.reduceLT, Nat.reduceEqDiff, Nat.reduceAdd, Nat.reduceLeDiff, Nat.reduceMul, Nat.reduceSub, Int.natCast_zero, Int.ofNat_zero, Int.natCast_one, Int.cast_ofNat_Int, bne_self_eq_false, beq_self_eq_true, Int.reduceBEq, Int.reduceBNe, Bool.not_true, Bool.not_false]
  refine (four_ok (crc l).toNat (crc l).isLt h).pthen ?_
  simp -implicitDefEqProofs only [go_sem, ↓reduceIte, Nat.reduceLT, Nat.reduceEqDiff, Nat.reduceAdd, Nat.reduceLeDiff, Nat.reduceMul, Nat.reduceSub, Int.natCast_zero, Int.ofNat_zero, Int.natCast_one, Int.cast_ofNat_Int, bne_self_eq_false, beq_self_eq_true, Int.reduceBEq, Int.reduceBNe, Bool.not_true, Bool.not_false, hb.cells, hb.fit]
  refine (concat_ok [.sl ((fourL l.length).map byteA) .no, .sl ((fourL (crc l).toNat).map byteA) .no, y] [fourL l.length, fourL (crc l).toNat, l] .full h (.cons (.sl _ _) (.cons (.sl _ _) (.cons hb .nil))) ?_ (by simp)).sthen fun h' hs => ?_
  · simp [fourL_length]; omega
  simp -implicitDefEqProofs only [go_sem, ↓reduceIte, Nat.reduceLT, Nat.reduceEqDiff, Nat.reduceAdd, Nat.reduceLeDiff, Nat.reduceMul, Nat.reduceSub, Int.natCast_zero, Int.ofNat_zero, Int.natCast_one, Int.cast_ofNat_Int, bne_self_eq_false, beq_self_eq_true, Int.reduceBEq, Int.reduceBNe, Bool.not_true, Bool.not_false]
  refine .same (.refl _) ⟨?_, hs⟩
  simp [frame, oneOr]

theorem begins_ok (y : AV) (l : List UInt8) (h : Heap) (hb : By h y l) (hl : l.length ≤ 2000000) :
    FnOK Try.prog 50 [y] h fun r h' => (∃ P p b, r = .tup [P, .v (.bool b)] ∧ By h P p ∧ beginsL l = if b = true then some p else none) ∧ h' = h := by
  refine FnOK.body hU hm Try.func50 rfl (by kernel_rfl) 36 rfl [.tmp 2, .tmp 3] rfl (Nat.le_of_ble_eq_true rfl) (fun hwf => ?_)
  rcases Nat.lt_or_ge l.length 8 with h8 | h8
  · have t1 : decide ((l.length : Int) < 8) = true := decide_eq_true (by omega)
    simp -implicitDefEqProofs only [go_sem, ↓reduceIte, Nat.reduceLT, Nat.reduceEqDiff, Nat.reduceAdd, Nat.reduceLeDiff, Nat.reduceMul, Nat.reduceSub, Int.natCast_zero, Int.ofNat_zero, Int.natCast_one, Int.cast_ofNat_Int, bne_self_eq_false, beq_self_eq_true, Int.reduceBEq, Int.reduceBNe, Bool.not_true, Bool.not_false, hb.len, t1]
    exact .same (.refl _) ⟨⟨_, [], false, rfl, .nil _, beginsL_short l h8⟩, rfl⟩
  · have t1 : decide ((l.length : Int) < 8) = false := decide_eq_false (by omega)
    simp -implicitDefEqProofs only [go_sem, ↓reduceIte, Nat.reduceLT, Nat.reduceEqDiff, Nat.reduceAdd, Nat.reduceLeDiff, Nat.reduceMul, Nat.reduceSub, Int.natCast_zero, Int.ofNat_zero, Int.natCast_one, Int.cast_ofNat_Int, bne_self_eq_false, beq_self_eq_true, Int.reduceBEq, Int.reduceBNe, Bool.not_true, Bool.not_false, hb.len, t1]
    refine (number_ok y l h hb (by omega)).pthen ?_
    have hn := numL_lt l
    have w1 : IntKind.i64.wrap ((numL l : Nat) : Int) = ((numL l : Nat) : Int) := wrap64 _ (by omega)
    have w2 : IntKind.i64.wrap ((l.length : Int) - 8) = ((l.length - 8 : Nat) : Int) := by rw [wrap64 _ (by omega)]; omega
    by_cases hbad : numL l < 1 ∨ 8192 < numL l ∨ l.length - 8 < numL l
    · have hnone : beginsL l = none := by unfold beginsL; rw [if_neg (by omega), if_pos hbad]
      have fin : ∀ Z : Prop, Z → Z := fun _ z => z
      by_cases c1 : numL l < 1
      · have t2 : decide (((numL l : Nat) : Int) < 1) = true := decide_eq_true (by omega)
        simp -implicitDefEqProofs only [go_sem, ↓reduceIte, Nat.reduceLT, Nat.reduceEqDiff, Nat.reduceAdd, Nat.reduceLeDiff, Nat.reduceMul, Nat.reduceSub, Int.natCast_zero, Int.ofNat_zero, Int.natCast_one, Int.cast_ofNat_Int, bne_self_eq_false, beq_self_eq_true, Int.reduceBEq, Int.reduceBNe, Bool.not_true, Bool.not_false, hb.len, w1, w2, t2]
        exact .same (.refl _) ⟨⟨_, [], false, rfl, .nil _, hnone⟩, rfl⟩
      · have t2 : decide (((numL l : Nat) : Int) < 1) = false := decide_eq_false (by omega)
        by_cases c2 : 8192 < numL l
        · have t3 : decide ((8192 : Int) < ((numL l : Nat) : Int)) = true := decide_eq_true (by omega)
          simp -implicitDefEqProofs only [go_sem, ↓reduceIte, Nat.reduceLT, Nat.reduceEqDiff, Nat.reduceAdd, Nat.reduceLeDiff, Nat.reduceMul, Nat.reduceSub, Int.natCast_zero, Int.ofNat_zero, Int.natCast_one, Int.cast_ofNat_Int, bne_self_eq_false, beq_self_eq_true, Int.reduceBEq, Int.reduceBNe, Bool.not_true, Bool.not_false, hb.len, w1, w2, t2, t3]
          exact .same (.refl _) ⟨⟨_, [], false, rfl, .nil _, hnone⟩, rfl⟩
        · have t3 : decide ((8192 : Int) < ((numL l : Nat) : Int)) = false := decide_eq_false (by omega)
          have t4 : decide (((l.length - 8 : Nat) : Int) < ((numL l : Nat) : Int)) = true := decide_eq_true (by omega)
          simp -implicitDefEqProofs only [go_sem, ↓reduceIte, Nat.reduceLT, Nat.reduceEqDiff, Nat.reduceAdd, Nat.reduceLeDiff, Nat.reduceMul, Nat.reduceSub, Int.natCast_zero, Int.ofNat_zero, Int.natCast_one, Int.cast_ofNat_Int, bne_self_eq_false, beq_self_eq_true, Int.reduceBEq, Int.reduceBNe, Bool.not_true, Bool.not_false, hb.len, w1, w2, t2, t3, t4]
          exact .same (.refl _) ⟨⟨_, [], false, rfl, .nil _, hnone⟩, rfl⟩
    · have t2 : decide (((numL l : Nat) : Int) < 1) = false := decide_eq_false (by omega)
      have t3 : decide ((8192 : Int) < ((numL l : Nat) : Int)) = false := decide_eq_false (by omega)
      have t4 : decide (((l.length - 8 : Nat) : Int) < ((numL l : Nat) : Int)) = false := decide_eq_false (by omega)
      have w3 : IntKind.i64.wrap ((8 : Int) + ((numL l : Nat) : Int)) = ((8 + numL l : Nat) : Int) := by rw [wrap64 _ (by omega)]; omega
      simp -implicitDefEqProofs only [go_sem, ↓reduceIte, Nat.reduceLT, Nat.reduceEqDiff, Nat.reduceAdd, Nat.reduceLeDiff, Nat.reduceMul, Nat.reduceSub, Int.natCast_zero, Int.ofNat_zero, Int.natCast_one, Int.cast_ofNat_Int, bne_self_eq_false, beq_self_eq_true, Int.reduceBEq, Int.reduceBNe, Bool.not_true, Bool.not_false, hb.len, w1, w2, t2, t3, t4, w3]
      refine hb.cut (m := 8) (m2 := (8 + numL l : Nat)) (x := .i64) (x2 := .i64) 8 (8 + numL l) ?_ rfl ?_ rfl (by omega) (by omega) u5 fun z hz => ?_
      · simp -implicitDefEqProofs only [go_sem, ↓reduceIte, Nat.reduceLT, Nat.reduceEqDiff, Nat.reduceAdd, Nat.reduceLeDiff, Nat.reduceMul, Nat.reduceSub, Int.natCast_zero, Int.ofNat_zero, Int.natCast_one, Int.cast_ofNat_Int, bne_self_eq_false, beq_self_eq_true, Int.reduceBEq, Int.reduceBNe, Bool.not_true, Bool.not_false]
      · simp -implicitDefEqProofs only [go_sem, ↓reduceIte, Nat.reduceLT, Nat.reduceEqDiff, Nat.reduceAdd, Nat.reduceLeDiff, Nat.reduceMul, Nat.reduceSub, Int.natCast_zero, Int.ofNat_zero, Int.natCast_one, Int.cast_ofNat_Int, bne_self_eq_false, beq_self_eq_true, Int.reduceBEq, Int.reduceBNe, Bool.not_true, Bool.not_false]
      rw [Nat.add_sub_cancel_left] at hz
      have hzl : ((l.drop 8).take (numL l)).length ≤ 1000000 := by rw [List.length_take, List.length_drop]; omega
      simp -implicitDefEqProofs only [go_sem, ↓reduceIte, Nat.reduceLT, Nat.reduceEqDiff, Nat.reduceAdd, Nat.reduceLeDiff, Nat.reduceMul, Nat.reduceSub, Int.natCast_zero, Int.ofNat_zero, Int.natCast_one, Int.cast_ofNat_Int, bne_self_eq_false, beq_self_eq_true, Int.reduceBEq, Int.reduceBNe, Bool.not_true, Bool.not_false]
      refine .quiet (by kernel_rfl) ?_
      simp -implicitDefEqProofs only [go_sem, ↓reduceIte, Nat.reduceLT, Nat.reduceEqDiff, Nat.reduceAdd, Nat.reduceLeDiff, Nat.reduceMul, Nat.reduceSub, Int.natCast_zero, Int.ofNat_zero, Int.natCast_one, Int.cast_ofNat_Int, bne_self_eq_false, beq_self_eq_true, Int.reduceBEq, Int.reduceBNe, Bool.not_true, Bool.not_false]
      refine ⟨_, sum_ok z _ h hz (by omega), ?_⟩
      simp -implicitDefEqProofs only [go_sem, ↓reduceIte, Nat.reduceLT, Nat.reduceEqDiff, Nat.reduceAdd, Nat.reduceLeDiff, Nat.reduceMul, Nat.reduceSub, Int.natCast_zero, Int.ofNat_zero, Int.natCast_one, Int.cast_ofNat_Int, bne_self_eq_false, beq_self_eq_true, Int.reduceBEq, Int.reduceBNe, Bool.not_true, Bool.not_false]
      refine hb.from (m := 4) (x := .i64) 4 ?_ rfl (by omega) u5 fun z4 hz4 => ?_
      · simp -implicitDefEqProofs only [go_sem, ↓reduceIte, Nat.reduceLT, Nat.reduceEqDiff, Nat.reduceAdd, Nat.reduceLeDiff, Nat.reduceMul, Nat.reduceSub, Int.natCast_zero, Int.ofNat_zero, Int.natCast_one, Int.cast_ofNat_Int, bne_self_eq_false, beq_self_eq_true, Int.reduceBEq, Int.reduceBNe, Bool.not_true, Bool.not_false]
      simp -implicitDefEqProofs only [go_sem, ↓reduceIte, Nat.reduceLT, Nat.reduceEqDiff, Nat.reduceAdd, Nat.reduceLeDiff, Nat.reduceMul, Nat.reduceSub, Int.natCast_zero, Int.ofNat_zero, Int.natCast_one, Int.cast_ofNat_Int, bne_self_eq_false, beq_self_eq_true, Int.reduceBEq, Int.reduceBNe, Bool.not_true, Bool.not_false]
      refine ⟨_, number_ok z4 _ h hz4 (by rw [List.length_drop]; omega), ?_⟩
      simp -implicitDefEqProofs only [go_sem, ↓reduceIte, Nat.reduceLT, Nat.reduceEqDiff, Nat.reduceAdd, Nat.reduceLeDiff, Nat.reduceMul, Nat.reduceSub, Int.natCast_zero, Int.ofNat_zero, Int.natCast_one, Int.cast_ofNat_Int, bne_self_eq_false, beq_self_eq_true, Int.reduceBEq, Int.reduceBNe, Bool.not_true, Bool.not_false]
      refine .same (.refl _) ⟨⟨z, _, _, rfl, hz, ?_⟩, rfl⟩
      unfold beginsL
      rw [if_neg (by omega), if_neg hbad]
      by_cases hc : (crc ((l.drop 8).take (numL l))).toNat = numL (l.drop 4)
      · rw [if_pos hc, hc]; simp
      · rw [if_neg hc, if_neg]
        simp only [beq_iff_eq]
        omega
end Go.Proofs.Ytidpcjblciompaa
