/- Rows with room behind them. -/
import Derived.Test.YtidpcjblciompaaC22
set_option linter.unusedSimpArgs false
set_option linter.unusedVariables false
namespace Go.Proofs.Ytidpcjblciompaa
open Go Go.Ab

theorem zeros_bytes (n : Nat) : zerosA (.v (.int .u8 0)) n 1 = (List.replicate n (0 : UInt8)).map byteA := by
  apply List.ext_getElem
  · simp [zerosA]
  · intro i h1 h2
    simp [zerosA, byteA, AV.cells, Nat.mod_one]
theorem subPut0 {h h' : Heap} {id : Nat} (hs : Sub h h') (hid : h id = none) (k : Option Blk) : Sub h (upd h' id k) := fun j b hj => by
  rw [upd_other _ _ (fun e => by subst e; rw [hid] at hj; cases hj)]
  exact hs _ _ hj
theorem over_bytes (a b c : List UInt8) (x : List UInt8) (hx : x.length = b.length) : over ((a ++ (b ++ c)).map byteA) a.length (x.map byteA) = (a ++ (x ++ c)).map byteA := by
  simp only [over, List.map_append, List.length_map]
  rw [List.take_left' (by simp), List.append_assoc, hx]
  congr 2
  rw [List.drop_append, List.drop_eq_nil_of_le (by simp)]
  simp

theorem roomy_ok (y : AV) (l : List UInt8) (m : UInt8) (h : Heap) (hb : By h y l) (hl : l.length ≤ 1000000) :
    FnOK Try.prog 29 [y, byteA m] h fun r h' => ∃ id, h id = none ∧ r = .oa id 0 (l.length + 80) ∧ h' id = some (.obj ((l ++ List.replicate 80 m).map byteA) 5) ∧ Sub h h' := by
  refine FnOK.body hU hm Try.func29 rfl (by kernel_rfl) 27 rfl [.tmp 4] rfl (Nat.le_of_ble_eq_true rfl) (fun hwf => ?_)
  have w1 : IntKind.i64.wrap ((l.length : Int) + 80) = ((l.length + 80 : Nat) : Int) := by rw [wrap64 _ (by omega)]; omega
  simp -implicitDefEqProofs only [go_sem, ↓reduceIte, Nat.reduceLT, Nat.reduceEqDiff, Nat.reduceAdd, Nat.reduceLeDiff, Nat.reduceMul, Nat.reduceSub, Int.natCast_zero, Int.ofNat_zero, Int.natCast_one, Int.cast_ofNat_Int, bne_self_eq_false, beq_self_eq_true, Int.reduceBEq, Int.reduceBNe, Bool.not_true, Bool.not_false, hb.len, w1]
  refine ⟨by omega, by simp only [lim]; omega, by omega, fun id hid => ?_⟩
  rw [zeros_bytes]
  have hs0 : Sub h (upd h id (some (.obj ((List.replicate (l.length + 80) (0 : UInt8)).map byteA) 5))) := subPut0 (Sub.refl h) hid _
  have hg : (upd h id (some (Blk.obj ((List.replicate (l.length + 80) (0 : UInt8)).map byteA) 5))) id = some (.obj ((List.replicate (l.length + 80) (0 : UInt8)).map byteA) 5) := upd_same ..
  generalize upd h id (some (Blk.obj ((List.replicate (l.length + 80) (0 : UInt8)).map byteA) 5)) = g at hs0 hg
  have hb1 := hb.sub hs0
  simp -implicitDefEqProofs only [go_sem, ↓reduceIte, Nat.reduceLT, Nat.reduceEqDiff, Nat.reduceAdd, Nat.reduceLeDiff, Nat.reduceMul, Nat.reduceSub, Int.natCast_zero, Int.ofNat_zero, Int.natCast_one, Int.cast_ofNat_Int, bne_self_eq_false, beq_self_eq_true, Int.reduceBEq, Int.reduceBNe, Bool.not_true, Bool.not_false, hb1.src u5, hg]
  refine ⟨by omega, by simp, ?_⟩
  have ho : List.map byteA l ++ List.map byteA (List.drop l.length (List.replicate (l.length + 80) 0)) = (l ++ List.replicate 80 0).map byteA := by
    rw [List.drop_replicate, Nat.add_sub_cancel_left, ← List.map_append]
  rw [ho]
  have hs1 := subPut0 hs0 hid (some (.obj ((l ++ List.replicate 80 0).map byteA) 5))
  have hg1 : (upd g id (some (.obj ((l ++ List.replicate 80 0).map byteA) 5))) id = some (.obj ((l ++ List.replicate 80 0).map byteA) 5) := upd_same ..
  generalize upd g id (some (.obj ((l ++ List.replicate 80 0).map byteA) 5)) = g1 at hs1 hg1
  have hb2 := hb.sub hs1
  simp -implicitDefEqProofs only [go_sem, ↓reduceIte, Nat.reduceLT, Nat.reduceEqDiff, Nat.reduceAdd, Nat.reduceLeDiff, Nat.reduceMul, Nat.reduceSub, Int.natCast_zero, Int.ofNat_zero, Int.natCast_one, Int.cast_ofNat_Int, bne_self_eq_false, beq_self_eq_true, Int.reduceBEq, Int.reduceBNe, Bool.not_true, Bool.not_false, hb2.len]
  refine .intro (fun k ρ h' => ∃ (i : Nat), Sub h h' ∧ h' id = some (.obj ((l ++ (List.replicate i m ++ List.replicate (80 - i) 0)).map byteA) 5) ∧ i ≤ 80 ∧ k = 80 - i ∧ lk ρ 1 = some (byteA m) ∧ lk ρ 5 = some (.oa id 0 (l.length + 80)) ∧ lk ρ 6 = some (.v (.int .i64 (l.length + i : Nat)))) (80 - 0) ?_ ?_
  · refine ⟨0, hs1, by simpa using hg1, by omega, rfl, ?_, ?_, ?_⟩ <;> simp -implicitDefEqProofs only [go_sem, ↓reduceIte, Nat.reduceLT, Nat.reduceEqDiff, Nat.reduceAdd, Nat.reduceLeDiff, Nat.reduceMul, Nat.reduceSub, Int.natCast_zero, Int.ofNat_zero, Int.natCast_one, Int.cast_ofNat_Int, bne_self_eq_false, beq_self_eq_true, Int.reduceBEq, Int.reduceBNe, Bool.not_true, Bool.not_false]
  · rintro k ρ h' ⟨i, hs, hi, hi1, rfl, r1, r5, r6⟩
    by_cases hc : i < 80
    · have t1 : decide (((l.length + i : Nat) : Int) < ((l.length + 80 : Nat) : Int)) = true := decide_eq_true (by omega)
      have w2 : IntKind.i64.wrap (((l.length + i : Nat) : Int) + 1) = ((l.length + (i + 1) : Nat) : Int) := by rw [wrap64 _ (by omega)]; omega
      simp -implicitDefEqProofs only [go_sem, ↓reduceIte, Nat.reduceLT, Nat.reduceEqDiff, Nat.reduceAdd, Nat.reduceLeDiff, Nat.reduceMul, Nat.reduceSub, Int.natCast_zero, Int.ofNat_zero, Int.natCast_one, Int.cast_ofNat_Int, bne_self_eq_false, beq_self_eq_true, Int.reduceBEq, Int.reduceBNe, Bool.not_true, Bool.not_false, r1, r5, r6, t1]
      refine ⟨by omega, by omega, ?_⟩
      rw [hi]
      have hst : List.take (l.length + i) (List.map byteA (l ++ (List.replicate i m ++ List.replicate (80 - i) 0))) ++ [byteA m] ++ List.drop (l.length + i + 1) (List.map byteA (l ++ (List.replicate i m ++ List.replicate (80 - i) 0))) = (l ++ (List.replicate (i + 1) m ++ List.replicate (80 - (i + 1)) 0)).map byteA := by
        have := over_bytes (l ++ List.replicate i m) [0] (List.replicate (80 - (i + 1)) 0) [m] rfl
        rw [over, List.length_append, List.length_replicate] at this
        rw [show 80 - i = 80 - (i + 1) + 1 by omega, List.replicate_succ (n := 80 - (i + 1)), List.replicate_succ' (n := i)]
        simpa only [List.append_assoc, List.singleton_append, List.map_cons, List.map_nil, List.length_singleton] using this
      simp only [bindO_some, objL_eq, Nat.mul_one]
      refine ⟨by simp; omega, ?_⟩
      rw [w2]
      refine ⟨_, ?_, i + 1, subPut0 hs hid _, ?_, by omega, rfl, ?_, ?_, ?_⟩
      · omega
      · rw [upd_same]
        exact congrArg (fun z => some (Blk.obj z 5)) hst
      all_goals simp -implicitDefEqProofs only [go_sem, ↓reduceIte, Nat.reduceLT, Nat.reduceEqDiff, Nat.reduceAdd, Nat.reduceLeDiff, Nat.reduceMul, Nat.reduceSub, Int.natCast_zero, Int.ofNat_zero, Int.natCast_one, Int.cast_ofNat_Int, bne_self_eq_false, beq_self_eq_true, Int.reduceBEq, Int.reduceBNe, Bool.not_true, Bool.not_false, r1, r5, r6]
    · obtain rfl : i = 80 := by omega
      have t1 : decide (((l.length + 80 : Nat) : Int) < ((l.length + 80 : Nat) : Int)) = false := decide_eq_false (by omega)
      simp -implicitDefEqProofs only [go_sem, ↓reduceIte, Nat.reduceLT, Nat.reduceEqDiff, Nat.reduceAdd, Nat.reduceLeDiff, Nat.reduceMul, Nat.reduceSub, Int.natCast_zero, Int.ofNat_zero, Int.natCast_one, Int.cast_ofNat_Int, bne_self_eq_false, beq_self_eq_true, Int.reduceBEq, Int.reduceBNe, Bool.not_true, Bool.not_false, r1, r5, r6, t1]
      refine .same (.refl _) ⟨id, hid, rfl, ?_, hs⟩
      rw [hi]; simp only [Nat.sub_self, List.replicate_zero, List.append_nil]

theorem intact_ok (l : List UInt8) (m : UInt8) (h : Heap) (y : AV) (id : Nat) (hb : By h y l) (hid : h id = some (.obj ((l ++ List.replicate 80 m).map byteA) 5)) (hl : l.length ≤ 1000000) :
    FnOK Try.prog 31 [.oa id 0 (l.length + 80), y, byteA m] h fun r h' => r = .v (.bool true) ∧ h' = h := by
  refine FnOK.body hU hm Try.func31 rfl (by kernel_rfl) 37 rfl [.tmp 6] rfl (Nat.le_of_ble_eq_true rfl) (fun hwf => ?_)
  have hF : By h (.oa id 0 (l.length + 80)) (l ++ List.replicate 80 m) := by
    have : l.length + 80 = (l ++ List.replicate 80 m).length := by simp
    rw [this]
    exact .oa hid (by simp) (by rw [List.drop_zero]; exact List.take_of_length_le (by simp))
  have w1 : IntKind.i64.wrap ((l.length : Int) + 80) = ((l.length + 80 : Nat) : Int) := by rw [wrap64 _ (by omega)]; omega
  have t1 : (((l.length + 80 : Nat) : Int) != ((l.length + 80 : Nat) : Int)) = false := by simp
  generalize AV.oa id 0 (l.length + 80) = x at hF
  have hFl : (l ++ List.replicate 80 m).length = l.length + 80 := by simp
  have hlen := hF.len 5
  rw [hFl] at hlen
  simp -implicitDefEqProofs only [go_sem, ↓reduceIte, Nat.reduceLT, Nat.reduceEqDiff, Nat.reduceAdd, Nat.reduceLeDiff, Nat.reduceMul, Nat.reduceSub, Int.natCast_zero, Int.ofNat_zero, Int.natCast_one, Int.cast_ofNat_Int, bne_self_eq_false, beq_self_eq_true, Int.reduceBEq, Int.reduceBNe, Bool.not_true, Bool.not_false, hlen, hb.len, w1, t1]
  refine hF.take (m := (l.length : Nat)) (x := .i64) l.length ?_ rfl (by omega) u5 fun z hz => ?_
  · simp -implicitDefEqProofs only [go_sem, ↓reduceIte, Nat.reduceLT, Nat.reduceEqDiff, Nat.reduceAdd, Nat.reduceLeDiff, Nat.reduceMul, Nat.reduceSub, Int.natCast_zero, Int.ofNat_zero, Int.natCast_one, Int.cast_ofNat_Int, bne_self_eq_false, beq_self_eq_true, Int.reduceBEq, Int.reduceBNe, Bool.not_true, Bool.not_false]
  rw [List.take_left] at hz
  simp -implicitDefEqProofs only [go_sem, ↓reduceIte, Nat.reduceLT, Nat.reduceEqDiff, Nat.reduceAdd, Nat.reduceLeDiff, Nat.reduceMul, Nat.reduceSub, Int.natCast_zero, Int.ofNat_zero, Int.natCast_one, Int.cast_ofNat_Int, bne_self_eq_false, beq_self_eq_true, Int.reduceBEq, Int.reduceBNe, Bool.not_true, Bool.not_false]
  refine (same_ok z y l l h hz hb (by omega)).pthen ?_
  simp -implicitDefEqProofs only [go_sem, ↓reduceIte, Nat.reduceLT, Nat.reduceEqDiff, Nat.reduceAdd, Nat.reduceLeDiff, Nat.reduceMul, Nat.reduceSub, Int.natCast_zero, Int.ofNat_zero, Int.natCast_one, Int.cast_ofNat_Int, bne_self_eq_false, beq_self_eq_true, Int.reduceBEq, Int.reduceBNe, Bool.not_true, Bool.not_false, decide_true, hb.len]
  refine .intro (fun k ρ h' => h' = h ∧ ∃ (i : Nat), i ≤ 80 ∧ k = 80 - i ∧ lk ρ 0 = some x ∧ lk ρ 2 = some (byteA m) ∧ lk ρ 7 = some (.v (.int .i64 (l.length + i : Nat)))) (80 - 0) ?_ ?_
  · refine ⟨rfl, 0, by omega, rfl, ?_, ?_, ?_⟩ <;> simp -implicitDefEqProofs only [go_sem, ↓reduceIte, Nat.reduceLT, Nat.reduceEqDiff, Nat.reduceAdd, Nat.reduceLeDiff, Nat.reduceMul, Nat.reduceSub, Int.natCast_zero, Int.ofNat_zero, Int.natCast_one, Int.cast_ofNat_Int, bne_self_eq_false, beq_self_eq_true, Int.reduceBEq, Int.reduceBNe, Bool.not_true, Bool.not_false]
  · rintro k ρ h' ⟨rfl, i, hi1, rfl, r0, r2, r7⟩
    by_cases hc : i < 80
    · have t1 : decide (((l.length + i : Nat) : Int) < ((l.length + 80 : Nat) : Int)) = true := decide_eq_true (by omega)
      have w2 : IntKind.i64.wrap (((l.length + i : Nat) : Int) + 1) = ((l.length + (i + 1) : Nat) : Int) := by rw [wrap64 _ (by omega)]; omega
      simp -implicitDefEqProofs only [go_sem, ↓reduceIte, Nat.reduceLT, Nat.reduceEqDiff, Nat.reduceAdd, Nat.reduceLeDiff, Nat.reduceMul, Nat.reduceSub, Int.natCast_zero, Int.ofNat_zero, Int.natCast_one, Int.cast_ofNat_Int, bne_self_eq_false, beq_self_eq_true, Int.reduceBEq, Int.reduceBNe, Bool.not_true, Bool.not_false, r0, r2, r7, t1, hlen]
      refine hF.idx (l.length + i) rfl (by omega) u5 u5a fun p hp => ?_
      have e : (l ++ List.replicate 80 m)[l.length + i]'(by omega) = m := by
        rw [List.getElem_append_right (by omega)]; simp only [List.getElem_replicate]
      rw [e] at hp
      have t2 : ((m.toNat : Int) != (m.toNat : Int)) = false := by simp
      simp -implicitDefEqProofs only [go_sem, ↓reduceIte, Nat.reduceLT, Nat.reduceEqDiff, Nat.reduceAdd, Nat.reduceLeDiff, Nat.reduceMul, Nat.reduceSub, Int.natCast_zero, Int.ofNat_zero, Int.natCast_one, Int.cast_ofNat_Int, bne_self_eq_false, beq_self_eq_true, Int.reduceBEq, Int.reduceBNe, Bool.not_true, Bool.not_false, r0, r2, r7, t1, hlen, hp _, t2, w2]
      refine ⟨_, ?_, rfl, i + 1, by omega, rfl, ?_, ?_, ?_⟩
      · omega
      all_goals simp -implicitDefEqProofs only [go_sem, ↓reduceIte, Nat.reduceLT, Nat.reduceEqDiff, Nat.reduceAdd, Nat.reduceLeDiff, Nat.reduceMul, Nat.reduceSub, Int.natCast_zero, Int.ofNat_zero, Int.natCast_one, Int.cast_ofNat_Int, bne_self_eq_false, beq_self_eq_true, Int.reduceBEq, Int.reduceBNe, Bool.not_true, Bool.not_false, r0, r2, r7, w2]
    · obtain rfl : i = 80 := by omega
      have t1 : decide (((l.length + 80 : Nat) : Int) < ((l.length + 80 : Nat) : Int)) = false := decide_eq_false (by omega)
      simp -implicitDefEqProofs only [go_sem, ↓reduceIte, Nat.reduceLT, Nat.reduceEqDiff, Nat.reduceAdd, Nat.reduceLeDiff, Nat.reduceMul, Nat.reduceSub, Int.natCast_zero, Int.ofNat_zero, Int.natCast_one, Int.cast_ofNat_Int, bne_self_eq_false, beq_self_eq_true, Int.reduceBEq, Int.reduceBNe, Bool.not_true, Bool.not_false, r0, r2, r7, t1, hlen]
      exact .same (.refl _) ⟨rfl, rfl⟩
end Go.Proofs.Ytidpcjblciompaa
