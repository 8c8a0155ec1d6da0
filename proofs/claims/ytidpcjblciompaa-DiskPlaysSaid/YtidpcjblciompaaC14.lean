/- The book's Roomy and Intact. -/
import Derived.Test.YtidpcjblciompaaC13
set_option linter.unusedSimpArgs false
set_option linter.unusedVariables false
namespace Go.Proofs.Ytidpcjblciompaa
open Go Go.Ab

theorem over_at (a : List AV) (x y : AV) (b : List AV) (n : Nat) (hn : a.length = n) : over (a ++ x :: b) n [y] = a ++ y :: b := by
  subst hn
  simp [over]

def roomed (l : List UInt8) (c : UInt8) : List UInt8 := l ++ List.replicate 80 c

theorem zerosA_one (z : AV) (hz : z.cells = [z]) (n : Nat) : zerosA z n 1 = List.replicate n z := by
  unfold zerosA
  rw [hz, Nat.mul_one]
  apply List.ext_getElem
  · simp
  · intro i h1 h2
    simp [Nat.mod_one]

theorem fill_step (A : List AV) (C Z : AV) (j n : Nat) (hj : j < 80) (hn : n = A.length + j) : (A ++ List.replicate j C ++ List.replicate (80 - j) Z).take n ++ [C] ++ (A ++ List.replicate j C ++ List.replicate (80 - j) Z).drop (n + 1) = A ++ List.replicate (j + 1) C ++ List.replicate (80 - (j + 1)) Z := by
  have hA : (A ++ List.replicate j C).length = n := by simp [hn]
  rw [List.take_left' hA, List.drop_append, List.drop_eq_nil_of_le (by omega), hA, Nat.add_sub_cancel_left, List.nil_append, List.drop_replicate, List.replicate_succ', ← List.append_assoc A, Nat.sub_sub]

theorem roomy_ok (y : AV) (l : List UInt8) (c : UInt8) (h : Heap) (hb : By h y l) (hl : l.length ≤ 1000000) :
    FnOK Try.prog 29 [y, byteA c] h fun r h' => ∃ id, h id = none ∧ r = .oa id 0 (l.length + 80) ∧ h' = upd h id (some (.obj ((roomed l c).map byteA) 5)) := by
  refine FnOK.body hU hm Try.func29 rfl (by kernel_rfl) 27 rfl [.tmp 4] rfl (Nat.le_of_ble_eq_true rfl) (fun hwf => ?_)
  have w1 : IntKind.i64.wrap ((l.length : Int) + 80) = ((l.length + 80 : Nat) : Int) := by rw [wrap64 _ (by omega)]; omega
  simp only [go_sem, ↓reduceIte, Nat.reduceLT, Nat.reduceEqDiff, Nat.reduceAdd, Nat.reduceLeDiff, Nat.reduceMul, Nat.reduceSub, Int.natCast_zero, Int.ofNat_zero, Int.natCast_one, Int.cast_ofNat_Int, bne_self_eq_false, beq_self_eq_true, Int.reduceBEq, Int.reduceBNe, Bool.not_true, Bool.not_false, hb.len, w1]
  refine ⟨by omega, by simp only [lim]; omega, by omega, fun id hid => ?_⟩
  simp only [go_sem, ↓reduceIte, Nat.reduceLT, Nat.reduceEqDiff, Nat.reduceAdd, Nat.reduceLeDiff, Nat.reduceMul, Nat.reduceSub, Int.natCast_zero, Int.ofNat_zero, Int.natCast_one, Int.cast_ofNat_Int, bne_self_eq_false, beq_self_eq_true, Int.reduceBEq, Int.reduceBNe, Bool.not_true, Bool.not_false, hb.len]
  rw [(hb.new hid).src u5]
  simp only [go_sem, ↓reduceIte, Nat.reduceLT, Nat.reduceEqDiff, Nat.reduceAdd, Nat.reduceLeDiff, Nat.reduceMul, Nat.reduceSub, Int.natCast_zero, Int.ofNat_zero, Int.natCast_one, Int.cast_ofNat_Int, bne_self_eq_false, beq_self_eq_true, Int.reduceBEq, Int.reduceBNe, Bool.not_true, Bool.not_false]
  rw [zerosA_one _ rfl]
  refine ⟨by omega, by rw [List.length_replicate]; omega, ?_⟩
  refine .intro (fun m ρ h' => ∃ j : Nat, j ≤ 80 ∧ m = 80 - j ∧ h' = upd h id (some (.obj (l.map byteA ++ List.replicate j (byteA c) ++ List.replicate (80 - j) (byteA 0)) 5)) ∧ lk ρ 1 = some (byteA c) ∧ lk ρ 5 = some (.oa id 0 (l.length + 80)) ∧ lk ρ 6 = some (.v (.int .i64 ((l.length + j : Nat) : Int)))) 80 ?_ ?_
  · refine ⟨0, by omega, rfl, ?_, ?_, ?_, ?_⟩
    · rw [List.drop_replicate, List.replicate_zero, List.append_nil, show l.length + 80 - l.length = 80 - 0 by omega]
      rfl
    all_goals simp only [go_sem, ↓reduceIte, Nat.reduceLT, Nat.reduceEqDiff, Nat.reduceAdd, Nat.reduceLeDiff, Nat.reduceMul, Nat.reduceSub, Int.natCast_zero, Int.ofNat_zero, Int.natCast_one, Int.cast_ofNat_Int, bne_self_eq_false, beq_self_eq_true, Int.reduceBEq, Int.reduceBNe, Bool.not_true, Bool.not_false]
  · rintro m ρ h' ⟨j, hj, rfl, rfl, r1, r5, r6⟩
    simp only [go_sem, ↓reduceIte, Nat.reduceLT, Nat.reduceEqDiff, Nat.reduceAdd, Nat.reduceLeDiff, Nat.reduceMul, Nat.reduceSub, Int.natCast_zero, Int.ofNat_zero, Int.natCast_one, Int.cast_ofNat_Int, bne_self_eq_false, beq_self_eq_true, Int.reduceBEq, Int.reduceBNe, Bool.not_true, Bool.not_false, r1, r5, r6]
    refine .intro (fun e => ?_) (fun e => ?_)
    · have hlt : l.length + j < l.length + 80 := Int.ofNat_lt.1 (of_decide_eq_true e)
      have w2 : IntKind.i64.wrap (((l.length + j : Nat) : Int) + 1) = ((l.length + (j + 1) : Nat) : Int) := by rw [wrap64 _ (by omega)]; omega
      simp only [go_sem, ↓reduceIte, Nat.reduceLT, Nat.reduceEqDiff, Nat.reduceAdd, Nat.reduceLeDiff, Nat.reduceMul, Nat.reduceSub, Int.natCast_zero, Int.ofNat_zero, Int.natCast_one, Int.cast_ofNat_Int, bne_self_eq_false, beq_self_eq_true, Int.reduceBEq, Int.reduceBNe, Bool.not_true, Bool.not_false, r1, r5, r6, w2]
      refine ⟨by omega, by omega, by simp; omega, ?_⟩
      refine ⟨_, ?_, j + 1, by omega, rfl, ?_, ?_, ?_, ?_⟩
      · omega
      · congr 3
        have := fill_step (l.map byteA) (byteA c) (byteA 0) j (l.length + j) (by omega) (by simp)
        simpa only [byteA, Nat.mul_one] using this
      all_goals simp only [go_sem, ↓reduceIte, Nat.reduceLT, Nat.reduceEqDiff, Nat.reduceAdd, Nat.reduceLeDiff, Nat.reduceMul, Nat.reduceSub, Int.natCast_zero, Int.ofNat_zero, Int.natCast_one, Int.cast_ofNat_Int, bne_self_eq_false, beq_self_eq_true, Int.reduceBEq, Int.reduceBNe, Bool.not_true, Bool.not_false, r1, r5, r6, w2]
    · have : ¬ (l.length + j < l.length + 80) := fun h => by have := of_decide_eq_false e; omega
      obtain rfl : j = 80 := by omega
      simp only [go_sem, ↓reduceIte, Nat.reduceLT, Nat.reduceEqDiff, Nat.reduceAdd, Nat.reduceLeDiff, Nat.reduceMul, Nat.reduceSub, Int.natCast_zero, Int.ofNat_zero, Int.natCast_one, Int.cast_ofNat_Int, bne_self_eq_false, beq_self_eq_true, Int.reduceBEq, Int.reduceBNe, Bool.not_true, Bool.not_false, r1, r5, r6]
      refine .same (.refl _) ⟨id, hid, rfl, ?_⟩
      rw [roomed, List.map_append, List.map_replicate, List.replicate_zero, List.append_nil]; rfl

theorem intact_ok (x y : AV) (l : List UInt8) (c : UInt8) (h : Heap) (hx : By h x (roomed l c)) (hy : By h y l) (hl : l.length ≤ 1000000) :
    FnOK Try.prog 31 [x, y, byteA c] h fun r h' => r = .v (.bool true) ∧ h' = h := by
  have hr : (roomed l c).length = l.length + 80 := by simp [roomed]
  refine FnOK.body hU hm Try.func31 rfl (by kernel_rfl) 37 rfl [.tmp 6] rfl (Nat.le_of_ble_eq_true rfl) (fun hwf => ?_)
  have w1 : IntKind.i64.wrap ((l.length : Int) + 80) = ((l.length + 80 : Nat) : Int) := by rw [wrap64 _ (by omega)]; omega
  simp only [go_sem, ↓reduceIte, Nat.reduceLT, Nat.reduceEqDiff, Nat.reduceAdd, Nat.reduceLeDiff, Nat.reduceMul, Nat.reduceSub, Int.natCast_zero, Int.ofNat_zero, Int.natCast_one, Int.cast_ofNat_Int, bne_self_eq_false, beq_self_eq_true, Int.reduceBEq, Int.reduceBNe, Bool.not_true, Bool.not_false, hx.len, hy.len, hr, w1]
  refine hx.take (m := l.length) (x := .i64) l.length ?_ rfl (by omega) u5 fun z hz => ?_
  · simp only [go_sem, ↓reduceIte, Nat.reduceLT, Nat.reduceEqDiff, Nat.reduceAdd, Nat.reduceLeDiff, Nat.reduceMul, Nat.reduceSub]
  simp only [go_sem, ↓reduceIte, Nat.reduceLT, Nat.reduceEqDiff, Nat.reduceAdd, Nat.reduceLeDiff, Nat.reduceMul, Nat.reduceSub, Int.natCast_zero, Int.ofNat_zero, Int.natCast_one, Int.cast_ofNat_Int, bne_self_eq_false, beq_self_eq_true, Int.reduceBEq, Int.reduceBNe, Bool.not_true, Bool.not_false, hx.len, hy.len, hr, w1]
  have ht : (roomed l c).take l.length = l := by simp [roomed]
  rw [ht] at hz
  refine (same_ok z y l l h hz hy (by omega)).pthen ?_
  rw [decide_eq_true rfl]
  simp only [go_sem, ↓reduceIte, Nat.reduceLT, Nat.reduceEqDiff, Nat.reduceAdd, Nat.reduceLeDiff, Nat.reduceMul, Nat.reduceSub, Int.natCast_zero, Int.ofNat_zero, Int.natCast_one, Int.cast_ofNat_Int, bne_self_eq_false, beq_self_eq_true, Int.reduceBEq, Int.reduceBNe, Bool.not_true, Bool.not_false, hx.len, hy.len, hr, w1]
  refine .intro (fun m ρ h' => h' = h ∧ ∃ j : Nat, j ≤ 80 ∧ m = 80 - j ∧ lk ρ 0 = some x ∧ lk ρ 2 = some (byteA c) ∧ lk ρ 7 = some (.v (.int .i64 ((l.length + j : Nat) : Int)))) 80 ?_ ?_
  · refine ⟨rfl, 0, by omega, rfl, ?_, ?_, ?_⟩ <;> simp only [go_sem, ↓reduceIte, Nat.reduceLT, Nat.reduceEqDiff, Nat.reduceAdd, Nat.reduceLeDiff, Nat.reduceMul, Nat.reduceSub, Int.natCast_zero, Int.ofNat_zero, Int.natCast_one, Int.cast_ofNat_Int, bne_self_eq_false, beq_self_eq_true, Int.reduceBEq, Int.reduceBNe, Bool.not_true, Bool.not_false]
  · rintro m ρ h' ⟨rfl, j, hj, rfl, r0, r2, r7⟩
    simp only [go_sem, ↓reduceIte, Nat.reduceLT, Nat.reduceEqDiff, Nat.reduceAdd, Nat.reduceLeDiff, Nat.reduceMul, Nat.reduceSub, Int.natCast_zero, Int.ofNat_zero, Int.natCast_one, Int.cast_ofNat_Int, bne_self_eq_false, beq_self_eq_true, Int.reduceBEq, Int.reduceBNe, Bool.not_true, Bool.not_false, r0, r2, r7, hx.len, hr]
    refine .intro (fun e => ?_) (fun e => ?_)
    · have hlt : l.length + j < l.length + 80 := Int.ofNat_lt.1 (of_decide_eq_true e)
      have w2 : IntKind.i64.wrap (((l.length + j : Nat) : Int) + 1) = ((l.length + (j + 1) : Nat) : Int) := by rw [wrap64 _ (by omega)]; omega
      simp only [go_sem, ↓reduceIte, Nat.reduceLT, Nat.reduceEqDiff, Nat.reduceAdd, Nat.reduceLeDiff, Nat.reduceMul, Nat.reduceSub, Int.natCast_zero, Int.ofNat_zero, Int.natCast_one, Int.cast_ofNat_Int, bne_self_eq_false, beq_self_eq_true, Int.reduceBEq, Int.reduceBNe, Bool.not_true, Bool.not_false, r0, r2, r7]
      refine hx.idx (l.length + j) rfl (by omega) u5 u5a fun p hp => ?_
      have hc : (roomed l c)[l.length + j]'(by omega) = c := by
        have e2 : (roomed l c)[l.length + j]? = some c := by
          rw [roomed, List.getElem?_append_right (by omega), List.getElem?_replicate, if_pos (by omega)]
        rw [List.getElem?_eq_getElem (by omega)] at e2
        exact Option.some.inj e2
      rw [hc] at hp
      simp only [go_sem, ↓reduceIte, Nat.reduceLT, Nat.reduceEqDiff, Nat.reduceAdd, Nat.reduceLeDiff, Nat.reduceMul, Nat.reduceSub, Int.natCast_zero, Int.ofNat_zero, Int.natCast_one, Int.cast_ofNat_Int, bne_self_eq_false, beq_self_eq_true, Int.reduceBEq, Int.reduceBNe, Bool.not_true, Bool.not_false, r0, r2, r7, hp _, w2]
      refine ⟨_, ?_, rfl, j + 1, by omega, rfl, ?_, ?_, ?_⟩
      · omega
      all_goals simp only [go_sem, ↓reduceIte, Nat.reduceLT, Nat.reduceEqDiff, Nat.reduceAdd, Nat.reduceLeDiff, Nat.reduceMul, Nat.reduceSub, Int.natCast_zero, Int.ofNat_zero, Int.natCast_one, Int.cast_ofNat_Int, bne_self_eq_false, beq_self_eq_true, Int.reduceBEq, Int.reduceBNe, Bool.not_true, Bool.not_false, r0, r2, r7, w2]
    · simp only [go_sem, ↓reduceIte, Nat.reduceLT, Nat.reduceEqDiff, Nat.reduceAdd, Nat.reduceLeDiff, Nat.reduceMul, Nat.reduceSub, Int.natCast_zero, Int.ofNat_zero, Int.natCast_one, Int.cast_ofNat_Int, bne_self_eq_false, beq_self_eq_true, Int.reduceBEq, Int.reduceBNe, Bool.not_true, Bool.not_false, r0, r2, r7]
      exact .same (.refl _) ⟨rfl, rfl⟩
end Go.Proofs.Ytidpcjblciompaa
