/- Contracts of the functions of slices, and of the book's. -/
import Derived.Test.YtidpcjblciompaaTy
import Derived.Test.YtidpcjblciompaaAb21
set_option linter.unusedSimpArgs false
set_option linter.unusedVariables false
namespace Go.Proofs.Ytidpcjblciompaa
open Go Go.Ab

abbrev By := Bytes 5
theorem u5 : (U 5).sz = 1 := by simp only [go_sem]
theorem u5a : (U 5).k.agg = false := by simp only [go_sem]

theorem clone_sl (y : AV) (l : List UInt8) (h : Heap) (hb : By h y l) (hl : l.length ≤ 140737488355328) :
    FnOK Try.prog 47 [y] h fun r h' => h' = h ∧ r = .sl (l.map byteA) .no := by
  refine FnOK.body hU hm Try.func47 rfl (by kernel_rfl) 8 rfl [.tmp 2] rfl (Nat.le_of_ble_eq_true rfl) (fun hwf => ?_)
  simp -implicitDefEqProofs only [go_sem, ↓reduceIte, Nat.reduceLT, Nat.reduceEqDiff, Nat.reduceAdd, Nat.reduceLeDiff, Nat.reduceMul, Nat.reduceSub]
  refine hb.nilE fun b hbn => ?_
  simp -implicitDefEqProofs only [go_sem, ↓reduceIte, Nat.reduceLT, Nat.reduceEqDiff, Nat.reduceAdd, Nat.reduceLeDiff, Nat.reduceMul, Nat.reduceSub]
  refine CondC.intro (fun e => ?_) (fun e => ?_)
  · have hl0 : l = [] := Classical.byContradiction fun hh => by rw [hbn hh] at e; cases e
    subst hl0
    simp -implicitDefEqProofs only [go_sem, ↓reduceIte, Nat.reduceLT, Nat.reduceEqDiff, Nat.reduceAdd, Nat.reduceLeDiff, Nat.reduceMul, Nat.reduceSub]
    exact .mk _ (.sl _ _) (.refl _) ⟨rfl, rfl⟩
  · simp -implicitDefEqProofs only [go_sem, ↓reduceIte, Nat.reduceLT, Nat.reduceEqDiff, Nat.reduceAdd, Nat.reduceLeDiff, Nat.reduceMul, Nat.reduceSub]
    rw [hb.src u5]
    simp -implicitDefEqProofs only [go_sem, ↓reduceIte, Nat.reduceLT, Nat.reduceEqDiff, Nat.reduceAdd, Nat.reduceLeDiff, Nat.reduceMul, Nat.reduceSub]
    refine ⟨by omega, fun hn => ?_, fun hn => ?_⟩
    · have hl0 : l = [] := by simpa using hn
      subst hl0
      simp -implicitDefEqProofs only [go_sem, ↓reduceIte, Nat.reduceLT, Nat.reduceEqDiff, Nat.reduceAdd, Nat.reduceLeDiff, Nat.reduceMul, Nat.reduceSub]
      exact .mk _ (.sl _ _) (.refl _) ⟨rfl, rfl⟩
    · refine .own fun id hid => ?_
      simp -implicitDefEqProofs only [go_sem, ↓reduceIte, Nat.reduceLT, Nat.reduceEqDiff, Nat.reduceAdd, Nat.reduceLeDiff, Nat.reduceMul, Nat.reduceSub]
      exact .mk _ (.sl _ _) (.upd_new hid) ⟨rfl, rfl⟩

theorem clone_oa (y : AV) (l : List UInt8) (h : Heap) (hb : By h y l) (hl : l.length ≤ 140737488355328) :
    FnOK Try.prog 47 [y] h fun r h' => (l = [] ∧ r = .sl [] .no ∧ h' = h) ∨ (l ≠ [] ∧ ∃ id m, h id = none ∧ r = .oa id 0 l.length ∧ h' = upd h id (some (.obj (l.map byteA ++ List.replicate m (byteA 0)) 5))) := by
  refine FnOK.body hU hm Try.func47 rfl (by kernel_rfl) 8 rfl [.tmp 2] rfl (Nat.le_of_ble_eq_true rfl) (fun hwf => ?_)
  simp -implicitDefEqProofs only [go_sem, ↓reduceIte, Nat.reduceLT, Nat.reduceEqDiff, Nat.reduceAdd, Nat.reduceLeDiff, Nat.reduceMul, Nat.reduceSub]
  refine hb.nilE fun b hbn => ?_
  simp -implicitDefEqProofs only [go_sem, ↓reduceIte, Nat.reduceLT, Nat.reduceEqDiff, Nat.reduceAdd, Nat.reduceLeDiff, Nat.reduceMul, Nat.reduceSub]
  refine CondC.intro (fun e => ?_) (fun e => ?_)
  · have hl0 : l = [] := Classical.byContradiction fun hh => by rw [hbn hh] at e; cases e
    subst hl0
    simp -implicitDefEqProofs only [go_sem, ↓reduceIte, Nat.reduceLT, Nat.reduceEqDiff, Nat.reduceAdd, Nat.reduceLeDiff, Nat.reduceMul, Nat.reduceSub]
    exact .mk (.sl [] .no) (.sl _ _) (.refl _) (by simp)
  · simp -implicitDefEqProofs only [go_sem, ↓reduceIte, Nat.reduceLT, Nat.reduceEqDiff, Nat.reduceAdd, Nat.reduceLeDiff, Nat.reduceMul, Nat.reduceSub]
    rw [hb.src u5]
    simp -implicitDefEqProofs only [go_sem, ↓reduceIte, Nat.reduceLT, Nat.reduceEqDiff, Nat.reduceAdd, Nat.reduceLeDiff, Nat.reduceMul, Nat.reduceSub]
    refine ⟨by omega, fun hn => ?_, fun hn => ?_⟩
    · have hl0 : l = [] := by simpa using hn
      subst hl0
      simp -implicitDefEqProofs only [go_sem, ↓reduceIte, Nat.reduceLT, Nat.reduceEqDiff, Nat.reduceAdd, Nat.reduceLeDiff, Nat.reduceMul, Nat.reduceSub]
      exact .mk (.sl [] .no) (.sl _ _) (.refl _) (by simp)
    · refine .oa u5 ?_ ?_ (noAgg_bytes l) fun id m hid => ?_
      · simp -implicitDefEqProofs only [go_sem, ↓reduceIte, Nat.reduceLT, Nat.reduceEqDiff, Nat.reduceAdd, Nat.reduceLeDiff, Nat.reduceMul, Nat.reduceSub]
      · simp -implicitDefEqProofs only [go_sem, ↓reduceIte, Nat.reduceLT, Nat.reduceEqDiff, Nat.reduceAdd, Nat.reduceLeDiff, Nat.reduceMul, Nat.reduceSub]
      · simp -implicitDefEqProofs only [go_sem, ↓reduceIte, Nat.reduceLT, Nat.reduceEqDiff, Nat.reduceAdd, Nat.reduceLeDiff, Nat.reduceMul, Nat.reduceSub]
        exact .mk _ (.refl _) (.refl _) (.inr ⟨by simpa using hn, id, m, hid, rfl, rfl⟩)

theorem within_ok (m a b : Int) (h : Heap) (hm' : -9223372036854775808 ≤ m ∧ m ≤ 9223372036854775807) (ha : 0 ≤ a) (hab : a ≤ b) (hb : b ≤ 1000000) :
    FnOK Try.prog 21 [.v (.int .i64 m), .v (.int .i64 a), .v (.int .i64 b)] h fun r h' => h' = h ∧ ∃ k, a ≤ k ∧ k ≤ b ∧ r = .v (.int .i64 k) := by
  have w1 : IntKind.i64.wrap (b - a) = b - a := IntWalk.i64_in _ (by omega)
  have w2 : IntKind.i64.wrap (b - a + 1) = b - a + 1 := IntWalk.i64_in _ (by omega)
  have t1 := Int.tmod_lt_of_pos m (show 0 < b - a + 1 by omega)
  have t2 := Int.lt_tmod_of_pos m (show 0 < b - a + 1 by omega)
  generalize hq : m.tmod (b - a + 1) = q at t1 t2
  have w3 : IntKind.i64.wrap (q + b) = q + b := IntWalk.i64_in _ (by omega)
  have w4 : IntKind.i64.wrap (q + b - a) = q + b - a := IntWalk.i64_in _ (by omega)
  have w5 : IntKind.i64.wrap (q + b - a + 1) = q + b - a + 1 := IntWalk.i64_in _ (by omega)
  refine FnOK.body hU hm Try.func21 rfl (by kernel_rfl) 24 rfl [.tmp 6] rfl (Nat.le_of_ble_eq_true rfl) (fun hwf => ?_)
  simp -implicitDefEqProofs only [go_sem, ↓reduceIte, Nat.reduceLT, Nat.reduceEqDiff, Nat.reduceAdd, Nat.reduceLeDiff, Nat.reduceMul, Nat.reduceSub, w1, w2, hq]
  refine ⟨by omega, .intro (fun e => ?_) (fun e => ?_)⟩
  · have e := of_decide_eq_true e
    simp -implicitDefEqProofs only [go_sem, ↓reduceIte, Nat.reduceLT, Nat.reduceEqDiff, Nat.reduceAdd, Nat.reduceLeDiff, Nat.reduceMul, Nat.reduceSub, w3, w4, w5]
    have w6 : IntKind.i64.wrap (a + (q + b - a + 1)) = a + (q + b - a + 1) := IntWalk.i64_in _ (by omega)
    simp -implicitDefEqProofs only [go_sem, ↓reduceIte, Nat.reduceLT, Nat.reduceEqDiff, Nat.reduceAdd, Nat.reduceLeDiff, Nat.reduceMul, Nat.reduceSub, w6]
    exact .same (.refl _) ⟨rfl, _, by omega, by omega, rfl⟩
  · have e := of_decide_eq_false e
    have w6 : IntKind.i64.wrap (a + q) = a + q := IntWalk.i64_in _ (by omega)
    simp -implicitDefEqProofs only [go_sem, ↓reduceIte, Nat.reduceLT, Nat.reduceEqDiff, Nat.reduceAdd, Nat.reduceLeDiff, Nat.reduceMul, Nat.reduceSub, w6]
    exact .same (.refl _) ⟨rfl, _, by omega, by omega, rfl⟩

end Go.Proofs.Ytidpcjblciompaa
