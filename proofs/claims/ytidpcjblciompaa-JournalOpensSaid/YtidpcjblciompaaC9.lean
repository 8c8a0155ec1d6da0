/- The law DiskTwice. -/
import Derived.Test.YtidpcjblciompaaC8
set_option linter.unusedSimpArgs false
set_option linter.unusedVariables false
namespace Go.Proofs.Ytidpcjblciompaa
open Go Go.Ab

theorem D.append0 {d : D} {b : List UInt8} (h1 : d.off = false) (h2 : d.f = 0) (h3 : d.b.length + b.length ≤ d.q) : d.append b = ({ d with b := d.b ++ b }, 0) := by
  rcases d with ⟨q, b0, sy, f, off⟩
  simp only at h1 h2 h3
  subst h1; subst h2
  unfold D.append
  rw [if_neg (by simp), if_neg (by show ¬ q < b0.length + b.length; omega)]
  rfl
theorem D.sync0 {d : D} (h1 : d.off = false) (h2 : d.f = 0) : d.sync = ({ d with sy := d.b.length }, 0) := by
  unfold D.sync
  have : d.burn = d := by unfold D.burn; rw [if_neg (by omega)]
  rw [if_neg (by simp [h1]), this, if_neg (by simp [h1])]
theorem D.boot_twice (d : D) (hd : d.ok) (k t k2 t2 : Int) : (d.boot k t).boot k2 t2 = d.boot k t := by
  obtain ⟨l1, l2⟩ := D.left_le hd k
  have hb : (d.boot k t).b.length = d.left k := by
    show (flipTail _ _).length = _
    rw [flipTail_length, List.length_take]; omega
  have hl : (d.boot k t).left k2 = d.left k := by
    show d.left k + min k2.toNat ((d.boot k t).b.length - d.left k) = _
    rw [hb]; omega
  have hbad : (d.boot k t).bad k2 t2 = 0 := by
    unfold D.bad
    rw [hl]
    show min t2.toNat (d.left k - d.left k) = 0
    omega
  have hf : flipTail ((d.boot k t).b.take ((d.boot k t).left k2)) ((d.boot k t).left k2 - (d.boot k t).bad k2 t2) = (d.boot k t).b := by
    rw [hl, hbad, ← hb, List.take_length]
    simp [flipTail]
  have : (d.boot k t).boot k2 t2 = { (d.boot k t) with b := (d.boot k t).b, sy := (d.boot k t).left k2, f := 0, off := false } := by
    rw [show (d.boot k t).boot k2 t2 = { (d.boot k t) with b := flipTail ((d.boot k t).b.take ((d.boot k t).left k2)) ((d.boot k t).left k2 - (d.boot k t).bad k2 t2), sy := (d.boot k t).left k2, f := 0, off := false } from rfl, hf]
  rw [this, hl]
  rfl

theorem min60 (l : List UInt8) : (if ((60 : Int) < (l.length : Int)) then (60 : Int) else (l.length : Int)) = ((min l.length 60 : Nat) : Int) := by split <;> omega

theorem diskTwice_ok (x y : AV) (la lb : List UInt8) (k t m : Int) (h : Heap) (hx : By h x la) (hy : By h y lb) :
    FnOK Try.prog 5 [x, y, .v (.int .i64 k), .v (.int .i64 t), .v (.int .i64 m)] h fun r h' => r = .v (.bool true) ∧ Sub h h' := by
  refine FnOK.body hU hm Try.func5 rfl (by kernel_rfl) 78 rfl [.tmp 10] rfl (Nat.le_of_ble_eq_true rfl) (fun hwf => ?_)
  simp -implicitDefEqProofs only [go_sem, ↓reduceIte, Nat.reduceLT, Nat.reduceEqDiff, Nat.reduceAdd, Nat.reduceLeDiff, Nat.reduceMul, Nat.reduceSub]
  refine (new_ok 300 (by omega) h).mono fun r h1 ⟨id, hid, e1, hd0, hs0⟩ => ?_
  subst e1
  simp -implicitDefEqProofs only [go_sem, ↓reduceIte, Nat.reduceLT, Nat.reduceEqDiff, Nat.reduceAdd, Nat.reduceLeDiff, Nat.reduceMul, Nat.reduceSub, Int.natCast_zero, Int.ofNat_zero, bne_self_eq_false, hx.len, min60]
  have hx1 := hx.sub hs0
  have hy1 := hy.sub hs0
  refine hx1.take (m := (min la.length 60 : Nat)) (x := .i64) (min la.length 60) ?_ rfl (by omega) u5 fun x1 hx2 => ?_
  · simp -implicitDefEqProofs only [go_sem, ↓reduceIte, Nat.reduceLT, Nat.reduceEqDiff, Nat.reduceAdd, Nat.reduceLeDiff, Nat.reduceMul, Nat.reduceSub]
  have g1 : (la.take (min la.length 60)).length ≤ 60 := by rw [List.length_take]; omega
  generalize la.take (min la.length 60) = L1 at hx2 g1
  have k0 : D.ok ⟨300, [], 0, 0, false⟩ := ⟨by decide, by decide, by decide, by decide⟩
  simp -implicitDefEqProofs only [go_sem, ↓reduceIte, Nat.reduceLT, Nat.reduceEqDiff, Nat.reduceAdd, Nat.reduceLeDiff, Nat.reduceMul, Nat.reduceSub]
  refine (append_ok _ k0 id h1 x1 L1 hd0 hx2 (by omega)).mono fun r h2 ⟨e1, hd1, hs1⟩ => ?_
  have k1 := D.append_ok k0 L1
  rw [D.append0 rfl rfl (by show 0 + L1.length ≤ 300; omega)] at e1 hd1 k1
  subst e1
  simp -implicitDefEqProofs only [go_sem, ↓reduceIte, Nat.reduceLT, Nat.reduceEqDiff, Nat.reduceAdd, Nat.reduceLeDiff, Nat.reduceMul, Nat.reduceSub, Int.natCast_zero, Int.ofNat_zero, bne_self_eq_false]
  refine (sync_ok _ k1 id h2 hd1).mono fun r h3 ⟨e1, hd2, hs2⟩ => ?_
  have k2 := D.sync_ok k1
  rw [D.sync0 rfl rfl] at e1 hd2 k2
  subst e1
  simp -implicitDefEqProofs only [go_sem, ↓reduceIte, Nat.reduceLT, Nat.reduceEqDiff, Nat.reduceAdd, Nat.reduceLeDiff, Nat.reduceMul, Nat.reduceSub, Int.natCast_zero, Int.ofNat_zero, bne_self_eq_false, hy.len, min60]
  have hid1 : h1 id ≠ none := by obtain ⟨q, hq, _⟩ := hd0; rw [hq]; simp
  have hy3 : By h3 y lb := by
    obtain ⟨q, hq, _⟩ := hd0
    obtain ⟨q2, hq2, _⟩ := hd1
    exact (hy1.keep hs1 hq (by decide)).keep hs2 hq2 (by decide)
  refine hy3.take (m := (min lb.length 60 : Nat)) (x := .i64) (min lb.length 60) ?_ rfl (by omega) u5 fun y1 hy4 => ?_
  · simp -implicitDefEqProofs only [go_sem, ↓reduceIte, Nat.reduceLT, Nat.reduceEqDiff, Nat.reduceAdd, Nat.reduceLeDiff, Nat.reduceMul, Nat.reduceSub]
  have g2 : (lb.take (min lb.length 60)).length ≤ 60 := by rw [List.length_take]; omega
  generalize lb.take (min lb.length 60) = L2 at hy4 g2
  simp -implicitDefEqProofs only [go_sem, ↓reduceIte, Nat.reduceLT, Nat.reduceEqDiff, Nat.reduceAdd, Nat.reduceLeDiff, Nat.reduceMul, Nat.reduceSub]
  refine (append_ok _ k2 id h3 y1 L2 hd2 hy4 (by omega)).mono fun r h4 ⟨e1, hd3, hs3⟩ => ?_
  have k3 := D.append_ok k2 L2
  rw [D.append0 rfl rfl (by show ([] ++ L1).length + L2.length ≤ 300; rw [List.nil_append]; omega)] at e1 hd3 k3
  subst e1
  simp -implicitDefEqProofs only [go_sem, ↓reduceIte, Nat.reduceLT, Nat.reduceEqDiff, Nat.reduceAdd, Nat.reduceLeDiff, Nat.reduceMul, Nat.reduceSub, Int.natCast_zero, Int.ofNat_zero, bne_self_eq_false]
  refine (boot_ok _ k3 id h4 k t hd3).mono fun r h5 ⟨hd4, hs4⟩ => ?_
  have k4 := D.boot_ok k3 k t
  have tw := D.boot_twice _ k3 k t m m
  generalize hE : D.boot _ k t = E at hd4 k4 tw
  have hoff : E.off = false := by rw [← hE]; rfl
  simp -implicitDefEqProofs only [go_sem, ↓reduceIte, Nat.reduceLT, Nat.reduceEqDiff, Nat.reduceAdd, Nat.reduceLeDiff, Nat.reduceMul, Nat.reduceSub]
  obtain ⟨z, hz1, hz2⟩ := hd4
  refine (read_ok _ k4 id h5 z hz1 hz2).mono fun r h6 ⟨e1, e2⟩ => ?_
  subst e1; subst e2
  simp -implicitDefEqProofs only [go_sem, ↓reduceIte, Nat.reduceLT, Nat.reduceEqDiff, Nat.reduceAdd, Nat.reduceLeDiff, Nat.reduceMul, Nat.reduceSub]
  refine (boot_ok _ k4 id h6 m m ⟨z, hz1, hz2⟩).mono fun r h7 ⟨hd5, hs5⟩ => ?_
  rw [tw] at hd5
  obtain ⟨z2, hz3, hz4⟩ := hd5
  simp -implicitDefEqProofs only [go_sem, ↓reduceIte, Nat.reduceLT, Nat.reduceEqDiff, Nat.reduceAdd, Nat.reduceLeDiff, Nat.reduceMul, Nat.reduceSub]
  refine (read_ok _ k4 id h7 z2 hz3 hz4).mono fun r h8 ⟨e1, e2⟩ => ?_
  subst e1; subst e2
  simp -implicitDefEqProofs only [go_sem, ↓reduceIte, Nat.reduceLT, Nat.reduceEqDiff, Nat.reduceAdd, Nat.reduceLeDiff, Nat.reduceMul, Nat.reduceSub]
  refine (same_ok _ _ E.b E.b h8 (.sl _ _) (.sl _ _) (by obtain ⟨q1, q2, _⟩ := k4; omega)).mono fun r h9 ⟨e1, e2⟩ => ?_
  rw [decide_eq_true rfl] at e1
  subst e1; subst e2
  simp -implicitDefEqProofs only [go_sem, ↓reduceIte, Nat.reduceLT, Nat.reduceEqDiff, Nat.reduceAdd, Nat.reduceLeDiff, Nat.reduceMul, Nat.reduceSub]
  refine (len_ok E id h9 z2 hz3 hz4).mono fun r h10 ⟨e1, e2⟩ => ?_
  subst e1; subst e2
  simp -implicitDefEqProofs only [go_sem, ↓reduceIte, Nat.reduceLT, Nat.reduceEqDiff, Nat.reduceAdd, Nat.reduceLeDiff, Nat.reduceMul, Nat.reduceSub, beq_self_eq_true]
  refine (off_ok E id h10 z2 hz3).mono fun r h11 ⟨e1, e2⟩ => ?_
  rw [hoff] at e1
  subst e1; subst e2
  simp -implicitDefEqProofs only [go_sem, ↓reduceIte, Nat.reduceLT, Nat.reduceEqDiff, Nat.reduceAdd, Nat.reduceLeDiff, Nat.reduceMul, Nat.reduceSub, Bool.not_false]
  refine (diskRuns_ok h11).mono fun r h12 ⟨e1, hs6⟩ => ?_
  subst e1
  simp -implicitDefEqProofs only [go_sem, ↓reduceIte, Nat.reduceLT, Nat.reduceEqDiff, Nat.reduceAdd, Nat.reduceLeDiff, Nat.reduceMul, Nat.reduceSub]
  refine .same (.refl _) ⟨rfl, fun j q hj => ?_⟩
  have hji : j ≠ id := fun e => by subst e; rw [hid] at hj; cases hj
  exact hs6 _ _ (hs5 _ _ hji (hs4 _ _ hji (hs3 _ _ hji (hs2 _ _ hji (hs1 _ _ hji (hs0 _ _ hj))))))
end Go.Proofs.Ytidpcjblciompaa
