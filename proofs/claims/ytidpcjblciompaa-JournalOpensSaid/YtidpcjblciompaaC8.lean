/- The law DiskRuns. -/
import Derived.Test.YtidpcjblciompaaC7
import Derived.Test.YtidpcjblciompaaAb23
set_option linter.unusedSimpArgs false
set_option linter.unusedVariables false
namespace Go.Proofs.Ytidpcjblciompaa
open Go Go.Ab

theorem diskRuns_ok (h : Heap) : FnOK Try.prog 3 [] h fun r h' => r = .v (.bool true) ∧ Sub h h' := by
  refine FnOK.body hU hm Try.func3 rfl (by kernel_rfl) 48 rfl [.tmp 0] rfl (Nat.le_of_ble_eq_true rfl) (fun hwf => ?_)
  simp -implicitDefEqProofs only [go_sem, ↓reduceIte, Nat.reduceLT, Nat.reduceEqDiff, Nat.reduceAdd, Nat.reduceLeDiff, Nat.reduceMul, Nat.reduceSub]
  refine (new_ok 9 (by omega) h).mono fun r h1 ⟨id, hid, e1, hd0, hs0⟩ => ?_
  subst e1
  simp -implicitDefEqProofs only [go_sem, ↓reduceIte, Nat.reduceLT, Nat.reduceEqDiff, Nat.reduceAdd, Nat.reduceLeDiff, Nat.reduceMul, Nat.reduceSub, bne_self_eq_false]
  have k0 : D.ok ⟨9, [], 0, 0, false⟩ := ⟨by decide, by decide, by decide, by decide⟩
  refine (append_ok _ k0 id h1 _ [1, 2] hd0 (.inl ⟨.full, rfl⟩) (by decide)).mono fun r h2 ⟨e1, hd1, hs1⟩ => ?_
  have k1 := D.append_ok k0 [1, 2]
  have f1 : D.append ⟨9, [], 0, 0, false⟩ [1, 2] = (⟨9, [1, 2], 0, 0, false⟩, 0) := rfl
  rw [f1] at e1 hd1 k1
  subst e1
  simp -implicitDefEqProofs only [go_sem, ↓reduceIte, Nat.reduceLT, Nat.reduceEqDiff, Nat.reduceAdd, Nat.reduceLeDiff, Nat.reduceMul, Nat.reduceSub]
  refine (sync_ok _ k1 id h2 hd1).mono fun r h3 ⟨e1, hd2, hs2⟩ => ?_
  have k2 := D.sync_ok k1
  have f2 : D.sync ⟨9, [1, 2], 0, 0, false⟩ = (⟨9, [1, 2], 2, 0, false⟩, 0) := rfl
  simp only at e1 hd2 k2
  rw [f2] at e1 hd2 k2
  subst e1
  simp -implicitDefEqProofs only [go_sem, ↓reduceIte, Nat.reduceLT, Nat.reduceEqDiff, Nat.reduceAdd, Nat.reduceLeDiff, Nat.reduceMul, Nat.reduceSub]
  refine (append_ok _ k2 id h3 _ [3, 4, 5] hd2 (.inl ⟨.full, rfl⟩) (by decide)).mono fun r h4 ⟨e1, hd3, hs3⟩ => ?_
  have k3 := D.append_ok k2 [3, 4, 5]
  have f3 : D.append ⟨9, [1, 2], 2, 0, false⟩ [3, 4, 5] = (⟨9, [1, 2, 3, 4, 5], 2, 0, false⟩, 0) := rfl
  simp only at e1 hd3 k3
  rw [f3] at e1 hd3 k3
  subst e1
  simp -implicitDefEqProofs only [go_sem, ↓reduceIte, Nat.reduceLT, Nat.reduceEqDiff, Nat.reduceAdd, Nat.reduceLeDiff, Nat.reduceMul, Nat.reduceSub]
  refine (boot_ok _ k3 id h4 2 1 hd3).mono fun r h5 ⟨hd4, hs4⟩ => ?_
  have k4 := D.boot_ok k3 2 1
  have f4 : D.boot ⟨9, [1, 2, 3, 4, 5], 2, 0, false⟩ 2 1 = ⟨9, [1, 2, 3, 251], 4, 0, false⟩ := rfl
  simp only at hd4 k4
  rw [f4] at hd4 k4
  simp -implicitDefEqProofs only [go_sem, ↓reduceIte, Nat.reduceLT, Nat.reduceEqDiff, Nat.reduceAdd, Nat.reduceLeDiff, Nat.reduceMul, Nat.reduceSub, beq_self_eq_true, Int.natCast_zero, Int.ofNat_zero]
  obtain ⟨y, hy1, hy2⟩ := hd4
  refine (read_ok _ k4 id h5 y hy1 hy2).mono fun r h6 ⟨e1, e2⟩ => ?_
  subst e1; subst e2
  simp -implicitDefEqProofs only [go_sem, ↓reduceIte, Nat.reduceLT, Nat.reduceEqDiff, Nat.reduceAdd, Nat.reduceLeDiff, Nat.reduceMul, Nat.reduceSub]
  refine (same_ok _ _ [1, 2, 3, 251] [1, 2, 3, 251] h6 (.inl ⟨.no, rfl⟩) (.inl ⟨.full, rfl⟩) (by decide)).mono fun r h7 ⟨e1, e2⟩ => ?_
  rw [decide_eq_true rfl] at e1
  subst e1; subst e2
  simp -implicitDefEqProofs only [go_sem, ↓reduceIte, Nat.reduceLT, Nat.reduceEqDiff, Nat.reduceAdd, Nat.reduceLeDiff, Nat.reduceMul, Nat.reduceSub]
  refine ⟨by decide, by decide, by decide, fun id3 hid3 => ?_⟩
  simp -implicitDefEqProofs only [go_sem, ↓reduceIte, Nat.reduceLT, Nat.reduceEqDiff, Nat.reduceAdd, Nat.reduceLeDiff, Nat.reduceMul, Nat.reduceSub]
  have hne : id ≠ id3 := fun e => by subst e; rw [hy1] at hid3; cases hid3
  have hs6 : Sub h7 (upd h7 id3 (some (.obj (List.replicate 9 (byteA 0)) 5))) := Sub.upd_new hid3
  have hd5 : DiskAt (upd h7 id3 (some (.obj (List.replicate 9 (byteA 0)) 5))) id ⟨9, [1, 2, 3, 251], 4, 0, false⟩ := DiskAt.keep ⟨y, hy1, hy2⟩ hs6.keepObj
  refine (append_ok _ k4 id _ (.oa id3 0 9) (List.replicate 9 0) hd5 (.oa (l := List.replicate 9 0) (cs := List.replicate 9 (byteA 0)) (by rw [upd_same]) (by decide) rfl) (by decide)).mono fun r h8 ⟨e1, hd6, hs7⟩ => ?_
  have f5 : (D.append ⟨9, [1, 2, 3, 251], 4, 0, false⟩ (List.replicate 9 0)).2 = 8 := rfl
  rw [f5] at e1
  subst e1
  simp -implicitDefEqProofs only [go_sem, ↓reduceIte, Nat.reduceLT, Nat.reduceEqDiff, Nat.reduceAdd, Nat.reduceLeDiff, Nat.reduceMul, Nat.reduceSub]
  refine .same (.refl _) ⟨rfl, fun j k hj => ?_⟩
  have hji : j ≠ id := fun e => by subst e; rw [hid] at hj; cases hj
  exact hs7 _ _ hji (hs6 _ _ (hs4 _ _ hji (hs3 _ _ hji (hs2 _ _ hji (hs1 _ _ hji (hs0 _ _ hj))))))
end Go.Proofs.Ytidpcjblciompaa
