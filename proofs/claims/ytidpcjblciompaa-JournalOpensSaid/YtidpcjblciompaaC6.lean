/- The disk: Append, Sync, Cut. -/
import Derived.Test.YtidpcjblciompaaC5
set_option linter.unusedSimpArgs false
set_option linter.unusedVariables false
namespace Go.Proofs.Ytidpcjblciompaa
open Go Go.Ab

def D.append (d : D) (b : List UInt8) : D × Nat :=
  if d.off then (d, 9) else if d.q < d.b.length + b.length then (d, 8) else
    let e := D.burn { d with b := d.b ++ b }
    (e, if e.off then 9 else 0)
def D.sync (d : D) : D × Nat :=
  if d.off then (d, 9) else if d.burn.off then (d.burn, 9) else ({ d.burn with sy := d.b.length }, 0)
def D.cut (d : D) (n : Int) : D × Nat :=
  if d.off then (d, 9) else if n < 0 ∨ (d.b.length : Int) < n then (d, 1) else
    if d.burn.off then (d.burn, 9) else ({ d.burn with b := d.b.take n.toNat, sy := min d.sy n.toNat }, 0)

theorem D.append_ok {d : D} (hd : d.ok) (b : List UInt8) : (d.append b).1.ok := by
  unfold D.append
  split
  · exact hd
  · split
    · exact hd
    · refine D.burn_ok ⟨?_, hd.2.1, ?_, hd.2.2.2⟩
      · show (d.b ++ b).length ≤ d.q
        rw [List.length_append]; omega
      · have := hd.2.2.1
        show d.sy ≤ (d.b ++ b).length
        rw [List.length_append]; omega
theorem D.sync_ok {d : D} (hd : d.ok) : d.sync.1.ok := by
  have hb := D.burn_ok hd
  unfold D.sync
  split
  · exact hd
  · split
    · exact hb
    · obtain ⟨d1, d2, d3, d4⟩ := hb
      refine ⟨d1, d2, ?_, d4⟩
      show d.b.length ≤ d.burn.b.length
      rw [D.burn_b]; exact Nat.le_refl _
theorem D.cut_ok {d : D} (hd : d.ok) (n : Int) : (d.cut n).1.ok := by
  have hb := D.burn_ok hd
  unfold D.cut
  split
  · exact hd
  · split
    · exact hd
    · split
      · exact hb
      · obtain ⟨d1, d2, d3, d4⟩ := hb
        obtain ⟨e1, e2, e3, e4⟩ := hd
        rw [D.burn_q] at d2
        refine ⟨?_, ?_, ?_, d4⟩
        · show (d.b.take n.toNat).length ≤ d.burn.q
          rw [D.burn_q, List.length_take]; omega
        · show d.burn.q ≤ _
          rw [D.burn_q]; exact d2
        · show min d.sy n.toNat ≤ (d.b.take n.toNat).length
          rw [List.length_take]; omega

theorem append_ok (d : D) (hd : d.ok) (id : Nat) (h : Heap) (x : AV) (b : List UInt8) (hdk : DiskAt h id d) (hx : By h x b) (hl : b.length ≤ 1000000000) :
    FnOK Try.prog 16 [.ptr id 0, x] h fun r h' => r = .v (.int .i64 (d.append b).2) ∧ DiskAt h' id (d.append b).1 ∧ Keep id h h' := by
  obtain ⟨y, hid0, hb⟩ := hdk
  have hid := hid0
  simp only [D.cells] at hid
  have hok := hd
  obtain ⟨d1, d2, d3, d4⟩ := hd
  refine FnOK.body hU hm Try.func16 rfl (by kernel_rfl) 26 rfl [.tmp 4] rfl (Nat.le_of_ble_eq_true rfl) (fun hwf => ?_)
  simp -implicitDefEqProofs only [go_sem, ↓reduceIte, Nat.reduceLT, Nat.reduceEqDiff, Nat.reduceAdd, Nat.reduceLeDiff, Nat.reduceMul, Nat.reduceSub, hid]
  refine .intro (fun e => ?_) (fun e => ?_)
  · simp -implicitDefEqProofs only [go_sem, ↓reduceIte, Nat.reduceLT, Nat.reduceEqDiff, Nat.reduceAdd, Nat.reduceLeDiff, Nat.reduceMul, Nat.reduceSub]
    refine .same (.refl _) ?_
    simp only [D.append, e, if_true, oneOr]
    exact ⟨rfl, ⟨y, hid0, hb⟩, .refl _ _⟩
  · simp -implicitDefEqProofs only [go_sem, ↓reduceIte, Nat.reduceLT, Nat.reduceEqDiff, Nat.reduceAdd, Nat.reduceLeDiff, Nat.reduceMul, Nat.reduceSub, hid, hx.len]
    refine (free_ok d hok id h y hid0 hb).mono fun r h' ⟨e1, e2⟩ => ?_
    subst e1; subst e2
    simp -implicitDefEqProofs only [go_sem, ↓reduceIte, Nat.reduceLT, Nat.reduceEqDiff, Nat.reduceAdd, Nat.reduceLeDiff, Nat.reduceMul, Nat.reduceSub]
    refine .intro (fun e2 => ?_) (fun e2 => ?_)
    · have e2 := of_decide_eq_true e2
      simp -implicitDefEqProofs only [go_sem, ↓reduceIte, Nat.reduceLT, Nat.reduceEqDiff, Nat.reduceAdd, Nat.reduceLeDiff, Nat.reduceMul, Nat.reduceSub]
      refine .same (.refl _) ?_
      simp only [D.append, e, if_pos (show d.q < d.b.length + b.length by omega), oneOr]
      exact ⟨rfl, ⟨y, hid0, hb⟩, .refl _ _⟩
    · have e2 := of_decide_eq_false e2
      have hno : ¬ d.q < d.b.length + b.length := by omega
      simp -implicitDefEqProofs only [go_sem, ↓reduceIte, Nat.reduceLT, Nat.reduceEqDiff, Nat.reduceAdd, Nat.reduceLeDiff, Nat.reduceMul, Nat.reduceSub, hid, hb.fit, hx.fit]
      refine (concat_ok [y, x] [d.b, b] .full h' (.cons hb (.cons hx .nil)) ?_ (by simp)).mono fun r h1 ⟨e1, hs⟩ => ?_
      · simp only [List.flatten_cons, List.flatten_nil, List.append_nil, List.length_append]; omega
      · subst e1
        have hid1 := hs _ _ hid
        simp -implicitDefEqProofs only [go_sem, ↓reduceIte, Nat.reduceLT, Nat.reduceEqDiff, Nat.reduceAdd, Nat.reduceLeDiff, Nat.reduceMul, Nat.reduceSub, hid1]
        have hok2 : D.ok { d with b := d.b ++ b } := ⟨by show (d.b ++ b).length ≤ d.q; rw [List.length_append]; omega, d2, by show d.sy ≤ (d.b ++ b).length; rw [List.length_append]; omega, d4⟩
        refine (burn_ok { d with b := d.b ++ b } hok2 id _ (.sl ((d.b ++ b).map byteA) .no) ?_).mono fun r h2 ⟨e1, e2⟩ => ?_
        · rw [upd_same]
          simp only [D.cells, List.flatten_cons, List.flatten_nil, List.append_nil]
        · subst e1; subst e2
          have hk : Keep id h' (upd (upd h1 id (some (.obj (d.cells (.sl ((d.b ++ b).map byteA) .no)) 75))) id (some (.obj ((D.burn { d with b := d.b ++ b }).cells (.sl ((d.b ++ b).map byteA) .no)) 75))) :=
            (hs.keep id).trans ((Keep.upd id _).trans (Keep.upd id _))
          have hA : d.append b = (D.burn { d with b := d.b ++ b }, if (D.burn { d with b := d.b ++ b }).off then 9 else 0) := by
            unfold D.append
            rw [if_neg (by simp [e]), if_neg hno]
          simp -implicitDefEqProofs only [go_sem, ↓reduceIte, Nat.reduceLT, Nat.reduceEqDiff, Nat.reduceAdd, Nat.reduceLeDiff, Nat.reduceMul, Nat.reduceSub]
          refine .intro (fun e3 => ?_) (fun e3 => ?_)
          · simp -implicitDefEqProofs only [go_sem, ↓reduceIte, Nat.reduceLT, Nat.reduceEqDiff, Nat.reduceAdd, Nat.reduceLeDiff, Nat.reduceMul, Nat.reduceSub]
            refine .same (.refl _) ?_
            rw [hA, if_pos e3]
            refine ⟨rfl, ⟨_, upd_same .., ?_⟩, fun j k hj hk2 => ?_⟩
            · simp only [D.burn_b]; exact .sl _ _
            · rw [upd_other _ _ hj]; exact hs _ _ hk2
          · simp -implicitDefEqProofs only [go_sem, ↓reduceIte, Nat.reduceLT, Nat.reduceEqDiff, Nat.reduceAdd, Nat.reduceLeDiff, Nat.reduceMul, Nat.reduceSub]
            refine .same (.refl _) ?_
            rw [hA, if_neg (by simp [e3])]
            refine ⟨rfl, ⟨_, upd_same .., ?_⟩, fun j k hj hk2 => ?_⟩
            · simp only [D.burn_b]; exact .sl _ _
            · rw [upd_other _ _ hj]; exact hs _ _ hk2

theorem sync_ok (d : D) (hd : d.ok) (id : Nat) (h : Heap) (hdk : DiskAt h id d) :
    FnOK Try.prog 17 [.ptr id 0] h fun r h' => r = .v (.int .i64 d.sync.2) ∧ DiskAt h' id d.sync.1 ∧ Keep id h h' := by
  obtain ⟨y, hid0, hb⟩ := hdk
  have hid := hid0
  simp only [D.cells] at hid
  refine FnOK.body hU hm Try.func17 rfl (by kernel_rfl) 19 rfl [.tmp 2] rfl (Nat.le_of_ble_eq_true rfl) (fun hwf => ?_)
  simp -implicitDefEqProofs only [go_sem, ↓reduceIte, Nat.reduceLT, Nat.reduceEqDiff, Nat.reduceAdd, Nat.reduceLeDiff, Nat.reduceMul, Nat.reduceSub, hid]
  refine .intro (fun e => ?_) (fun e => ?_)
  · simp -implicitDefEqProofs only [go_sem, ↓reduceIte, Nat.reduceLT, Nat.reduceEqDiff, Nat.reduceAdd, Nat.reduceLeDiff, Nat.reduceMul, Nat.reduceSub, e]
    refine .same (.refl _) ?_
    simp only [D.sync, e, if_true, oneOr]
    exact ⟨rfl, ⟨y, hid0, hb⟩, .refl _ _⟩
  · simp -implicitDefEqProofs only [go_sem, ↓reduceIte, Nat.reduceLT, Nat.reduceEqDiff, Nat.reduceAdd, Nat.reduceLeDiff, Nat.reduceMul, Nat.reduceSub, e]
    refine (burn_ok d hd id h y hid0).mono fun r h1 ⟨e1, e2⟩ => ?_
    subst e1; subst e2
    simp -implicitDefEqProofs only [go_sem, ↓reduceIte, Nat.reduceLT, Nat.reduceEqDiff, Nat.reduceAdd, Nat.reduceLeDiff, Nat.reduceMul, Nat.reduceSub]
    refine .intro (fun e3 => ?_) (fun e3 => ?_)
    · simp -implicitDefEqProofs only [go_sem, ↓reduceIte, Nat.reduceLT, Nat.reduceEqDiff, Nat.reduceAdd, Nat.reduceLeDiff, Nat.reduceMul, Nat.reduceSub]
      refine .same (.refl _) ?_
      rw [show d.sync = (d.burn, 9) by unfold D.sync; rw [if_neg (by simp [e]), if_pos e3]]
      exact ⟨rfl, ⟨_, upd_same .., by rw [D.burn_b]; exact hb.set hid⟩, Keep.upd id _⟩
    · simp only [D.cells]
      simp -implicitDefEqProofs only [go_sem, ↓reduceIte, Nat.reduceLT, Nat.reduceEqDiff, Nat.reduceAdd, Nat.reduceLeDiff, Nat.reduceMul, Nat.reduceSub, hb.len]
      refine .same (.refl _) ?_
      rw [show d.sync = ({ d.burn with sy := d.b.length }, 0) by unfold D.sync; rw [if_neg (by simp [e]), if_neg (by simp [e3])]]
      exact ⟨rfl, ⟨_, upd_same .., by show By _ _ d.burn.b; rw [D.burn_b]; exact hb.set hid⟩, Keep.upd id _⟩

theorem cut_ok (d : D) (hd : d.ok) (id : Nat) (h : Heap) (n : Int) (hdk : DiskAt h id d) :
    FnOK Try.prog 32 [.ptr id 0, .v (.int .i64 n)] h fun r h' => r = .v (.int .i64 (d.cut n).2) ∧ DiskAt h' id (d.cut n).1 ∧ Keep id h h' := by
  obtain ⟨y, hid0, hb⟩ := hdk
  have hid := hid0
  simp only [D.cells] at hid
  have hok := hd
  obtain ⟨d1, d2, d3, d4⟩ := hd
  refine FnOK.body hU hm Try.func32 rfl (by kernel_rfl) 41 rfl [.tmp 4] rfl (Nat.le_of_ble_eq_true rfl) (fun hwf => ?_)
  simp -implicitDefEqProofs only [go_sem, ↓reduceIte, Nat.reduceLT, Nat.reduceEqDiff, Nat.reduceAdd, Nat.reduceLeDiff, Nat.reduceMul, Nat.reduceSub, hid]
  refine .intro (fun e => ?_) (fun e => ?_)
  · simp -implicitDefEqProofs only [go_sem, ↓reduceIte, Nat.reduceLT, Nat.reduceEqDiff, Nat.reduceAdd, Nat.reduceLeDiff, Nat.reduceMul, Nat.reduceSub]
    refine .same (.refl _) ?_
    simp only [D.cut, e, if_true, oneOr]
    exact ⟨rfl, ⟨y, hid0, hb⟩, .refl _ _⟩
  · simp -implicitDefEqProofs only [go_sem, ↓reduceIte, Nat.reduceLT, Nat.reduceEqDiff, Nat.reduceAdd, Nat.reduceLeDiff, Nat.reduceMul, Nat.reduceSub, hid]
    have bad : (n < 0 ∨ (d.b.length : Int) < n) → RetOK [.v (.int .i64 1)] h fun r h' => r = .v (.int .i64 (d.cut n).2) ∧ DiskAt h' id (d.cut n).1 ∧ Keep id h h' := fun hbad => by
      refine .same (.refl _) ?_
      simp only [D.cut, e, if_pos hbad, oneOr]
      exact ⟨rfl, ⟨y, hid0, hb⟩, .refl _ _⟩
    refine .intro (fun e2 => ?_) (fun e2 => ?_)
    · have e2' := of_decide_eq_true e2
      simp -implicitDefEqProofs only [go_sem, ↓reduceIte, Nat.reduceLT, Nat.reduceEqDiff, Nat.reduceAdd, Nat.reduceLeDiff, Nat.reduceMul, Nat.reduceSub, e2]
      exact bad (.inl e2')
    · have e2' := of_decide_eq_false e2
      simp -implicitDefEqProofs only [go_sem, ↓reduceIte, Nat.reduceLT, Nat.reduceEqDiff, Nat.reduceAdd, Nat.reduceLeDiff, Nat.reduceMul, Nat.reduceSub, e2, hid, hb.len]
      refine .intro (fun e3 => ?_) (fun e3 => ?_)
      · have e3' := of_decide_eq_true e3
        simp -implicitDefEqProofs only [go_sem, ↓reduceIte, Nat.reduceLT, Nat.reduceEqDiff, Nat.reduceAdd, Nat.reduceLeDiff, Nat.reduceMul, Nat.reduceSub]
        exact bad (.inr e3')
      · have e3' := of_decide_eq_false e3
        have hno : ¬ (n < 0 ∨ (d.b.length : Int) < n) := by omega
        simp -implicitDefEqProofs only [go_sem, ↓reduceIte, Nat.reduceLT, Nat.reduceEqDiff, Nat.reduceAdd, Nat.reduceLeDiff, Nat.reduceMul, Nat.reduceSub]
        refine (burn_ok d hok id h y hid0).mono fun r h1 ⟨e1, e2⟩ => ?_
        subst e1; subst e2
        simp -implicitDefEqProofs only [go_sem, ↓reduceIte, Nat.reduceLT, Nat.reduceEqDiff, Nat.reduceAdd, Nat.reduceLeDiff, Nat.reduceMul, Nat.reduceSub]
        refine .intro (fun e4 => ?_) (fun e4 => ?_)
        · simp -implicitDefEqProofs only [go_sem, ↓reduceIte, Nat.reduceLT, Nat.reduceEqDiff, Nat.reduceAdd, Nat.reduceLeDiff, Nat.reduceMul, Nat.reduceSub]
          refine .same (.refl _) ?_
          rw [show d.cut n = (d.burn, 9) by unfold D.cut; rw [if_neg (by simp [e]), if_neg hno, if_pos e4]]
          exact ⟨rfl, ⟨_, upd_same .., by rw [D.burn_b]; exact hb.set hid⟩, Keep.upd id _⟩
        · have hb1 : By (upd h id (some (.obj (d.burn.cells y) 75))) y d.b := hb.set hid
          simp only [D.cells] at hb1 ⊢
          simp -implicitDefEqProofs only [go_sem, ↓reduceIte, Nat.reduceLT, Nat.reduceEqDiff, Nat.reduceAdd, Nat.reduceLeDiff, Nat.reduceMul, Nat.reduceSub]
          refine hb1.take (m := n) (x := .i64) n.toNat ?_ (by omega) (by omega) u5 fun z hz => ?_
          · simp -implicitDefEqProofs only [go_sem, ↓reduceIte, Nat.reduceLT, Nat.reduceEqDiff, Nat.reduceAdd, Nat.reduceLeDiff, Nat.reduceMul, Nat.reduceSub]
          · simp -implicitDefEqProofs only [go_sem, ↓reduceIte, Nat.reduceLT, Nat.reduceEqDiff, Nat.reduceAdd, Nat.reduceLeDiff, Nat.reduceMul, Nat.reduceSub]
            refine (clone_sl z _ _ hz (by rw [List.length_take]; omega)).mono fun r h1 ⟨e1, e2⟩ => ?_
            subst e1; subst e2
            simp -implicitDefEqProofs only [go_sem, ↓reduceIte, Nat.reduceLT, Nat.reduceEqDiff, Nat.reduceAdd, Nat.reduceLeDiff, Nat.reduceMul, Nat.reduceSub]
            refine .same (.refl _) ?_
            rw [show d.cut n = ({ d.burn with b := d.b.take n.toNat, sy := min d.sy n.toNat }, 0) by unfold D.cut; rw [if_neg (by simp [e]), if_neg hno, if_neg (by simp [e4])]]
            refine ⟨rfl, ⟨.sl ((d.b.take n.toNat).map byteA) .no, ?_, .sl _ _⟩, Keep.upd id _⟩
            simp only [upd_same, D.cells, D.burn_sy]
            have : (if n < (d.sy : Int) then n else (d.sy : Int)) = ((min d.sy n.toNat : Nat) : Int) := by split <;> omega
            rw [this]
end Go.Proofs.Ytidpcjblciompaa
