/- The disk. -/
import Derived.Test.YtidpcjblciompaaC4
set_option linter.unusedSimpArgs false
set_option linter.unusedVariables false
namespace Go.Proofs.Ytidpcjblciompaa
open Go Go.Ab

/-- A disk: its quota, its bytes, how many are synced, its fuse, is the power off. -/
structure D where
  q : Nat
  b : List UInt8
  sy : Nat
  f : Nat
  off : Bool

def D.ok (d : D) : Prop := d.b.length ≤ d.q ∧ d.q ≤ 1048576 ∧ d.sy ≤ d.b.length ∧ d.f < 9223372036854775808

def D.burn (d : D) : D := if 0 < d.f then { d with f := d.f - 1, off := decide (d.f = 1) } else d

def D.cells (d : D) (y : AV) : List AV := [.v (.int .i64 d.q), y, .v (.int .i64 d.sy), .v (.int .i64 d.f), .v (.bool d.off)]
def DiskAt (h : Heap) (id : Nat) (d : D) : Prop := ∃ y, h id = some (.obj (d.cells y) 75) ∧ By h y d.b

theorem DiskAt.keep {h h' : Heap} {id : Nat} {d : D} (hd : DiskAt h id d) (hs : KeepObj h h') : DiskAt h' id d := by
  obtain ⟨y, h1, h2⟩ := hd
  exact ⟨y, hs _ _ _ h1, h2.keepObj hs⟩
theorem By.set {h : Heap} {id : Nat} {x : AV} {l : List UInt8} {cs cs' : List AV} (hb : By h x l) (hid : h id = some (.obj cs 75)) : By (upd h id (some (.obj cs' 75))) x l := hb.keep (Keep.upd id _) hid (by decide)

theorem new_ok (q : Nat) (hq : q ≤ 1048576) (h : Heap) :
    FnOK Try.prog 15 [.v (.int .i64 q)] h fun r h' => ∃ id, h id = none ∧ r = .tup [.ptr id 0, .v (.int .i64 0)] ∧ DiskAt h' id ⟨q, [], 0, 0, false⟩ ∧ Sub h h' := by
  refine FnOK.body hU hm Try.func15 rfl (by kernel_rfl) 13 rfl [.tmp 2, .tmp 3] rfl (Nat.le_of_ble_eq_true rfl) (fun hwf => ?_)
  simp -implicitDefEqProofs only [go_sem, ↓reduceIte, Nat.reduceLT, Nat.reduceEqDiff, Nat.reduceAdd, Nat.reduceLeDiff, Nat.reduceMul, Nat.reduceSub]
  refine .intro (fun e => absurd (of_decide_eq_true e) (by omega)) (fun e => ?_)
  simp -implicitDefEqProofs only [go_sem, ↓reduceIte, Nat.reduceLT, Nat.reduceEqDiff, Nat.reduceAdd, Nat.reduceLeDiff, Nat.reduceMul, Nat.reduceSub]
  refine .no (decide_eq_false (by omega)) ?_
  simp -implicitDefEqProofs only [go_sem, ↓reduceIte, Nat.reduceLT, Nat.reduceEqDiff, Nat.reduceAdd, Nat.reduceLeDiff, Nat.reduceMul, Nat.reduceSub]
  intro id hid
  simp -implicitDefEqProofs only [go_sem, ↓reduceIte, Nat.reduceLT, Nat.reduceEqDiff, Nat.reduceAdd, Nat.reduceLeDiff, Nat.reduceMul, Nat.reduceSub]
  exact .same (.refl _) ⟨id, hid, rfl, ⟨_, upd_same .., .inl ⟨.full, rfl⟩⟩, (Sub.refl h).new hid _⟩

theorem new_bad (q : Int) (hq : q < 0 ∨ 1048576 < q) (h : Heap) :
    FnOK Try.prog 15 [.v (.int .i64 q)] h fun r h' => r = .tup [.v (.pointer none), .v (.int .i64 1)] ∧ h' = h := by
  refine FnOK.body hU hm Try.func15 rfl (by kernel_rfl) 13 rfl [.tmp 2, .tmp 3] rfl (Nat.le_of_ble_eq_true rfl) (fun hwf => ?_)
  simp -implicitDefEqProofs only [go_sem, ↓reduceIte, Nat.reduceLT, Nat.reduceEqDiff, Nat.reduceAdd, Nat.reduceLeDiff, Nat.reduceMul, Nat.reduceSub]
  refine .intro (fun e => ?_) (fun e => ?_)
  · simp -implicitDefEqProofs only [go_sem, ↓reduceIte, Nat.reduceLT, Nat.reduceEqDiff, Nat.reduceAdd, Nat.reduceLeDiff, Nat.reduceMul, Nat.reduceSub, e]
    exact .same (.refl _) ⟨rfl, rfl⟩
  · have := of_decide_eq_false e
    simp -implicitDefEqProofs only [go_sem, ↓reduceIte, Nat.reduceLT, Nat.reduceEqDiff, Nat.reduceAdd, Nat.reduceLeDiff, Nat.reduceMul, Nat.reduceSub, e]
    refine .yes (decide_eq_true (by omega)) ?_
    simp -implicitDefEqProofs only [go_sem, ↓reduceIte, Nat.reduceLT, Nat.reduceEqDiff, Nat.reduceAdd, Nat.reduceLeDiff, Nat.reduceMul, Nat.reduceSub]
    exact .same (.refl _) ⟨rfl, rfl⟩

theorem burn_ok (d : D) (hd : d.ok) (id : Nat) (h : Heap) (y : AV) (hid : h id = some (.obj (d.cells y) 75)) :
    FnOK Try.prog 46 [.ptr id 0] h fun r h' => r = .v (.bool d.burn.off) ∧ h' = upd h id (some (.obj (d.burn.cells y) 75)) := by
  obtain ⟨q, b, sy, f, off⟩ := d
  obtain ⟨d1, d2, d3, d4⟩ := hd
  simp only at d1 d2 d3 d4
  simp only [D.cells] at hid
  refine FnOK.body hU hm Try.func46 rfl (by kernel_rfl) 27 rfl [.tmp 2] rfl (Nat.le_of_ble_eq_true rfl) (fun hwf => ?_)
  simp -implicitDefEqProofs only [go_sem, ↓reduceIte, Nat.reduceLT, Nat.reduceEqDiff, Nat.reduceAdd, Nat.reduceLeDiff, Nat.reduceMul, Nat.reduceSub, hid]
  refine .intro (fun e => ?_) (fun e => ?_)
  · have e := of_decide_eq_true e
    have w1 : IntKind.i64.wrap ((f : Int) - 1) = ((f - 1 : Nat) : Int) := by rw [IntWalk.i64_in _ (by omega)]; omega
    simp -implicitDefEqProofs only [go_sem, ↓reduceIte, Nat.reduceLT, Nat.reduceEqDiff, Nat.reduceAdd, Nat.reduceLeDiff, Nat.reduceMul, Nat.reduceSub, hid, w1]
    have hb : (((f - 1 : Nat) : Int) == 0) = decide (f = 1) := by
      by_cases h1 : f = 1
      · simp [h1]
      · have : f - 1 ≠ 0 := by omega
        simp [h1, Int.natCast_eq_zero, this]
    refine .same (.refl _) ⟨?_, ?_⟩
    · simp only [D.burn, if_pos (show 0 < f by omega), hb, oneOr]
    · simp only [D.burn, D.cells, if_pos (show 0 < f by omega), hb]
  · have e := of_decide_eq_false e
    have hf : ¬ 0 < f := by omega
    simp -implicitDefEqProofs only [go_sem, ↓reduceIte, Nat.reduceLT, Nat.reduceEqDiff, Nat.reduceAdd, Nat.reduceLeDiff, Nat.reduceMul, Nat.reduceSub, hid]
    refine .same (.refl _) ⟨?_, ?_⟩
    · simp only [D.burn, if_neg hf, oneOr]
    · simp only [D.burn, D.cells, if_neg hf]
      funext j
      simp only [upd]
      split
      · rename_i e; subst e; exact hid
      · rfl

theorem D.burn_ok {d : D} (hd : d.ok) : d.burn.ok := by
  obtain ⟨d1, d2, d3, d4⟩ := hd
  unfold D.burn
  split
  · exact ⟨d1, d2, d3, by show d.f - 1 < _; omega⟩
  · exact ⟨d1, d2, d3, d4⟩
theorem D.burn_b (d : D) : d.burn.b = d.b := by unfold D.burn; split <;> rfl
theorem D.burn_q (d : D) : d.burn.q = d.q := by unfold D.burn; split <;> rfl
theorem D.burn_sy (d : D) : d.burn.sy = d.sy := by unfold D.burn; split <;> rfl

theorem free_ok (d : D) (hd : d.ok) (id : Nat) (h : Heap) (y : AV) (hid : h id = some (.obj (d.cells y) 75)) (hb : By h y d.b) :
    FnOK Try.prog 33 [.ptr id 0] h fun r h' => r = .v (.int .i64 (d.q - d.b.length : Nat)) ∧ h' = h := by
  obtain ⟨q, b, sy, f, off⟩ := d
  obtain ⟨d1, d2, d3, d4⟩ := hd
  simp only at d1 d2 d3 d4 hb
  simp only [D.cells] at hid
  refine FnOK.body hU hm Try.func33 rfl (by kernel_rfl) 13 rfl [.tmp 2] rfl (Nat.le_of_ble_eq_true rfl) (fun hwf => ?_)
  have w1 : IntKind.i64.wrap ((q : Int) - b.length) = ((q - b.length : Nat) : Int) := by rw [IntWalk.i64_in _ (by omega)]; omega
  simp -implicitDefEqProofs only [go_sem, ↓reduceIte, Nat.reduceLT, Nat.reduceEqDiff, Nat.reduceAdd, Nat.reduceLeDiff, Nat.reduceMul, Nat.reduceSub, hid, hb.len, w1]
  exact ⟨.of (by kernel_rfl), .same (.refl _) ⟨rfl, rfl⟩⟩

theorem len_ok (d : D) (id : Nat) (h : Heap) (y : AV) (hid : h id = some (.obj (d.cells y) 75)) (hb : By h y d.b) :
    FnOK Try.prog 24 [.ptr id 0] h fun r h' => r = .v (.int .i64 d.b.length) ∧ h' = h := by
  simp only [D.cells] at hid
  refine FnOK.body hU hm Try.func24 rfl (by kernel_rfl) 8 rfl [.tmp 2] rfl (Nat.le_of_ble_eq_true rfl) (fun hwf => ?_)
  simp -implicitDefEqProofs only [go_sem, ↓reduceIte, Nat.reduceLT, Nat.reduceEqDiff, Nat.reduceAdd, Nat.reduceLeDiff, Nat.reduceMul, Nat.reduceSub, hid, hb.len]
  exact .same (.refl _) ⟨rfl, rfl⟩

theorem off_ok (d : D) (id : Nat) (h : Heap) (y : AV) (hid : h id = some (.obj (d.cells y) 75)) :
    FnOK Try.prog 23 [.ptr id 0] h fun r h' => r = .v (.bool d.off) ∧ h' = h := by
  simp only [D.cells] at hid
  refine FnOK.body hU hm Try.func23 rfl (by kernel_rfl) 7 rfl [.tmp 2] rfl (Nat.le_of_ble_eq_true rfl) (fun hwf => ?_)
  simp -implicitDefEqProofs only [go_sem, ↓reduceIte, Nat.reduceLT, Nat.reduceEqDiff, Nat.reduceAdd, Nat.reduceLeDiff, Nat.reduceMul, Nat.reduceSub, hid]
  exact .same (.refl _) ⟨rfl, rfl⟩

theorem read_ok (d : D) (hd : d.ok) (id : Nat) (h : Heap) (y : AV) (hid : h id = some (.obj (d.cells y) 75)) (hb : By h y d.b) :
    FnOK Try.prog 20 [.ptr id 0] h fun r h' => r = .sl (d.b.map byteA) .no ∧ h' = h := by
  obtain ⟨d1, d2, d3, d4⟩ := hd
  simp only [D.cells] at hid
  refine FnOK.body hU hm Try.func20 rfl (by kernel_rfl) 8 rfl [.tmp 2] rfl (Nat.le_of_ble_eq_true rfl) (fun hwf => ?_)
  simp -implicitDefEqProofs only [go_sem, ↓reduceIte, Nat.reduceLT, Nat.reduceEqDiff, Nat.reduceAdd, Nat.reduceLeDiff, Nat.reduceMul, Nat.reduceSub, hid]
  refine (clone_sl y d.b h hb (by omega)).mono fun r h' ⟨e1, e2⟩ => ?_
  subst e1; subst e2
  simp -implicitDefEqProofs only [go_sem, ↓reduceIte, Nat.reduceLT, Nat.reduceEqDiff, Nat.reduceAdd, Nat.reduceLeDiff, Nat.reduceMul, Nat.reduceSub]
  exact .same (.refl _) ⟨rfl, rfl⟩

theorem arm_ok (d : D) (n : Int) (id : Nat) (h : Heap) (y : AV) (hid : h id = some (.obj (d.cells y) 75)) :
    FnOK Try.prog 22 [.ptr id 0, .v (.int .i64 n)] h fun r h' => h' = upd h id (some (.obj (({ d with f := n.toNat } : D).cells y) 75)) := by
  simp only [D.cells] at hid
  refine FnOK.body hU hm Try.func22 rfl (by kernel_rfl) 9 rfl [] rfl (Nat.le_of_ble_eq_true rfl) (fun hwf => ?_)
  simp -implicitDefEqProofs only [go_sem, ↓reduceIte, Nat.reduceLT, Nat.reduceEqDiff, Nat.reduceAdd, Nat.reduceLeDiff, Nat.reduceMul, Nat.reduceSub, hid]
  refine .same (.refl _) ?_
  have : (if n < 0 then (0 : Int) else n) = (n.toNat : Int) := by split <;> omega
  simp only [D.cells, this]
end Go.Proofs.Ytidpcjblciompaa
