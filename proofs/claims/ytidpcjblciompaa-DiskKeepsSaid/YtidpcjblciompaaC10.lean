/- The law DiskKeeps. -/
import Derived.Test.YtidpcjblciompaaC9
import Derived.Test.YtidpcjblciompaaAb24
set_option linter.unusedSimpArgs false
set_option linter.unusedVariables false
namespace Go.Proofs.Ytidpcjblciompaa
open Go Go.Ab

/-- Behind a call that changes a disk. -/
theorem dthen {f : FuncId} {args : List AV} {h : Heap} {Q : AV → Heap → Prop} {X : AV} {id : Nat} {d : D} (hf : FnOK Try.prog f args h fun r h' => r = X ∧ DiskAt h' id d ∧ Keep id h h') (k : ∀ h', DiskAt h' id d → Keep id h h' → Q X h') : FnOK Try.prog f args h Q :=
  hf.mono fun r h' ⟨e1, e2, e3⟩ => by subst e1; exact k h' e2 e3
theorem arm_ok' (d : D) (n : Nat) (id : Nat) (h : Heap) (hd : DiskAt h id d) : FnOK Try.prog 22 [.ptr id 0, .v (.int .i64 n)] h fun r h' => DiskAt h' id { d with f := n } ∧ Keep id h h' := by
  obtain ⟨y, h1, h2⟩ := hd
  refine (arm_ok d n id h y h1).mono fun r h' e => ?_
  subst e
  exact ⟨⟨y, by rw [upd_same]; rfl, h2.set h1⟩, Keep.upd _ _⟩
theorem off_ok' (d : D) (id : Nat) (h : Heap) (hd : DiskAt h id d) : FnOK Try.prog 23 [.ptr id 0] h fun r h' => r = .v (.bool d.off) ∧ h' = h := by
  obtain ⟨y, h1, h2⟩ := hd
  exact off_ok d id h y h1
theorem read_ok' (d : D) (hk : d.ok) (id : Nat) (h : Heap) (hd : DiskAt h id d) : FnOK Try.prog 20 [.ptr id 0] h fun r h' => r = .sl (d.b.map byteA) .no ∧ h' = h := by
  obtain ⟨y, h1, h2⟩ := hd
  exact read_ok d hk id h y h1 h2
theorem len_ok' (d : D) (id : Nat) (h : Heap) (hd : DiskAt h id d) : FnOK Try.prog 24 [.ptr id 0] h fun r h' => r = .v (.int .i64 d.b.length) ∧ h' = h := by
  obtain ⟨y, h1, h2⟩ := hd
  exact len_ok d id h y h1 h2
theorem free_ok' (d : D) (hk : d.ok) (id : Nat) (h : Heap) (hd : DiskAt h id d) : FnOK Try.prog 33 [.ptr id 0] h fun r h' => r = .v (.int .i64 (d.q - d.b.length : Nat)) ∧ h' = h := by
  obtain ⟨y, h1, h2⟩ := hd
  exact free_ok d hk id h y h1 h2

theorem append_room {d : D} {b : List UInt8} (h1 : d.off = false) (h2 : d.b.length + b.length ≤ d.q) : d.append b = (D.burn { d with b := d.b ++ b }, if (D.burn { d with b := d.b ++ b }).off then 9 else 0) := by
  unfold D.append
  rw [if_neg (by simp [h1]), if_neg (by omega)]

theorem keeps_boot0 (C : List UInt8) (f : Nat) (k t : Int) : D.boot ⟨200, C, C.length, f, false⟩ k t = ⟨200, C, C.length, 0, false⟩ := by
  have h1 : D.left ⟨200, C, C.length, f, false⟩ k = C.length := by
    show C.length + min k.toNat (C.length - C.length) = _; omega
  have h2 : D.bad ⟨200, C, C.length, f, false⟩ k t = 0 := by
    unfold D.bad; rw [h1]
    show min t.toNat (C.length - C.length) = 0; omega
  unfold D.boot
  rw [h1, h2]
  simp [flipTail]

theorem keeps_boot1 (A B : List UInt8) (f : Nat) (k t : Nat) : D.boot ⟨200, A ++ B, A.length, f, true⟩ k t = ⟨200, A ++ flipTail (B.take (min k B.length)) (min k B.length - min t (min k B.length)), A.length + min k B.length, 0, false⟩ := by
  have h1 : D.left ⟨200, A ++ B, A.length, f, true⟩ k = A.length + min k B.length := by
    show A.length + min (Int.toNat k) ((A ++ B).length - A.length) = _
    rw [List.length_append]; simp
  have h2 : D.bad ⟨200, A ++ B, A.length, f, true⟩ k t = min t (min k B.length) := by
    unfold D.bad; rw [h1]
    show min (Int.toNat t) (A.length + min k B.length - A.length) = _
    simp
  unfold D.boot
  rw [h1, h2]
  congr 1
  show flipTail ((A ++ B).take _) _ = _
  rw [List.take_length_add_append]
  unfold flipTail
  rw [show A.length + min k B.length - min t (min k B.length) = A.length + (min k B.length - min t (min k B.length)) by omega, List.take_length_add_append, List.drop_length_add_append, List.append_assoc]

theorem flipTail_get (l : List UInt8) (s j : Nat) (hj : j < l.length) (hj2 : j < (flipTail l s).length) : (flipTail l s)[j] = if s ≤ j then ~~~ l[j] else l[j] := by
  have e : (flipTail l s)[j]? = some (if s ≤ j then ~~~ l[j] else l[j]) := by
    unfold flipTail
    by_cases hs : s ≤ j
    · rw [if_pos hs, List.getElem?_append_right (by simp; omega), List.getElem?_map, List.getElem?_drop, List.length_take, show s + (j - min s l.length) = j by omega, List.getElem?_eq_getElem hj]; rfl
    · rw [if_neg hs, List.getElem?_append_left (by simp; omega), List.getElem?_take, if_pos (by omega), List.getElem?_eq_getElem hj]
  rw [List.getElem?_eq_getElem hj2] at e
  exact Option.some.inj e

theorem keeps_boot2 (A B : List UInt8) (f k t : Nat) : ∃ F : List UInt8, D.boot ⟨200, A ++ B, A.length, f, true⟩ k t = ⟨200, A ++ F, A.length + F.length, 0, false⟩ ∧ F.length = min k B.length ∧
    ∀ j (h1 : j < F.length) (h2 : j < B.length), F[j] = if F.length ≤ j + t then ~~~ B[j] else B[j] := by
  have hF : (flipTail (B.take (min k B.length)) (min k B.length - min t (min k B.length))).length = min k B.length := by rw [flipTail_length, List.length_take]; omega
  refine ⟨_, by rw [keeps_boot1, hF], hF, fun j h1 h2 => ?_⟩
  rw [flipTail_get _ _ _ (by rw [List.length_take]; omega)]
  simp only [List.getElem_take, hF]
  by_cases hc : min k B.length ≤ j + t
  · rw [if_pos hc, if_pos (by omega)]
  · rw [if_neg hc, if_neg (by omega)]

set_option maxHeartbeats 4000000 in
set_option maxRecDepth 20000 in
theorem diskKeeps_ok (la lb : List UInt8) (q0 q1 : Perm) (fu k t : Int) (h : Heap) (b1 : -9223372036854775808 ≤ fu ∧ fu ≤ 9223372036854775807) (b2 : -9223372036854775808 ≤ k ∧ k ≤ 9223372036854775807) (b3 : -9223372036854775808 ≤ t ∧ t ≤ 9223372036854775807) :
    FnOK Try.prog 4 [.sl (la.map byteA) q0, .sl (lb.map byteA) q1, .v (.int .i64 fu), .v (.int .i64 k), .v (.int .i64 t)] h fun r _ => r = .v (.bool true) := by
  refine FnOK.body hU hm Try.func4 rfl (by kernel_rfl) 218 rfl [.tmp 10] rfl (Nat.le_of_ble_eq_true rfl) (fun hwf => ?_)
  simp only [go_sem, ↓reduceIte, Nat.reduceLT, Nat.reduceEqDiff, Nat.reduceAdd, Nat.reduceLeDiff, Nat.reduceMul, Nat.reduceSub, min60, Int.toNat_natCast, take_bytes]
  refine ⟨.of (by kernel_rfl), by omega, by omega, by omega, by omega, ?_⟩
  have g1 : (la.take (min la.length 60)).length ≤ 60 := by rw [List.length_take]; omega
  have g2 : (lb.take (min lb.length 60)).length ≤ 60 := by rw [List.length_take]; omega
  generalize la.take (min la.length 60) = A at g1
  generalize lb.take (min lb.length 60) = B at g2

  refine (new_ok 200 (by omega) h).mono fun r h1 ⟨id, hid, e1, hd0, hs0⟩ => ?_
  subst e1
  simp only [go_sem, ↓reduceIte, Nat.reduceLT, Nat.reduceEqDiff, Nat.reduceAdd, Nat.reduceLeDiff, Nat.reduceMul, Nat.reduceSub, Int.natCast_zero, Int.ofNat_zero, bne_self_eq_false]
  have k0 : D.ok ⟨200, [], 0, 0, false⟩ := ⟨by decide, by decide, by decide, by decide⟩
  refine dthen (append_ok _ k0 id h1 _ A hd0 (.sl A _) (by omega)) fun h2 hd1 _ => ?_
  have k1 := D.append_ok k0 A
  rw [D.append0 rfl rfl (by show 0 + A.length ≤ 200; omega)] at hd1 k1 ⊢
  replace hd1 : DiskAt h2 id ⟨200, A, 0, 0, false⟩ := hd1
  replace k1 : D.ok ⟨200, A, 0, 0, false⟩ := k1
  simp only [go_sem, ↓reduceIte, Nat.reduceLT, Nat.reduceEqDiff, Nat.reduceAdd, Nat.reduceLeDiff, Nat.reduceMul, Nat.reduceSub, Int.natCast_zero, Int.ofNat_zero, bne_self_eq_false]
  refine dthen (sync_ok _ k1 id h2 hd1) fun h3 hd2 _ => ?_
  have k2 := D.sync_ok k1
  rw [D.sync0 rfl rfl] at hd2 k2 ⊢
  replace hd2 : DiskAt h3 id ⟨200, A, A.length, 0, false⟩ := hd2
  replace k2 : D.ok ⟨200, A, A.length, 0, false⟩ := k2
  simp only [go_sem, ↓reduceIte, Nat.reduceLT, Nat.reduceEqDiff, Nat.reduceAdd, Nat.reduceLeDiff, Nat.reduceMul, Nat.reduceSub, Int.natCast_zero, Int.ofNat_zero, bne_self_eq_false]
  refine (within_ok fu 0 3 h3 b1 (by omega) (by omega) (by omega)).mono fun r h4 ⟨e1, n, n1, n2, e2⟩ => ?_
  subst e1; subst e2
  obtain ⟨n, rfl⟩ := Int.eq_ofNat_of_zero_le n1
  simp only [go_sem, ↓reduceIte, Nat.reduceLT, Nat.reduceEqDiff, Nat.reduceAdd, Nat.reduceLeDiff, Nat.reduceMul, Nat.reduceSub]
  refine (arm_ok' _ n id _ hd2).mono fun r h5 ⟨hd3, _⟩ => ?_
  have k3 : D.ok ⟨200, A, A.length, n, false⟩ := ⟨by show A.length ≤ 200; omega, by show 200 ≤ 1048576; decide, Nat.le_refl _, by show n < _; omega⟩
  simp only [go_sem, ↓reduceIte, Nat.reduceLT, Nat.reduceEqDiff, Nat.reduceAdd, Nat.reduceLeDiff, Nat.reduceMul, Nat.reduceSub]
  refine dthen (append_ok _ k3 id h5 _ B hd3 (.sl B _) (by omega)) fun h6 hd4 _ => ?_
  have k4 := D.append_ok k3 B
  rw [append_room rfl (by show A.length + B.length ≤ 200; omega)] at hd4 k4 ⊢
  simp only [go_sem, ↓reduceIte, Nat.reduceLT, Nat.reduceEqDiff, Nat.reduceAdd, Nat.reduceLeDiff, Nat.reduceMul, Nat.reduceSub]
  refine dthen (sync_ok _ k4 id h6 hd4) fun h7 hd5 _ => ?_
  have k5 := D.sync_ok k4
  have hn : (n = 0 ∨ n = 3) ∨ n = 1 ∨ n = 2 := by omega
  have w1 : IntKind.i64.wrap ((A.length : Int) + (B.length : Int)) = ((A.length + B.length : Nat) : Int) := by rw [wrap64 _ (by omega)]; omega
  have r0 := diskRuns_ok
  clear hd0 hd1 hd2 hd3 hd4 k0 k1 k2 k3 k4 hs0 hid hwf
  rcases hn with hn | hn
  · have hgo : D.sync (D.burn ⟨200, A ++ B, A.length, n, false⟩) = (⟨200, A ++ B, (A ++ B).length, n - 2, false⟩, 0) ∧ (D.burn ⟨200, A ++ B, A.length, n, false⟩).off = false := by
      rcases hn with rfl | rfl <;> exact ⟨rfl, rfl⟩
    obtain ⟨g3, g4⟩ := hgo
    simp only [g3, g4] at hd5 k5 ⊢
    clear g3 g4
    rcases hn with rfl | rfl
    all_goals
      (try simp only [go_sem, ↓reduceIte, Nat.reduceLT, Nat.reduceEqDiff, Nat.reduceAdd, Nat.reduceLeDiff, Nat.reduceMul, Nat.reduceSub, Int.natCast_zero, Int.ofNat_zero, Int.natCast_one, Int.cast_ofNat_Int, bne_self_eq_false, beq_self_eq_true, Int.reduceBEq, Int.reduceBNe, Bool.not_true, Bool.not_false])
      try refine (off_ok' _ id h7 hd5).pthen ?_
      (try simp only [go_sem, ↓reduceIte, Nat.reduceLT, Nat.reduceEqDiff, Nat.reduceAdd, Nat.reduceLeDiff, Nat.reduceMul, Nat.reduceSub, Int.natCast_zero, Int.ofNat_zero, Int.natCast_one, Int.cast_ofNat_Int, bne_self_eq_false, beq_self_eq_true, Int.reduceBEq, Int.reduceBNe, Bool.not_true, Bool.not_false])
      refine (within_ok k 0 70 h7 b2 (by omega) (by omega) (by omega)).mono fun r h8 ⟨e1, kk, n3, n4, e2⟩ => ?_
      subst e1; subst e2
      obtain ⟨kk, rfl⟩ := Int.eq_ofNat_of_zero_le n3
      simp only [go_sem, ↓reduceIte, Nat.reduceLT, Nat.reduceEqDiff, Nat.reduceAdd, Nat.reduceLeDiff, Nat.reduceMul, Nat.reduceSub, Int.natCast_zero, Int.ofNat_zero, Int.natCast_one, Int.cast_ofNat_Int, bne_self_eq_false, beq_self_eq_true, Int.reduceBEq, Int.reduceBNe, Bool.not_true, Bool.not_false]
      refine (within_ok t 0 9 h8 b3 (by omega) (by omega) (by omega)).mono fun r h9 ⟨e1, tt, n5, n6, e2⟩ => ?_
      subst e1; subst e2
      obtain ⟨tt, rfl⟩ := Int.eq_ofNat_of_zero_le n5
      simp only [go_sem, ↓reduceIte, Nat.reduceLT, Nat.reduceEqDiff, Nat.reduceAdd, Nat.reduceLeDiff, Nat.reduceMul, Nat.reduceSub, Int.natCast_zero, Int.ofNat_zero, Int.natCast_one, Int.cast_ofNat_Int, bne_self_eq_false, beq_self_eq_true, Int.reduceBEq, Int.reduceBNe, Bool.not_true, Bool.not_false]
      refine (boot_ok _ k5 id h9 kk tt hd5).mono fun r h10 ⟨hd6, _⟩ => ?_
      have k6 := D.boot_ok k5 kk tt
      rw [keeps_boot0] at hd6 k6
      simp only [go_sem, ↓reduceIte, Nat.reduceLT, Nat.reduceEqDiff, Nat.reduceAdd, Nat.reduceLeDiff, Nat.reduceMul, Nat.reduceSub, Int.natCast_zero, Int.ofNat_zero, Int.natCast_one, Int.cast_ofNat_Int, bne_self_eq_false, beq_self_eq_true, Int.reduceBEq, Int.reduceBNe, Bool.not_true, Bool.not_false]
      refine (read_ok' _ k6 id h10 hd6).pthen ?_
      simp only [go_sem, ↓reduceIte, Nat.reduceLT, Nat.reduceEqDiff, Nat.reduceAdd, Nat.reduceLeDiff, Nat.reduceMul, Nat.reduceSub, Int.natCast_zero, Int.ofNat_zero, Int.natCast_one, Int.cast_ofNat_Int, bne_self_eq_false, beq_self_eq_true, Int.reduceBEq, Int.reduceBNe, Bool.not_true, Bool.not_false, w1, List.length_append, List.take_left']
      refine ⟨by omega, by omega, ?_⟩
      refine (same_ok _ _ A A h10 (.sl A _) (.sl A _) (by omega)).pthen ?_
      simp only [go_sem, ↓reduceIte, Nat.reduceLT, Nat.reduceEqDiff, Nat.reduceAdd, Nat.reduceLeDiff, Nat.reduceMul, Nat.reduceSub, Int.natCast_zero, Int.ofNat_zero, Int.natCast_one, Int.cast_ofNat_Int, bne_self_eq_false, beq_self_eq_true, Int.reduceBEq, Int.reduceBNe, Bool.not_true, Bool.not_false, decide_true]
      refine (off_ok' _ id h10 hd6).pthen ?_
      simp only [go_sem, ↓reduceIte, Nat.reduceLT, Nat.reduceEqDiff, Nat.reduceAdd, Nat.reduceLeDiff, Nat.reduceMul, Nat.reduceSub, Int.natCast_zero, Int.ofNat_zero, Int.natCast_one, Int.cast_ofNat_Int, bne_self_eq_false, beq_self_eq_true, Int.reduceBEq, Int.reduceBNe, Bool.not_true, Bool.not_false]
      refine .intro (fun m ρ h' => h' = h10 ∧ ∃ i : Nat, A.length ≤ i ∧ i ≤ A.length + B.length ∧ m = A.length + B.length - i ∧ lk ρ 0 = some (.sl (A.map byteA) .no) ∧ lk ρ 1 = some (.sl (B.map byteA) .no) ∧ lk ρ 11 = some (.ptr id 0) ∧
        (∃ nn : Int, (nn == 1) = false ∧ (nn == 2) = false ∧ lk ρ 13 = some (.v (.int .i64 nn))) ∧ lk ρ 17 = some (.v (.int .i64 tt)) ∧ lk ρ 18 = some (.sl ((A ++ B).map byteA) .no) ∧ lk ρ 20 = some (.v (.int .i64 i))) B.length ?_ ?_
      · refine ⟨rfl, A.length, Nat.le_refl _, by omega, by omega, ?_, ?_, ?_, ?_, ?_, ?_, ?_⟩
        rotate_left 3
        · first | (refine ⟨0, rfl, rfl, ?_⟩; simp only [go_sem, ↓reduceIte, Nat.reduceLT, Nat.reduceEqDiff, Nat.reduceAdd, Nat.reduceLeDiff, Nat.reduceMul, Nat.reduceSub, Int.natCast_zero, Int.ofNat_zero, Int.natCast_one, Int.cast_ofNat_Int, bne_self_eq_false, beq_self_eq_true, Int.reduceBEq, Int.reduceBNe, Bool.not_true, Bool.not_false]; done) | (refine ⟨3, rfl, rfl, ?_⟩; simp only [go_sem, ↓reduceIte, Nat.reduceLT, Nat.reduceEqDiff, Nat.reduceAdd, Nat.reduceLeDiff, Nat.reduceMul, Nat.reduceSub, Int.natCast_zero, Int.ofNat_zero, Int.natCast_one, Int.cast_ofNat_Int, bne_self_eq_false, beq_self_eq_true, Int.reduceBEq, Int.reduceBNe, Bool.not_true, Bool.not_false]; done)
        all_goals simp only [go_sem, ↓reduceIte, Nat.reduceLT, Nat.reduceEqDiff, Nat.reduceAdd, Nat.reduceLeDiff, Nat.reduceMul, Nat.reduceSub, Int.natCast_zero, Int.ofNat_zero, Int.natCast_one, Int.cast_ofNat_Int, bne_self_eq_false, beq_self_eq_true, Int.reduceBEq, Int.reduceBNe, Bool.not_true, Bool.not_false]
      · rintro m ρ h' ⟨rfl, i, hi1, hi2, rfl, r0, r1, r11, ⟨nn, nn1, nn2, r13⟩, r17, r18, r20⟩
        simp only [go_sem, ↓reduceIte, Nat.reduceLT, Nat.reduceEqDiff, Nat.reduceAdd, Nat.reduceLeDiff, Nat.reduceMul, Nat.reduceSub, Int.natCast_zero, Int.ofNat_zero, Int.natCast_one, Int.cast_ofNat_Int, bne_self_eq_false, beq_self_eq_true, Int.reduceBEq, Int.reduceBNe, Bool.not_true, Bool.not_false, r0, r1, r11, r13, nn1, nn2, r17, r18, r20]
        refine .intro (fun e => ?_) (fun e => ?_)
        · have hlt : i < (A ++ B).length := Int.ofNat_lt.1 (of_decide_eq_true e)
          have hlt' := hlt
          rw [List.length_append] at hlt'
          simp only [go_sem, ↓reduceIte, Nat.reduceLT, Nat.reduceEqDiff, Nat.reduceAdd, Nat.reduceLeDiff, Nat.reduceMul, Nat.reduceSub, Int.natCast_zero, Int.ofNat_zero, Int.natCast_one, Int.cast_ofNat_Int, bne_self_eq_false, beq_self_eq_true, Int.reduceBEq, Int.reduceBNe, Bool.not_true, Bool.not_false, r0, r1, r11, r13, nn1, nn2, r17, r18, r20]
          refine ⟨.of (by kernel_rfl), ?_⟩
          refine .at i (by simpa using hlt) (by rw [get_bytes]; rfl) ?_
          have w2 : IntKind.i64.wrap ((i : Int) - (A.length : Int)) = ((i - A.length : Nat) : Int) := by rw [wrap64 _ (by omega)]; omega
          simp only [go_sem, ↓reduceIte, Nat.reduceLT, Nat.reduceEqDiff, Nat.reduceAdd, Nat.reduceLeDiff, Nat.reduceMul, Nat.reduceSub, Int.natCast_zero, Int.ofNat_zero, Int.natCast_one, Int.cast_ofNat_Int, bne_self_eq_false, beq_self_eq_true, Int.reduceBEq, Int.reduceBNe, Bool.not_true, Bool.not_false, r0, r1, r11, r13, nn1, nn2, r17, r18, r20, w2, get_bytes]
          refine .at (i - A.length) (by simp; omega) (by rw [get_bytes]; rfl) ?_
          have hc : (A ++ B)[i] = B[i - A.length]'(by omega) := List.getElem_append_right hi1
          have w3 : IntKind.i64.wrap ((i : Int) + 1) = ((i + 1 : Nat) : Int) := by rw [wrap64 _ (by omega)]; omega
          simp only [go_sem, ↓reduceIte, Nat.reduceLT, Nat.reduceEqDiff, Nat.reduceAdd, Nat.reduceLeDiff, Nat.reduceMul, Nat.reduceSub, Int.natCast_zero, Int.ofNat_zero, Int.natCast_one, Int.cast_ofNat_Int, bne_self_eq_false, beq_self_eq_true, Int.reduceBEq, Int.reduceBNe, Bool.not_true, Bool.not_false, r0, r1, r11, r13, nn1, nn2, r17, r18, r20, get_bytes, hc, w3]
          refine ⟨_, ?_, rfl, i + 1, by omega, by omega, rfl, ?_, ?_, ?_, ⟨nn, nn1, nn2, ?_⟩, ?_, ?_, ?_⟩
          · omega
          all_goals simp only [go_sem, ↓reduceIte, Nat.reduceLT, Nat.reduceEqDiff, Nat.reduceAdd, Nat.reduceLeDiff, Nat.reduceMul, Nat.reduceSub, Int.natCast_zero, Int.ofNat_zero, Int.natCast_one, Int.cast_ofNat_Int, bne_self_eq_false, beq_self_eq_true, Int.reduceBEq, Int.reduceBNe, Bool.not_true, Bool.not_false, r0, r1, r11, r13, nn1, nn2, r17, r18, r20]
        · simp only [go_sem, ↓reduceIte, Nat.reduceLT, Nat.reduceEqDiff, Nat.reduceAdd, Nat.reduceLeDiff, Nat.reduceMul, Nat.reduceSub, Int.natCast_zero, Int.ofNat_zero, Int.natCast_one, Int.cast_ofNat_Int, bne_self_eq_false, beq_self_eq_true, Int.reduceBEq, Int.reduceBNe, Bool.not_true, Bool.not_false, r0, r1, r11, r13, nn1, nn2, r17, r18, r20]
          refine dthen (sync_ok _ k6 id _ hd6) fun h11 hd7 _ => ?_
          have e7 : (D.sync ⟨200, A ++ B, (A ++ B).length, 0, false⟩).2 = 0 := rfl
          simp only [go_sem, ↓reduceIte, Nat.reduceLT, Nat.reduceEqDiff, Nat.reduceAdd, Nat.reduceLeDiff, Nat.reduceMul, Nat.reduceSub, Int.natCast_zero, Int.ofNat_zero, Int.natCast_one, Int.cast_ofNat_Int, bne_self_eq_false, beq_self_eq_true, Int.reduceBEq, Int.reduceBNe, Bool.not_true, Bool.not_false, e7]
          refine (diskRuns_ok _).sthen fun h12 _ => ?_
          simp only [go_sem, ↓reduceIte, Nat.reduceLT, Nat.reduceEqDiff, Nat.reduceAdd, Nat.reduceLeDiff, Nat.reduceMul, Nat.reduceSub]
          exact .same (.refl _) rfl
  · have hgo : D.sync (D.burn ⟨200, A ++ B, A.length, n, false⟩) = (⟨200, A ++ B, A.length, 0, true⟩, 9) ∧ (if (D.burn ⟨200, A ++ B, A.length, n, false⟩).off = true then 9 else 0) = (if n = 1 then 9 else 0) := by
      rcases hn with rfl | rfl <;> exact ⟨rfl, rfl⟩
    obtain ⟨g3, g4⟩ := hgo
    simp only [g3, g4] at hd5 k5 ⊢
    clear g3 g4
    rcases hn with rfl | rfl
    all_goals
      (try simp only [go_sem, ↓reduceIte, Nat.reduceLT, Nat.reduceEqDiff, Nat.reduceAdd, Nat.reduceLeDiff, Nat.reduceMul, Nat.reduceSub, Int.natCast_zero, Int.ofNat_zero, Int.natCast_one, Int.cast_ofNat_Int, bne_self_eq_false, beq_self_eq_true, Int.reduceBEq, Int.reduceBNe, Bool.not_true, Bool.not_false])
      refine (off_ok' _ id h7 hd5).pthen ?_
      (try simp only [go_sem, ↓reduceIte, Nat.reduceLT, Nat.reduceEqDiff, Nat.reduceAdd, Nat.reduceLeDiff, Nat.reduceMul, Nat.reduceSub, Int.natCast_zero, Int.ofNat_zero, Int.natCast_one, Int.cast_ofNat_Int, bne_self_eq_false, beq_self_eq_true, Int.reduceBEq, Int.reduceBNe, Bool.not_true, Bool.not_false])
      refine (within_ok k 0 70 h7 b2 (by omega) (by omega) (by omega)).mono fun r h8 ⟨e1, kk, n3, n4, e2⟩ => ?_
      subst e1; subst e2
      obtain ⟨kk, rfl⟩ := Int.eq_ofNat_of_zero_le n3
      simp only [go_sem, ↓reduceIte, Nat.reduceLT, Nat.reduceEqDiff, Nat.reduceAdd, Nat.reduceLeDiff, Nat.reduceMul, Nat.reduceSub, Int.natCast_zero, Int.ofNat_zero, Int.natCast_one, Int.cast_ofNat_Int, bne_self_eq_false, beq_self_eq_true, Int.reduceBEq, Int.reduceBNe, Bool.not_true, Bool.not_false]
      refine (within_ok t 0 9 h8 b3 (by omega) (by omega) (by omega)).mono fun r h9 ⟨e1, tt, n5, n6, e2⟩ => ?_
      subst e1; subst e2
      obtain ⟨tt, rfl⟩ := Int.eq_ofNat_of_zero_le n5
      simp only [go_sem, ↓reduceIte, Nat.reduceLT, Nat.reduceEqDiff, Nat.reduceAdd, Nat.reduceLeDiff, Nat.reduceMul, Nat.reduceSub, Int.natCast_zero, Int.ofNat_zero, Int.natCast_one, Int.cast_ofNat_Int, bne_self_eq_false, beq_self_eq_true, Int.reduceBEq, Int.reduceBNe, Bool.not_true, Bool.not_false]
      refine (boot_ok _ k5 id h9 kk tt hd5).mono fun r h10 ⟨hd6, _⟩ => ?_
      have k6 := D.boot_ok k5 kk tt
      obtain ⟨F, f1, f2, hG⟩ := keeps_boot2 A B 0 kk tt
      rw [f1] at hd6 k6
      have hm : (if (B.length : Int) < (kk : Int) then (B.length : Int) else (kk : Int)) = (F.length : Int) := by split <;> omega
      have hM : F.length ≤ B.length := by omega
      clear f1 f2
      have w4 : IntKind.i64.wrap ((A.length : Int) + (F.length : Int)) = ((A.length + F.length : Nat) : Int) := by rw [wrap64 _ (by omega)]; omega
      simp only [go_sem, ↓reduceIte, Nat.reduceLT, Nat.reduceEqDiff, Nat.reduceAdd, Nat.reduceLeDiff, Nat.reduceMul, Nat.reduceSub, Int.natCast_zero, Int.ofNat_zero, Int.natCast_one, Int.cast_ofNat_Int, bne_self_eq_false, beq_self_eq_true, Int.reduceBEq, Int.reduceBNe, Bool.not_true, Bool.not_false]
      refine (read_ok' _ k6 id h10 hd6).pthen ?_
      simp only [go_sem, ↓reduceIte, Nat.reduceLT, Nat.reduceEqDiff, Nat.reduceAdd, Nat.reduceLeDiff, Nat.reduceMul, Nat.reduceSub, Int.natCast_zero, Int.ofNat_zero, Int.natCast_one, Int.cast_ofNat_Int, bne_self_eq_false, beq_self_eq_true, Int.reduceBEq, Int.reduceBNe, Bool.not_true, Bool.not_false, w1, w4, hm, List.length_append, List.take_left']
      refine ⟨by omega, by omega, ?_⟩
      refine (same_ok _ _ A A h10 (.sl A _) (.sl A _) (by omega)).pthen ?_
      simp only [go_sem, ↓reduceIte, Nat.reduceLT, Nat.reduceEqDiff, Nat.reduceAdd, Nat.reduceLeDiff, Nat.reduceMul, Nat.reduceSub, Int.natCast_zero, Int.ofNat_zero, Int.natCast_one, Int.cast_ofNat_Int, bne_self_eq_false, beq_self_eq_true, Int.reduceBEq, Int.reduceBNe, Bool.not_true, Bool.not_false, decide_true]
      refine (off_ok' _ id h10 hd6).pthen ?_
      simp only [go_sem, ↓reduceIte, Nat.reduceLT, Nat.reduceEqDiff, Nat.reduceAdd, Nat.reduceLeDiff, Nat.reduceMul, Nat.reduceSub, Int.natCast_zero, Int.ofNat_zero, Int.natCast_one, Int.cast_ofNat_Int, bne_self_eq_false, beq_self_eq_true, Int.reduceBEq, Int.reduceBNe, Bool.not_true, Bool.not_false]
      refine .intro (fun m ρ h' => h' = h10 ∧ ∃ i : Nat, A.length ≤ i ∧ i ≤ A.length + F.length ∧ m = A.length + F.length - i ∧ lk ρ 0 = some (.sl (A.map byteA) .no) ∧ lk ρ 1 = some (.sl (B.map byteA) .no) ∧ lk ρ 11 = some (.ptr id 0) ∧
        (∃ nn : Int, ((nn == 1) = true ∨ (nn == 1) = false ∧ (nn == 2) = true) ∧ lk ρ 13 = some (.v (.int .i64 nn))) ∧ lk ρ 17 = some (.v (.int .i64 tt)) ∧ lk ρ 18 = some (.sl ((A ++ F).map byteA) .no) ∧ lk ρ 20 = some (.v (.int .i64 i))) F.length ?_ ?_
      · refine ⟨rfl, A.length, Nat.le_refl _, by omega, by omega, ?_, ?_, ?_, ?_, ?_, ?_, ?_⟩
        rotate_left 3
        · first | (refine ⟨1, .inl rfl, ?_⟩; simp only [go_sem, ↓reduceIte, Nat.reduceLT, Nat.reduceEqDiff, Nat.reduceAdd, Nat.reduceLeDiff, Nat.reduceMul, Nat.reduceSub, Int.natCast_zero, Int.ofNat_zero, Int.natCast_one, Int.cast_ofNat_Int, bne_self_eq_false, beq_self_eq_true, Int.reduceBEq, Int.reduceBNe, Bool.not_true, Bool.not_false]; done) | (refine ⟨2, .inr ⟨rfl, rfl⟩, ?_⟩; simp only [go_sem, ↓reduceIte, Nat.reduceLT, Nat.reduceEqDiff, Nat.reduceAdd, Nat.reduceLeDiff, Nat.reduceMul, Nat.reduceSub, Int.natCast_zero, Int.ofNat_zero, Int.natCast_one, Int.cast_ofNat_Int, bne_self_eq_false, beq_self_eq_true, Int.reduceBEq, Int.reduceBNe, Bool.not_true, Bool.not_false]; done)
        all_goals simp only [go_sem, ↓reduceIte, Nat.reduceLT, Nat.reduceEqDiff, Nat.reduceAdd, Nat.reduceLeDiff, Nat.reduceMul, Nat.reduceSub, Int.natCast_zero, Int.ofNat_zero, Int.natCast_one, Int.cast_ofNat_Int, bne_self_eq_false, beq_self_eq_true, Int.reduceBEq, Int.reduceBNe, Bool.not_true, Bool.not_false]
      · rintro m ρ h' ⟨rfl, i, hi1, hi2, rfl, r0, r1, r11, ⟨nn, nn1, r13⟩, r17, r18, r20⟩
        simp only [go_sem, ↓reduceIte, Nat.reduceLT, Nat.reduceEqDiff, Nat.reduceAdd, Nat.reduceLeDiff, Nat.reduceMul, Nat.reduceSub, Int.natCast_zero, Int.ofNat_zero, Int.natCast_one, Int.cast_ofNat_Int, bne_self_eq_false, beq_self_eq_true, Int.reduceBEq, Int.reduceBNe, Bool.not_true, Bool.not_false, r0, r1, r11, r13, r17, r18, r20]
        refine .intro (fun e => ?_) (fun e => ?_)
        · have hlt : i < (A ++ F).length := Int.ofNat_lt.1 (of_decide_eq_true e)
          have hlt' := hlt
          rw [List.length_append] at hlt'
          have w2 : IntKind.i64.wrap ((i : Int) - (A.length : Int)) = ((i - A.length : Nat) : Int) := by rw [wrap64 _ (by omega)]; omega
          have hc : (A ++ F)[i] = F[i - A.length]'(by omega) := List.getElem_append_right hi1
          have w3 : IntKind.i64.wrap ((i : Int) + 1) = ((i + 1 : Nat) : Int) := by rw [wrap64 _ (by omega)]; omega
          have w5 : IntKind.i64.wrap (((A ++ F).length : Int) - (tt : Int)) = ((A ++ F).length : Int) - (tt : Int) := by rw [List.length_append, wrap64 _ (by omega)]
          have hg := hG (i - A.length) (by omega) (by omega)
          rcases Nat.lt_or_ge (i - A.length + tt) F.length with hb | hb
          · rw [if_neg (by omega)] at hg
            have w6 : decide ((((A ++ F).length : Int) - (tt : Int)) ≤ (i : Int)) = false := decide_eq_false (by rw [List.length_append]; omega)
            rcases nn1 with nn1 | ⟨nn1, nn2⟩
            · simp only [go_sem, ↓reduceIte, Nat.reduceLT, Nat.reduceEqDiff, Nat.reduceAdd, Nat.reduceLeDiff, Nat.reduceMul, Nat.reduceSub, Int.natCast_zero, Int.ofNat_zero, Int.natCast_one, Int.cast_ofNat_Int, bne_self_eq_false, beq_self_eq_true, Int.reduceBEq, Int.reduceBNe, Bool.not_true, Bool.not_false, r0, r1, r11, r13, r17, r18, r20, nn1, w5, w6]
              refine ⟨.of (by kernel_rfl), ?_⟩
              refine .at i (by simpa using hlt) (by rw [get_bytes]; rfl) ?_
              simp only [go_sem, ↓reduceIte, Nat.reduceLT, Nat.reduceEqDiff, Nat.reduceAdd, Nat.reduceLeDiff, Nat.reduceMul, Nat.reduceSub, Int.natCast_zero, Int.ofNat_zero, Int.natCast_one, Int.cast_ofNat_Int, bne_self_eq_false, beq_self_eq_true, Int.reduceBEq, Int.reduceBNe, Bool.not_true, Bool.not_false, r0, r1, r11, r13, r17, r18, r20, w2, get_bytes]
              refine .at (i - A.length) (by simp; omega) (by rw [get_bytes]; rfl) ?_
              simp only [go_sem, ↓reduceIte, Nat.reduceLT, Nat.reduceEqDiff, Nat.reduceAdd, Nat.reduceLeDiff, Nat.reduceMul, Nat.reduceSub, Int.natCast_zero, Int.ofNat_zero, Int.natCast_one, Int.cast_ofNat_Int, bne_self_eq_false, beq_self_eq_true, Int.reduceBEq, Int.reduceBNe, Bool.not_true, Bool.not_false, r0, r1, r11, r13, r17, r18, r20, get_bytes, hc, hg, w3]
              refine ⟨_, ?_, rfl, i + 1, by omega, by omega, rfl, ?_, ?_, ?_, ⟨nn, .inl nn1, ?_⟩, ?_, ?_, ?_⟩
              · omega
              all_goals simp only [go_sem, ↓reduceIte, Nat.reduceLT, Nat.reduceEqDiff, Nat.reduceAdd, Nat.reduceLeDiff, Nat.reduceMul, Nat.reduceSub, Int.natCast_zero, Int.ofNat_zero, Int.natCast_one, Int.cast_ofNat_Int, bne_self_eq_false, beq_self_eq_true, Int.reduceBEq, Int.reduceBNe, Bool.not_true, Bool.not_false, r0, r1, r11, r13, r17, r18, r20]
            · simp only [go_sem, ↓reduceIte, Nat.reduceLT, Nat.reduceEqDiff, Nat.reduceAdd, Nat.reduceLeDiff, Nat.reduceMul, Nat.reduceSub, Int.natCast_zero, Int.ofNat_zero, Int.natCast_one, Int.cast_ofNat_Int, bne_self_eq_false, beq_self_eq_true, Int.reduceBEq, Int.reduceBNe, Bool.not_true, Bool.not_false, r0, r1, r11, r13, r17, r18, r20, nn1, nn2, w5, w6]
              refine ⟨.of (by kernel_rfl), ?_⟩
              refine .at i (by simpa using hlt) (by rw [get_bytes]; rfl) ?_
              simp only [go_sem, ↓reduceIte, Nat.reduceLT, Nat.reduceEqDiff, Nat.reduceAdd, Nat.reduceLeDiff, Nat.reduceMul, Nat.reduceSub, Int.natCast_zero, Int.ofNat_zero, Int.natCast_one, Int.cast_ofNat_Int, bne_self_eq_false, beq_self_eq_true, Int.reduceBEq, Int.reduceBNe, Bool.not_true, Bool.not_false, r0, r1, r11, r13, r17, r18, r20, w2, get_bytes]
              refine .at (i - A.length) (by simp; omega) (by rw [get_bytes]; rfl) ?_
              simp only [go_sem, ↓reduceIte, Nat.reduceLT, Nat.reduceEqDiff, Nat.reduceAdd, Nat.reduceLeDiff, Nat.reduceMul, Nat.reduceSub, Int.natCast_zero, Int.ofNat_zero, Int.natCast_one, Int.cast_ofNat_Int, bne_self_eq_false, beq_self_eq_true, Int.reduceBEq, Int.reduceBNe, Bool.not_true, Bool.not_false, r0, r1, r11, r13, r17, r18, r20, get_bytes, hc, hg, w3]
              refine ⟨_, ?_, rfl, i + 1, by omega, by omega, rfl, ?_, ?_, ?_, ⟨nn, .inr ⟨nn1, nn2⟩, ?_⟩, ?_, ?_, ?_⟩
              · omega
              all_goals simp only [go_sem, ↓reduceIte, Nat.reduceLT, Nat.reduceEqDiff, Nat.reduceAdd, Nat.reduceLeDiff, Nat.reduceMul, Nat.reduceSub, Int.natCast_zero, Int.ofNat_zero, Int.natCast_one, Int.cast_ofNat_Int, bne_self_eq_false, beq_self_eq_true, Int.reduceBEq, Int.reduceBNe, Bool.not_true, Bool.not_false, r0, r1, r11, r13, r17, r18, r20]
          · rw [if_pos hb] at hg
            have w6 : decide ((((A ++ F).length : Int) - (tt : Int)) ≤ (i : Int)) = true := decide_eq_true (by rw [List.length_append]; omega)
            rcases nn1 with nn1 | ⟨nn1, nn2⟩
            · simp only [go_sem, ↓reduceIte, Nat.reduceLT, Nat.reduceEqDiff, Nat.reduceAdd, Nat.reduceLeDiff, Nat.reduceMul, Nat.reduceSub, Int.natCast_zero, Int.ofNat_zero, Int.natCast_one, Int.cast_ofNat_Int, bne_self_eq_false, beq_self_eq_true, Int.reduceBEq, Int.reduceBNe, Bool.not_true, Bool.not_false, r0, r1, r11, r13, r17, r18, r20, nn1, w5, w6]
              refine ⟨.of (by kernel_rfl), ?_⟩
              refine .at i (by simpa using hlt) (by rw [get_bytes]; rfl) ?_
              simp only [go_sem, ↓reduceIte, Nat.reduceLT, Nat.reduceEqDiff, Nat.reduceAdd, Nat.reduceLeDiff, Nat.reduceMul, Nat.reduceSub, Int.natCast_zero, Int.ofNat_zero, Int.natCast_one, Int.cast_ofNat_Int, bne_self_eq_false, beq_self_eq_true, Int.reduceBEq, Int.reduceBNe, Bool.not_true, Bool.not_false, r0, r1, r11, r13, r17, r18, r20, w2, get_bytes]
              refine .at (i - A.length) (by simp; omega) (by rw [get_bytes]; rfl) ?_
              simp only [go_sem, ↓reduceIte, Nat.reduceLT, Nat.reduceEqDiff, Nat.reduceAdd, Nat.reduceLeDiff, Nat.reduceMul, Nat.reduceSub, Int.natCast_zero, Int.ofNat_zero, Int.natCast_one, Int.cast_ofNat_Int, bne_self_eq_false, beq_self_eq_true, Int.reduceBEq, Int.reduceBNe, Bool.not_true, Bool.not_false, r0, r1, r11, r13, r17, r18, r20, get_bytes, hc, hg, w3, ↓unA_xor8]
              refine ⟨_, ?_, rfl, i + 1, by omega, by omega, rfl, ?_, ?_, ?_, ⟨nn, .inl nn1, ?_⟩, ?_, ?_, ?_⟩
              · omega
              all_goals simp only [go_sem, ↓reduceIte, Nat.reduceLT, Nat.reduceEqDiff, Nat.reduceAdd, Nat.reduceLeDiff, Nat.reduceMul, Nat.reduceSub, Int.natCast_zero, Int.ofNat_zero, Int.natCast_one, Int.cast_ofNat_Int, bne_self_eq_false, beq_self_eq_true, Int.reduceBEq, Int.reduceBNe, Bool.not_true, Bool.not_false, r0, r1, r11, r13, r17, r18, r20]
            · simp only [go_sem, ↓reduceIte, Nat.reduceLT, Nat.reduceEqDiff, Nat.reduceAdd, Nat.reduceLeDiff, Nat.reduceMul, Nat.reduceSub, Int.natCast_zero, Int.ofNat_zero, Int.natCast_one, Int.cast_ofNat_Int, bne_self_eq_false, beq_self_eq_true, Int.reduceBEq, Int.reduceBNe, Bool.not_true, Bool.not_false, r0, r1, r11, r13, r17, r18, r20, nn1, nn2, w5, w6]
              refine ⟨.of (by kernel_rfl), ?_⟩
              refine .at i (by simpa using hlt) (by rw [get_bytes]; rfl) ?_
              simp only [go_sem, ↓reduceIte, Nat.reduceLT, Nat.reduceEqDiff, Nat.reduceAdd, Nat.reduceLeDiff, Nat.reduceMul, Nat.reduceSub, Int.natCast_zero, Int.ofNat_zero, Int.natCast_one, Int.cast_ofNat_Int, bne_self_eq_false, beq_self_eq_true, Int.reduceBEq, Int.reduceBNe, Bool.not_true, Bool.not_false, r0, r1, r11, r13, r17, r18, r20, w2, get_bytes]
              refine .at (i - A.length) (by simp; omega) (by rw [get_bytes]; rfl) ?_
              simp only [go_sem, ↓reduceIte, Nat.reduceLT, Nat.reduceEqDiff, Nat.reduceAdd, Nat.reduceLeDiff, Nat.reduceMul, Nat.reduceSub, Int.natCast_zero, Int.ofNat_zero, Int.natCast_one, Int.cast_ofNat_Int, bne_self_eq_false, beq_self_eq_true, Int.reduceBEq, Int.reduceBNe, Bool.not_true, Bool.not_false, r0, r1, r11, r13, r17, r18, r20, get_bytes, hc, hg, w3, ↓unA_xor8]
              refine ⟨_, ?_, rfl, i + 1, by omega, by omega, rfl, ?_, ?_, ?_, ⟨nn, .inr ⟨nn1, nn2⟩, ?_⟩, ?_, ?_, ?_⟩
              · omega
              all_goals simp only [go_sem, ↓reduceIte, Nat.reduceLT, Nat.reduceEqDiff, Nat.reduceAdd, Nat.reduceLeDiff, Nat.reduceMul, Nat.reduceSub, Int.natCast_zero, Int.ofNat_zero, Int.natCast_one, Int.cast_ofNat_Int, bne_self_eq_false, beq_self_eq_true, Int.reduceBEq, Int.reduceBNe, Bool.not_true, Bool.not_false, r0, r1, r11, r13, r17, r18, r20]
        · simp only [go_sem, ↓reduceIte, Nat.reduceLT, Nat.reduceEqDiff, Nat.reduceAdd, Nat.reduceLeDiff, Nat.reduceMul, Nat.reduceSub, Int.natCast_zero, Int.ofNat_zero, Int.natCast_one, Int.cast_ofNat_Int, bne_self_eq_false, beq_self_eq_true, Int.reduceBEq, Int.reduceBNe, Bool.not_true, Bool.not_false, r0, r1, r11, r13, r17, r18, r20]
          refine dthen (sync_ok _ k6 id _ hd6) fun h11 hd7 _ => ?_
          have e7 : (D.sync ⟨200, A ++ F, A.length + F.length, 0, false⟩).2 = 0 := rfl
          simp only [go_sem, ↓reduceIte, Nat.reduceLT, Nat.reduceEqDiff, Nat.reduceAdd, Nat.reduceLeDiff, Nat.reduceMul, Nat.reduceSub, Int.natCast_zero, Int.ofNat_zero, Int.natCast_one, Int.cast_ofNat_Int, bne_self_eq_false, beq_self_eq_true, Int.reduceBEq, Int.reduceBNe, Bool.not_true, Bool.not_false, e7]
          refine (diskRuns_ok _).sthen fun h12 _ => ?_
          simp only [go_sem, ↓reduceIte, Nat.reduceLT, Nat.reduceEqDiff, Nat.reduceAdd, Nat.reduceLeDiff, Nat.reduceMul, Nat.reduceSub]
          exact .same (.refl _) rfl
end Go.Proofs.Ytidpcjblciompaa
