/- The document's sums, frames and scans. -/
import Derived.Test.YtidpcjblciompaaC20
import Derived.Test.YtidpcjblciompaaAb26
import Derived.Test.YtidpcjblciompaaAb31
set_option linter.unusedSimpArgs false
set_option linter.unusedVariables false
namespace Go.Proofs.Ytidpcjblciompaa
open Go Go.Ab

theorem rsum_ok (y : AV) (l : List UInt8) (h : Heap) (hb : By h y l) (hl : l.length ≤ 1000000000) :
    FnOK Try.prog 51 [y] h fun r h' => r = .v (.int .u32 ((crc l).toNat : Int)) ∧ h' = h := by
  refine FnOK.body hU hm Try.func51 rfl (by kernel_rfl) 32 rfl [.tmp 2] rfl (Nat.le_of_ble_eq_true rfl) (fun hwf => ?_)
  simp -implicitDefEqProofs only [go_sem, ↓reduceIte, Nat.reduceLT, Nat.reduceEqDiff, Nat.reduceAdd, Nat.reduceLeDiff, Nat.reduceMul, Nat.reduceSub, Int.natCast_zero, Int.ofNat_zero, Int.natCast_one, Int.cast_ofNat_Int, bne_self_eq_false, beq_self_eq_true, Int.reduceBEq, Int.reduceBNe, Bool.not_true, Bool.not_false, hb.len]
  refine .intro (fun m ρ h' => h' = h ∧ ∃ i : Nat, i ≤ l.length ∧ m = l.length - i ∧ lk ρ 7 = some y ∧ lk ρ 8 = some (.v (.int .i64 l.length)) ∧ lk ρ 9 = some (.v (.int .i64 i)) ∧ lk ρ 3 = some (.v (.int .u32 (((l.take i).foldl crcByte (BitVec.allOnes 32)).toNat : Int)))) l.length ?_ ?_
  · refine ⟨rfl, 0, by omega, rfl, ?_, ?_, ?_, ?_⟩ <;> simp -implicitDefEqProofs only [go_sem, ↓reduceIte, Nat.reduceLT, Nat.reduceEqDiff, Nat.reduceAdd, Nat.reduceLeDiff, Nat.reduceMul, Nat.reduceSub, Int.natCast_zero, Int.ofNat_zero, Int.natCast_one, Int.cast_ofNat_Int, bne_self_eq_false, beq_self_eq_true, Int.reduceBEq, Int.reduceBNe, Bool.not_true, Bool.not_false]
    rfl
  · rintro m ρ h' ⟨rfl, i, hi, rfl, r7, r8, r9, r3⟩
    simp -implicitDefEqProofs only [go_sem, ↓reduceIte, Nat.reduceLT, Nat.reduceEqDiff, Nat.reduceAdd, Nat.reduceLeDiff, Nat.reduceMul, Nat.reduceSub, Int.natCast_zero, Int.ofNat_zero, Int.natCast_one, Int.cast_ofNat_Int, bne_self_eq_false, beq_self_eq_true, Int.reduceBEq, Int.reduceBNe, Bool.not_true, Bool.not_false, r7, r8, r9, r3]
    refine .intro (fun e => ?_) (fun e => ?_)
    · have hlt : i < l.length := Int.ofNat_lt.1 (of_decide_eq_true e)
      have w1 : IntKind.i64.wrap ((i : Int) + 1) = ((i + 1 : Nat) : Int) := by rw [wrap64 _ (by omega)]; omega
      have hs : (l.take (i + 1)).foldl crcByte (BitVec.allOnes 32) = crcByte ((l.take i).foldl crcByte (BitVec.allOnes 32)) l[i] := by
        rw [List.take_succ_eq_append_getElem hlt, List.foldl_append]; rfl
      generalize (l.take i).foldl crcByte (BitVec.allOnes 32) = s at r3 hs
      simp -implicitDefEqProofs only [go_sem, ↓reduceIte, Nat.reduceLT, Nat.reduceEqDiff, Nat.reduceAdd, Nat.reduceLeDiff, Nat.reduceMul, Nat.reduceSub, Int.natCast_zero, Int.ofNat_zero, Int.natCast_one, Int.cast_ofNat_Int, bne_self_eq_false, beq_self_eq_true, Int.reduceBEq, Int.reduceBNe, Bool.not_true, Bool.not_false, r7, r8, r9, r3]
      refine hb.idx i rfl hlt u5 u5a fun p hp => ?_
      simp -implicitDefEqProofs only [go_sem, ↓reduceIte, Nat.reduceLT, Nat.reduceEqDiff, Nat.reduceAdd, Nat.reduceLeDiff, Nat.reduceMul, Nat.reduceSub, Int.natCast_zero, Int.ofNat_zero, Int.natCast_one, Int.cast_ofNat_Int, bne_self_eq_false, beq_self_eq_true, Int.reduceBEq, Int.reduceBNe, Bool.not_true, Bool.not_false, r7, r8, r9, r3, hp _, byte32]
      refine .intro (fun m ρ h2 => h2 = h' ∧ ∃ j : Nat, j ≤ 8 ∧ m = 8 - j ∧ lk ρ 7 = some y ∧ lk ρ 8 = some (.v (.int .i64 l.length)) ∧ lk ρ 9 = some (.v (.int .i64 i)) ∧ lk ρ 6 = some (.v (.int .i64 j)) ∧ lk ρ 3 = some (.v (.int .u32 ((crcN j (s ^^^ BitVec.ofNat 32 l[i].toNat)).toNat : Int)))) 8 ?_ ?_
      · refine ⟨rfl, 0, by omega, rfl, ?_, ?_, ?_, ?_, ?_⟩ <;> simp -implicitDefEqProofs only [go_sem, ↓reduceIte, Nat.reduceLT, Nat.reduceEqDiff, Nat.reduceAdd, Nat.reduceLeDiff, Nat.reduceMul, Nat.reduceSub, Int.natCast_zero, Int.ofNat_zero, Int.natCast_one, Int.cast_ofNat_Int, bne_self_eq_false, beq_self_eq_true, Int.reduceBEq, Int.reduceBNe, Bool.not_true, Bool.not_false, r7, r8, r9, r3]
        rfl
      · rintro m ρ h2 ⟨rfl, j, hj, rfl, q7, q8, q9, q17, q3⟩
        simp -implicitDefEqProofs only [go_sem, ↓reduceIte, Nat.reduceLT, Nat.reduceEqDiff, Nat.reduceAdd, Nat.reduceLeDiff, Nat.reduceMul, Nat.reduceSub, Int.natCast_zero, Int.ofNat_zero, Int.natCast_one, Int.cast_ofNat_Int, bne_self_eq_false, beq_self_eq_true, Int.reduceBEq, Int.reduceBNe, Bool.not_true, Bool.not_false, q7, q8, q9, q17, q3]
        refine .intro (fun e => ?_) (fun e => ?_)
        · have hjl : j < 8 := by have := of_decide_eq_true e; omega
          have w2 : IntKind.i64.wrap ((j : Int) + 1) = ((j + 1 : Nat) : Int) := by rw [wrap64 _ (by omega)]; omega
          have hc : crcN (j + 1) (s ^^^ BitVec.ofNat 32 l[i].toNat) = crcBit (crcN j (s ^^^ BitVec.ofNat 32 l[i].toNat)) := rfl
          generalize crcN j (s ^^^ BitVec.ofNat 32 l[i].toNat) = z at q3 hc
          simp -implicitDefEqProofs only [go_sem, ↓reduceIte, Nat.reduceLT, Nat.reduceEqDiff, Nat.reduceAdd, Nat.reduceLeDiff, Nat.reduceMul, Nat.reduceSub, Int.natCast_zero, Int.ofNat_zero, Int.natCast_one, Int.cast_ofNat_Int, bne_self_eq_false, beq_self_eq_true, Int.reduceBEq, Int.reduceBNe, Bool.not_true, Bool.not_false, q7, q8, q9, q17, q3, out_eq]
          refine .intro (fun e2 => ?_) (fun e2 => ?_)
          · simp -implicitDefEqProofs only [go_sem, ↓reduceIte, Nat.reduceLT, Nat.reduceEqDiff, Nat.reduceAdd, Nat.reduceLeDiff, Nat.reduceMul, Nat.reduceSub, Int.natCast_zero, Int.ofNat_zero, Int.natCast_one, Int.cast_ofNat_Int, bne_self_eq_false, beq_self_eq_true, Int.reduceBEq, Int.reduceBNe, Bool.not_true, Bool.not_false, q7, q8, q9, q17, q3, out_eq, w2]
            refine ⟨_, ?_, rfl, j + 1, by omega, rfl, ?_, ?_, ?_, ?_, ?_⟩
            rotate_left 5
            · simp -implicitDefEqProofs only [go_sem, ↓reduceIte, Nat.reduceLT, Nat.reduceEqDiff, Nat.reduceAdd, Nat.reduceLeDiff, Nat.reduceMul, Nat.reduceSub, Int.natCast_zero, Int.ofNat_zero, Int.natCast_one, Int.cast_ofNat_Int, bne_self_eq_false, beq_self_eq_true, Int.reduceBEq, Int.reduceBNe, Bool.not_true, Bool.not_false, q7, q8, q9, q17, q3]
              rw [hc, crcBit, if_pos (of_decide_eq_true e2)]
            · omega
            all_goals simp -implicitDefEqProofs only [go_sem, ↓reduceIte, Nat.reduceLT, Nat.reduceEqDiff, Nat.reduceAdd, Nat.reduceLeDiff, Nat.reduceMul, Nat.reduceSub, Int.natCast_zero, Int.ofNat_zero, Int.natCast_one, Int.cast_ofNat_Int, bne_self_eq_false, beq_self_eq_true, Int.reduceBEq, Int.reduceBNe, Bool.not_true, Bool.not_false, q7, q8, q9, q17, q3, w2]
          · simp -implicitDefEqProofs only [go_sem, ↓reduceIte, Nat.reduceLT, Nat.reduceEqDiff, Nat.reduceAdd, Nat.reduceLeDiff, Nat.reduceMul, Nat.reduceSub, Int.natCast_zero, Int.ofNat_zero, Int.natCast_one, Int.cast_ofNat_Int, bne_self_eq_false, beq_self_eq_true, Int.reduceBEq, Int.reduceBNe, Bool.not_true, Bool.not_false, q7, q8, q9, q17, q3, out_eq, w2]
            refine ⟨_, ?_, rfl, j + 1, by omega, rfl, ?_, ?_, ?_, ?_, ?_⟩
            rotate_left 5
            · simp -implicitDefEqProofs only [go_sem, ↓reduceIte, Nat.reduceLT, Nat.reduceEqDiff, Nat.reduceAdd, Nat.reduceLeDiff, Nat.reduceMul, Nat.reduceSub, Int.natCast_zero, Int.ofNat_zero, Int.natCast_one, Int.cast_ofNat_Int, bne_self_eq_false, beq_self_eq_true, Int.reduceBEq, Int.reduceBNe, Bool.not_true, Bool.not_false, q7, q8, q9, q17, q3]
              rw [hc, crcBit, if_neg (of_decide_eq_false e2)]
            · omega
            all_goals simp -implicitDefEqProofs only [go_sem, ↓reduceIte, Nat.reduceLT, Nat.reduceEqDiff, Nat.reduceAdd, Nat.reduceLeDiff, Nat.reduceMul, Nat.reduceSub, Int.natCast_zero, Int.ofNat_zero, Int.natCast_one, Int.cast_ofNat_Int, bne_self_eq_false, beq_self_eq_true, Int.reduceBEq, Int.reduceBNe, Bool.not_true, Bool.not_false, q7, q8, q9, q17, q3, w2]
        · have hj8 : j = 8 := by have := of_decide_eq_false e; omega
          subst hj8
          simp -implicitDefEqProofs only [go_sem, ↓reduceIte, Nat.reduceLT, Nat.reduceEqDiff, Nat.reduceAdd, Nat.reduceLeDiff, Nat.reduceMul, Nat.reduceSub, Int.natCast_zero, Int.ofNat_zero, Int.natCast_one, Int.cast_ofNat_Int, bne_self_eq_false, beq_self_eq_true, Int.reduceBEq, Int.reduceBNe, Bool.not_true, Bool.not_false, q7, q8, q9, q17, q3, w1]
          refine ⟨_, ?_, rfl, i + 1, by omega, rfl, ?_, ?_, ?_, ?_⟩
          rotate_left 4
          · simp -implicitDefEqProofs only [go_sem, ↓reduceIte, Nat.reduceLT, Nat.reduceEqDiff, Nat.reduceAdd, Nat.reduceLeDiff, Nat.reduceMul, Nat.reduceSub, Int.natCast_zero, Int.ofNat_zero, Int.natCast_one, Int.cast_ofNat_Int, bne_self_eq_false, beq_self_eq_true, Int.reduceBEq, Int.reduceBNe, Bool.not_true, Bool.not_false, q7, q8, q9, q17, q3]
            rw [hs]; rfl
          · omega
          all_goals simp -implicitDefEqProofs only [go_sem, ↓reduceIte, Nat.reduceLT, Nat.reduceEqDiff, Nat.reduceAdd, Nat.reduceLeDiff, Nat.reduceMul, Nat.reduceSub, Int.natCast_zero, Int.ofNat_zero, Int.natCast_one, Int.cast_ofNat_Int, bne_self_eq_false, beq_self_eq_true, Int.reduceBEq, Int.reduceBNe, Bool.not_true, Bool.not_false, q7, q8, q9, q17, q3, w1]
    · have hge : i = l.length := by have := of_decide_eq_false e; omega
      subst hge
      rw [List.take_length] at r3
      simp -implicitDefEqProofs only [go_sem, ↓reduceIte, Nat.reduceLT, Nat.reduceEqDiff, Nat.reduceAdd, Nat.reduceLeDiff, Nat.reduceMul, Nat.reduceSub, Int.natCast_zero, Int.ofNat_zero, Int.natCast_one, Int.cast_ofNat_Int, bne_self_eq_false, beq_self_eq_true, Int.reduceBEq, Int.reduceBNe, Bool.not_true, Bool.not_false, r7, r8, r9, r3]
      exact .same (.refl _) ⟨rfl, rfl⟩

theorem rframe_ok (y : AV) (l : List UInt8) (h : Heap) (hb : By h y l) (hl : l.length ≤ 1000000) :
    FnOK Try.prog 28 [y] h fun r h' => r = .sl ((frame l).map byteA) .no ∧ Sub h h' := by
  refine FnOK.body hU hm Try.func28 rfl (by kernel_rfl) 37 rfl [.tmp 2] rfl (Nat.le_of_ble_eq_true rfl) (fun hwf => ?_)
  have w1 := w32 l.length (by omega)
  simp -implicitDefEqProofs only [go_sem, ↓reduceIte, Nat.reduceLT, Nat.reduceEqDiff, Nat.reduceAdd, Nat.reduceLeDiff, Nat.reduceMul, Nat.reduceSub, Int.natCast_zero, Int.ofNat_zero, Int.natCast_one, Int.cast_ofNat_Int, bne_self_eq_false, beq_self_eq_true, Int.reduceBEq, Int.reduceBNe, Bool.not_true, Bool.not_false, hb.len, w1]
  refine (rsum_ok y l h hb (by omega)).pthen ?_
  have s8 := fun n K => bshrN (U := U) (ty := 78) (K := K) n 8 .u64 (by decide)
  have s16 := fun n K => bshrN (U := U) (ty := 78) (K := K) n 16 .u64 (by decide)
  have s24 := fun n K => bshrN (U := U) (ty := 78) (K := K) n 24 .u64 (by decide)
  simp only [Int.cast_ofNat_Int] at s8 s16 s24
  simp -implicitDefEqProofs only [go_sem, ↓reduceIte, Nat.reduceLT, Nat.reduceEqDiff, Nat.reduceAdd, Nat.reduceLeDiff, Nat.reduceMul, Nat.reduceSub, Int.natCast_zero, Int.ofNat_zero, Int.natCast_one, Int.cast_ofNat_Int, bne_self_eq_false, beq_self_eq_true, Int.reduceBEq, Int.reduceBNe, Bool.not_true, Bool.not_false, ↓s8, ↓s16, ↓s24, w8, hb.src u5]
  refine ⟨by omega, .acc fun z h1 ha hk => ?_⟩
  simp -implicitDefEqProofs only [go_sem, ↓reduceIte, Nat.reduceLT, Nat.reduceEqDiff, Nat.reduceAdd, Nat.reduceLeDiff, Nat.reduceMul, Nat.reduceSub, Int.natCast_zero, Int.ofNat_zero, Int.natCast_one, Int.cast_ofNat_Int, bne_self_eq_false, beq_self_eq_true, Int.reduceBEq, Int.reduceBNe, Bool.not_true, Bool.not_false]
  refine .mk _ ha.weak (.refl _) ⟨?_, ha.1⟩
  simp [oneOr, frame, fourL, byteA]

theorem rframe_four (p : List UInt8) : ((frame p).take 8).drop 4 = fourL (crc p).toNat := by
  simp [frame, fourL]
theorem rfour_eq (l : List UInt8) (n : Nat) (hn : n < 4294967296) (hl : 8 ≤ l.length) : (fourL n = (l.take 8).drop 4) ↔ n = numL (l.drop 4) := by
  have e : (l.take 8).drop 4 = [l[4], l[5], l[6], l[7]] := by
    apply List.ext_getElem
    · simp; omega
    · intro i h1 h2
      simp at h2
      have : i = 0 ∨ i = 1 ∨ i = 2 ∨ i = 3 := by omega
      rcases this with rfl | rfl | rfl | rfl <;> simp
  have f : numL (l.drop 4) = l[4].toNat + l[5].toNat * 256 + l[6].toNat * 65536 + l[7].toNat * 16777216 := by
    unfold numL
    simp [List.getD_eq_getElem?_getD, show 4 < l.length by omega, show 5 < l.length by omega, show 6 < l.length by omega, show 7 < l.length by omega]
  have lt : ∀ c : UInt8, c.toNat < 256 := fun c => c.toNat_lt
  have := lt l[4]
  have := lt l[5]
  have := lt l[6]
  have := lt l[7]
  rw [e, f]
  constructor
  · intro h
    simp only [fourL, List.cons.injEq, and_true] at h
    obtain ⟨h0, h1, h2, h3⟩ := h
    rw [← h0, ← h1, ← h2, ← h3]
    simp only [UInt8.toNat_ofNat']
    omega
  · intro h
    rw [h]
    simp only [fourL, List.cons.injEq, and_true]
    refine ⟨?_, ?_, ?_, ?_⟩ <;> apply UInt8.toNat_inj.1 <;> simp only [UInt8.toNat_ofNat'] <;> omega

theorem rows_snoc {h : Heap} {xs : List AV} {ps : List (List UInt8)} {x : AV} {p : List UInt8} (hr : Ab.Rows 5 h xs ps) (hx : By h x p) : Ab.Rows 5 h (xs ++ [x]) (ps ++ [p]) := ⟨by simp [hr.1], fun i h1 h2 => by
  have hl := hr.1
  by_cases hi : i < xs.length
  · rw [List.getElem_append_left hi, List.getElem_append_left (by omega)]
    exact hr.2 i hi (by omega)
  · have e : i = xs.length := by simp at h1; omega
    subst e
    rw [List.getElem_append_right (by omega), List.getElem_append_right (by omega)]
    simpa [hl] using hx⟩

theorem rscan_ok (y : AV) (l : List UInt8) (h : Heap) (hb : By h y l) (hl : l.length ≤ 2000000) :
    FnOK Try.prog 30 [y] h fun r h' => ∃ z xs sp, r = .tup [z, .v (.int .i64 ((scan l).2 : Nat))] ∧ GrowAt h' z xs sp ∧ (∀ g, Ab.Rows 5 g xs (scan l).1) ∧ Sub h h' ∧ ∀ i ∈ sp, h i = none := by
  refine FnOK.body hU hm Try.func30 rfl (by kernel_rfl) 102 rfl [.tmp 2, .tmp 3] rfl (Nat.le_of_ble_eq_true rfl) (fun hwf => ?_)
  simp -implicitDefEqProofs only [go_sem, ↓reduceIte, Nat.reduceLT, Nat.reduceEqDiff, Nat.reduceAdd, Nat.reduceLeDiff, Nat.reduceMul, Nat.reduceSub, Int.natCast_zero, Int.ofNat_zero, Int.natCast_one, Int.cast_ofNat_Int, bne_self_eq_false, beq_self_eq_true, Int.reduceBEq, Int.reduceBNe, Bool.not_true, Bool.not_false]
  refine .intro (fun m ρ h' => ∃ (i : Nat) (ps : List (List UInt8)) (xs : List AV) (z : AV), Acc U 27 h h' z xs ∧ (∀ g, Ab.Rows 5 g xs ps) ∧ KeepObj h h' ∧ ps.length ≤ i ∧ i ≤ l.length ∧ m = l.length - i ∧ scan l = (ps ++ (scan (l.drop i)).1, i + (scan (l.drop i)).2) ∧
    lk ρ 0 = some y ∧ lk ρ 4 = some z ∧ lk ρ 5 = some (.v (.int .i64 (i : Nat)))) l.length ?_ ?_
  · refine ⟨0, [], [], _, .full (.refl h), fun _ => .nil, .refl h, by simp, by omega, rfl, by simp, ?_, ?_, ?_⟩ <;> simp -implicitDefEqProofs only [go_sem, ↓reduceIte, Nat.reduceLT, Nat.reduceEqDiff, Nat.reduceAdd, Nat.reduceLeDiff, Nat.reduceMul, Nat.reduceSub, Int.natCast_zero, Int.ofNat_zero, Int.natCast_one, Int.cast_ofNat_Int, bne_self_eq_false, beq_self_eq_true, Int.reduceBEq, Int.reduceBNe, Bool.not_true, Bool.not_false]
  · rintro m ρ h' ⟨i, ps, xs, z, ha, hrs, hk, hpi, hi, rfl, hsc, r0, r4, r5⟩
    have hb' := hb.keepObj hk
    have fin : beginsL (l.drop i) = none → ∀ g, Acc U 27 h g z xs → (RetOK [z, .v (.int .i64 (i : Nat))] g fun r h' => ∃ z xs sp, r = .tup [z, .v (.int .i64 ((scan l).2 : Nat))] ∧ GrowAt h' z xs sp ∧ (∀ g, Ab.Rows 5 g xs (scan l).1) ∧ Sub h h' ∧ ∀ i ∈ sp, h i = none) := fun hbg g ha => by
      rw [scan_none hbg] at hsc
      have hs := ha.1
      rw [hsc]
      rcases ha.2 with rfl | ⟨k, k1, rfl, k2⟩
      · exact .same (.refl _) ⟨_, xs, [], rfl, .inl ⟨rfl, rfl⟩, by simpa using hrs, hs, by simp⟩
      · rw [u27] at k2
        exact .same (.refl _) ⟨_, xs, [k], rfl, .inr ⟨k, rfl, k2, rfl⟩, by simpa using hrs, hs, by simpa using k1⟩
    have w0 : IntKind.i64.wrap ((l.length : Int) - (i : Int)) = ((l.length - i : Nat) : Int) := by rw [wrap64 _ (by omega)]; omega
    simp -implicitDefEqProofs only [go_sem, ↓reduceIte, Nat.reduceLT, Nat.reduceEqDiff, Nat.reduceAdd, Nat.reduceLeDiff, Nat.reduceMul, Nat.reduceSub, Int.natCast_zero, Int.ofNat_zero, Int.natCast_one, Int.cast_ofNat_Int, bne_self_eq_false, beq_self_eq_true, Int.reduceBEq, Int.reduceBNe, Bool.not_true, Bool.not_false, r0, r4, r5, hb'.len, w0]
    refine .intro (fun e => ?_) (fun e => ?_)
    · have e8 : 8 ≤ l.length - i := by have := of_decide_eq_true e; omega
      have lt : ∀ c : UInt8, c.toNat < 256 := fun c => c.toNat_lt
      have hd : (l.drop i).length = l.length - i := by simp
      obtain ⟨n, hnum⟩ : ∃ n, numL (l.drop i) = n := ⟨_, rfl⟩
      have hnum' : n = l[i].toNat + l[i + 1].toNat * 2 ^ 8 + l[i + 2].toNat * 2 ^ 16 + l[i + 3].toNat * 2 ^ 24 := by
        rw [← hnum]
        unfold numL
        simp [List.getD_eq_getElem?_getD, show i < l.length by omega, show i + 1 < l.length by omega, show i + 2 < l.length by omega, show i + 3 < l.length by omega]
      have hn32 := numL_lt (l.drop i)
      rw [hnum] at hn32
      generalize hc0 : l[i] = c0 at hnum'
      generalize hc1 : l[i + 1] = c1 at hnum'
      generalize hc2 : l[i + 2] = c2 at hnum'
      generalize hc3 : l[i + 3] = c3 at hnum'
      have v := fun c : UInt8 => wrap64 (c.toNat : Int) (by have := lt c; omega)
      have a1 : IntKind.i64.wrap ((i : Int) + 1) = ((i + 1 : Nat) : Int) := by rw [wrap64 _ (by omega)]; omega
      have a2 : IntKind.i64.wrap ((i : Int) + 2) = ((i + 2 : Nat) : Int) := by rw [wrap64 _ (by omega)]; omega
      have a3 : IntKind.i64.wrap ((i : Int) + 3) = ((i + 3 : Nat) : Int) := by rw [wrap64 _ (by omega)]; omega
      have s1 := fun K => bshl64 (U := U) (ty := 3) (K := K) c1.toNat 8 .u64 (by decide) (lt _)
      have s2 := fun K => bshl64 (U := U) (ty := 3) (K := K) c2.toNat 16 .u64 (by decide) (lt _)
      have s3 := fun K => bshl64 (U := U) (ty := 3) (K := K) c3.toNat 24 .u64 (by decide) (lt _)
      have o1 := fun K => bor64 (U := U) (ty := 3) (K := K) c0.toNat c1.toNat 8 (by have := lt c0; omega) (by decide) (lt _)
      have o2 := fun K => bor64 (U := U) (ty := 3) (K := K) (c0.toNat + c1.toNat * 2 ^ 8) c2.toNat 16 (by have := lt c0; have := lt c1; omega) (by decide) (lt _)
      have o3 := fun K => bor64 (U := U) (ty := 3) (K := K) (c0.toNat + c1.toNat * 2 ^ 8 + c2.toNat * 2 ^ 16) c3.toNat 24 (by have := lt c0; have := lt c1; have := lt c2; omega) (by decide) (lt _)
      simp only [Int.cast_ofNat_Int] at s1 s2 s3
      simp -implicitDefEqProofs only [go_sem, ↓reduceIte, Nat.reduceLT, Nat.reduceEqDiff, Nat.reduceAdd, Nat.reduceLeDiff, Nat.reduceMul, Nat.reduceSub, Int.natCast_zero, Int.ofNat_zero, Int.natCast_one, Int.cast_ofNat_Int, bne_self_eq_false, beq_self_eq_true, Int.reduceBEq, Int.reduceBNe, Bool.not_true, Bool.not_false, r0, r4, r5, hb'.len, w0]
      refine ⟨.of (by kernel_rfl), ?_⟩
      refine hb'.idx i rfl (by omega) u5 u5a fun p0 hp0 => ?_
      rw [hc0] at hp0
      simp -implicitDefEqProofs only [go_sem, ↓reduceIte, Nat.reduceLT, Nat.reduceEqDiff, Nat.reduceAdd, Nat.reduceLeDiff, Nat.reduceMul, Nat.reduceSub, Int.natCast_zero, Int.ofNat_zero, Int.natCast_one, Int.cast_ofNat_Int, bne_self_eq_false, beq_self_eq_true, Int.reduceBEq, Int.reduceBNe, Bool.not_true, Bool.not_false, r0, r4, r5, hp0 _, v, a1]
      refine hb'.idx (i + 1) rfl (by omega) u5 u5a fun p1 hp1 => ?_
      rw [hc1] at hp1
      simp -implicitDefEqProofs only [go_sem, ↓reduceIte, Nat.reduceLT, Nat.reduceEqDiff, Nat.reduceAdd, Nat.reduceLeDiff, Nat.reduceMul, Nat.reduceSub, Int.natCast_zero, Int.ofNat_zero, Int.natCast_one, Int.cast_ofNat_Int, bne_self_eq_false, beq_self_eq_true, Int.reduceBEq, Int.reduceBNe, Bool.not_true, Bool.not_false, r0, r4, r5, hp1 _, v, ↓s1, ↓o1, a2]
      refine hb'.idx (i + 2) rfl (by omega) u5 u5a fun p2 hp2 => ?_
      rw [hc2] at hp2
      simp -implicitDefEqProofs only [go_sem, ↓reduceIte, Nat.reduceLT, Nat.reduceEqDiff, Nat.reduceAdd, Nat.reduceLeDiff, Nat.reduceMul, Nat.reduceSub, Int.natCast_zero, Int.ofNat_zero, Int.natCast_one, Int.cast_ofNat_Int, bne_self_eq_false, beq_self_eq_true, Int.reduceBEq, Int.reduceBNe, Bool.not_true, Bool.not_false, r0, r4, r5, hp2 _, v, ↓s2, ↓o2, a3]
      refine hb'.idx (i + 3) rfl (by omega) u5 u5a fun p3 hp3 => ?_
      rw [hc3] at hp3
      simp -implicitDefEqProofs only [go_sem, ↓reduceIte, Nat.reduceLT, Nat.reduceEqDiff, Nat.reduceAdd, Nat.reduceLeDiff, Nat.reduceMul, Nat.reduceSub, Int.natCast_zero, Int.ofNat_zero, Int.natCast_one, Int.cast_ofNat_Int, bne_self_eq_false, beq_self_eq_true, Int.reduceBEq, Int.reduceBNe, Bool.not_true, Bool.not_false, r0, r4, r5, hp3 _, v, ↓s3, ↓o3]
      rw [← hnum']
      have w1 : IntKind.i64.wrap (((l.length - i : Nat) : Int) - 8) = ((l.length - i - 8 : Nat) : Int) := by rw [wrap64 _ (by omega)]; omega
      by_cases hbad : n < 1 ∨ 8192 < n ∨ l.length - i - 8 < n
      · have hnone : beginsL (l.drop i) = none := by unfold beginsL; rw [if_neg (by omega), hnum, hd, if_pos hbad]
        by_cases c1 : n < 1
        · have t2 : decide ((n : Int) < 1) = true := decide_eq_true (by omega)
          simp -implicitDefEqProofs only [go_sem, ↓reduceIte, Nat.reduceLT, Nat.reduceEqDiff, Nat.reduceAdd, Nat.reduceLeDiff, Nat.reduceMul, Nat.reduceSub, Int.natCast_zero, Int.ofNat_zero, Int.natCast_one, Int.cast_ofNat_Int, bne_self_eq_false, beq_self_eq_true, Int.reduceBEq, Int.reduceBNe, Bool.not_true, Bool.not_false, r0, r4, r5, hb'.len, w0, w1, t2]
          exact fin hnone _ ha
        · have t2 : decide ((n : Int) < 1) = false := decide_eq_false (by omega)
          by_cases c2 : 8192 < n
          · have t3 : decide ((8192 : Int) < (n : Int)) = true := decide_eq_true (by omega)
            simp -implicitDefEqProofs only [go_sem, ↓reduceIte, Nat.reduceLT, Nat.reduceEqDiff, Nat.reduceAdd, Nat.reduceLeDiff, Nat.reduceMul, Nat.reduceSub, Int.natCast_zero, Int.ofNat_zero, Int.natCast_one, Int.cast_ofNat_Int, bne_self_eq_false, beq_self_eq_true, Int.reduceBEq, Int.reduceBNe, Bool.not_true, Bool.not_false, r0, r4, r5, hb'.len, w0, w1, t2, t3]
            exact fin hnone _ ha
          · have t3 : decide ((8192 : Int) < (n : Int)) = false := decide_eq_false (by omega)
            have t4 : decide (((l.length - i - 8 : Nat) : Int) < (n : Int)) = true := decide_eq_true (by omega)
            simp -implicitDefEqProofs only [go_sem, ↓reduceIte, Nat.reduceLT, Nat.reduceEqDiff, Nat.reduceAdd, Nat.reduceLeDiff, Nat.reduceMul, Nat.reduceSub, Int.natCast_zero, Int.ofNat_zero, Int.natCast_one, Int.cast_ofNat_Int, bne_self_eq_false, beq_self_eq_true, Int.reduceBEq, Int.reduceBNe, Bool.not_true, Bool.not_false, r0, r4, r5, hb'.len, w0, w1, t2, t3, t4]
            exact fin hnone _ ha
      · have t2 : decide ((n : Int) < 1) = false := decide_eq_false (by omega)
        have t3 : decide ((8192 : Int) < (n : Int)) = false := decide_eq_false (by omega)
        have t4 : decide (((l.length - i - 8 : Nat) : Int) < (n : Int)) = false := decide_eq_false (by omega)
        have a8 : IntKind.i64.wrap ((i : Int) + 8) = ((i + 8 : Nat) : Int) := by rw [wrap64 _ (by omega)]; omega
        have a8n : IntKind.i64.wrap (((i + 8 : Nat) : Int) + (n : Int)) = ((i + 8 + n : Nat) : Int) := by rw [wrap64 _ (by omega)]; omega
        simp -implicitDefEqProofs only [go_sem, ↓reduceIte, Nat.reduceLT, Nat.reduceEqDiff, Nat.reduceAdd, Nat.reduceLeDiff, Nat.reduceMul, Nat.reduceSub, Int.natCast_zero, Int.ofNat_zero, Int.natCast_one, Int.cast_ofNat_Int, bne_self_eq_false, beq_self_eq_true, Int.reduceBEq, Int.reduceBNe, Bool.not_true, Bool.not_false, r0, r4, r5, hb'.len, w0, w1, t2, t3, t4, a8, a8n]
        refine hb'.cut (m := ((i + 8 : Nat) : Int)) (m2 := ((i + 8 + n : Nat) : Int)) (x := .i64) (x2 := .i64) (i + 8) (i + 8 + n) ?_ rfl ?_ rfl (by omega) (by omega) u5 fun z0 hz0 => ?_
        · simp -implicitDefEqProofs only [go_sem, ↓reduceIte, Nat.reduceLT, Nat.reduceEqDiff, Nat.reduceAdd, Nat.reduceLeDiff, Nat.reduceMul, Nat.reduceSub, Int.natCast_zero, Int.ofNat_zero, Int.natCast_one, Int.cast_ofNat_Int, bne_self_eq_false, beq_self_eq_true, Int.reduceBEq, Int.reduceBNe, Bool.not_true, Bool.not_false, r0, r4, r5]
        · simp -implicitDefEqProofs only [go_sem, ↓reduceIte, Nat.reduceLT, Nat.reduceEqDiff, Nat.reduceAdd, Nat.reduceLeDiff, Nat.reduceMul, Nat.reduceSub, Int.natCast_zero, Int.ofNat_zero, Int.natCast_one, Int.cast_ofNat_Int, bne_self_eq_false, beq_self_eq_true, Int.reduceBEq, Int.reduceBNe, Bool.not_true, Bool.not_false, r0, r4, r5]
        rw [Nat.add_sub_cancel_left, ← List.drop_drop] at hz0
        obtain ⟨p, hp⟩ : ∃ p, ((l.drop i).drop 8).take n = p := ⟨_, rfl⟩
        rw [hp] at hz0
        have hpl : p.length = n := by rw [← hp, List.length_take, List.length_drop, hd]; omega
        simp -implicitDefEqProofs only [go_sem, ↓reduceIte, Nat.reduceLT, Nat.reduceEqDiff, Nat.reduceAdd, Nat.reduceLeDiff, Nat.reduceMul, Nat.reduceSub, Int.natCast_zero, Int.ofNat_zero, Int.natCast_one, Int.cast_ofNat_Int, bne_self_eq_false, beq_self_eq_true, Int.reduceBEq, Int.reduceBNe, Bool.not_true, Bool.not_false, r0, r4, r5, hz0.src u5, List.length_map]
        refine ⟨by omega, .acc fun z1 h2 hz1a hk2 => ?_⟩
        have hs2 := hz1a.1
        have hz1q := hz1a.row
        rw [List.nil_append] at hz1a hz1q
        have hz1 : By h2 z1 p := hz1a.bytes
        simp -implicitDefEqProofs only [go_sem, ↓reduceIte, Nat.reduceLT, Nat.reduceEqDiff, Nat.reduceAdd, Nat.reduceLeDiff, Nat.reduceMul, Nat.reduceSub, Int.natCast_zero, Int.ofNat_zero, Int.natCast_one, Int.cast_ofNat_Int, bne_self_eq_false, beq_self_eq_true, Int.reduceBEq, Int.reduceBNe, Bool.not_true, Bool.not_false, r0, r4, r5]
        refine (rframe_ok z1 p h2 hz1 (by omega)).sthen fun h3 hs3 => ?_
        have hF : By h3 (.sl ((frame p).map byteA) .no) (frame p) := .sl _ _
        generalize AV.sl ((frame p).map byteA) .no = y8 at hF
        have hb3 := (hb'.sub hs2).sub hs3
        have hFl := frame_length p
        simp -implicitDefEqProofs only [go_sem, ↓reduceIte, Nat.reduceLT, Nat.reduceEqDiff, Nat.reduceAdd, Nat.reduceLeDiff, Nat.reduceMul, Nat.reduceSub, Int.natCast_zero, Int.ofNat_zero, Int.natCast_one, Int.cast_ofNat_Int, bne_self_eq_false, beq_self_eq_true, Int.reduceBEq, Int.reduceBNe, Bool.not_true, Bool.not_false, r0, r4, r5]
        refine .intro (fun m ρ h'' => h'' = h3 ∧ ∃ (j : Nat), 4 ≤ j ∧ j ≤ 8 ∧ m = 8 - j ∧ lk ρ 0 = some y ∧ lk ρ 4 = some z ∧ lk ρ 5 = some (.v (.int .i64 (i : Nat))) ∧ lk ρ 6 = some (.v (.int .i64 (n : Nat))) ∧ lk ρ 7 = some z1 ∧ lk ρ 8 = some y8 ∧ lk ρ 10 = some (.v (.int .i64 (j : Nat))) ∧
          lk ρ 9 = some (.v (.bool (decide (((frame p).take j).drop 4 = ((l.drop i).take j).drop 4))))) (8 - 4) ?_ ?_
        · refine ⟨rfl, 4, by omega, by omega, rfl, ?_, ?_, ?_, ?_, ?_, ?_, ?_, ?_⟩ <;> simp -implicitDefEqProofs only [go_sem, ↓reduceIte, Nat.reduceLT, Nat.reduceEqDiff, Nat.reduceAdd, Nat.reduceLeDiff, Nat.reduceMul, Nat.reduceSub, Int.natCast_zero, Int.ofNat_zero, Int.natCast_one, Int.cast_ofNat_Int, bne_self_eq_false, beq_self_eq_true, Int.reduceBEq, Int.reduceBNe, Bool.not_true, Bool.not_false, r0, r4, r5]
          simp
        · rintro m ρ h'' ⟨rfl, j, j4, j8, rfl, q0, q4, q5, q6, q7, q8, q10, q9⟩
          rcases Nat.lt_or_ge j 8 with jlt | jge
          · have t5 : decide ((j : Int) < 8) = true := decide_eq_true (by omega)
            have aj : IntKind.i64.wrap ((i : Int) + (j : Int)) = ((i + j : Nat) : Int) := by rw [wrap64 _ (by omega)]; omega
            have j1 : IntKind.i64.wrap ((j : Int) + 1) = ((j + 1 : Nat) : Int) := by rw [wrap64 _ (by omega)]; omega
            have sF : ((frame p).take (j + 1)).drop 4 = ((frame p).take j).drop 4 ++ [(frame p)[j]'(by omega)] := by
              rw [List.take_succ_eq_append_getElem (by omega), List.drop_append_of_le_length (by simp; omega)]
            have sL : ((l.drop i).take (j + 1)).drop 4 = ((l.drop i).take j).drop 4 ++ [l[i + j]'(by omega)] := by
              rw [List.take_succ_eq_append_getElem (by simp; omega), List.drop_append_of_le_length (by simp; omega)]
              simp
            have hlen : (((frame p).take j).drop 4).length = (((l.drop i).take j).drop 4).length := by simp; omega
            by_cases hok : ((frame p).take j).drop 4 = ((l.drop i).take j).drop 4
            · rw [decide_eq_true hok] at q9
              simp -implicitDefEqProofs only [go_sem, ↓reduceIte, Nat.reduceLT, Nat.reduceEqDiff, Nat.reduceAdd, Nat.reduceLeDiff, Nat.reduceMul, Nat.reduceSub, Int.natCast_zero, Int.ofNat_zero, Int.natCast_one, Int.cast_ofNat_Int, bne_self_eq_false, beq_self_eq_true, Int.reduceBEq, Int.reduceBNe, Bool.not_true, Bool.not_false, q0, q4, q5, q6, q7, q8, q10, q9, t5]
              refine ⟨.of (by kernel_rfl), ?_⟩
              refine hF.idx j rfl (by omega) u5 u5a fun pa hpa => ?_
              simp -implicitDefEqProofs only [go_sem, ↓reduceIte, Nat.reduceLT, Nat.reduceEqDiff, Nat.reduceAdd, Nat.reduceLeDiff, Nat.reduceMul, Nat.reduceSub, Int.natCast_zero, Int.ofNat_zero, Int.natCast_one, Int.cast_ofNat_Int, bne_self_eq_false, beq_self_eq_true, Int.reduceBEq, Int.reduceBNe, Bool.not_true, Bool.not_false, q0, q4, q5, q6, q7, q8, q10, q9, t5, hpa _, aj]
              refine hb3.idx (i + j) rfl (by omega) u5 u5a fun pb hpb => ?_
              simp -implicitDefEqProofs only [go_sem, ↓reduceIte, Nat.reduceLT, Nat.reduceEqDiff, Nat.reduceAdd, Nat.reduceLeDiff, Nat.reduceMul, Nat.reduceSub, Int.natCast_zero, Int.ofNat_zero, Int.natCast_one, Int.cast_ofNat_Int, bne_self_eq_false, beq_self_eq_true, Int.reduceBEq, Int.reduceBNe, Bool.not_true, Bool.not_false, q0, q4, q5, q6, q7, q8, q10, q9, t5, hpb _, j1]
              have hdec : ((((frame p)[j]'(by omega)).toNat : Int) == ((l[i + j]'(by omega)).toNat : Int)) = decide (((frame p).take (j + 1)).drop 4 = ((l.drop i).take (j + 1)).drop 4) := by
                rw [sF, sL, hok, Bool.eq_iff_iff, beq_iff_eq, decide_eq_true_iff, List.append_right_inj, List.cons.injEq]
                simp only [and_true]
                rw [← UInt8.toNat_inj]; omega
              rw [hdec]
              refine ⟨_, ?_, rfl, j + 1, by omega, by omega, rfl, ?_, ?_, ?_, ?_, ?_, ?_, ?_, ?_⟩
              · omega
              all_goals simp -implicitDefEqProofs only [go_sem, ↓reduceIte, Nat.reduceLT, Nat.reduceEqDiff, Nat.reduceAdd, Nat.reduceLeDiff, Nat.reduceMul, Nat.reduceSub, Int.natCast_zero, Int.ofNat_zero, Int.natCast_one, Int.cast_ofNat_Int, bne_self_eq_false, beq_self_eq_true, Int.reduceBEq, Int.reduceBNe, Bool.not_true, Bool.not_false, q0, q4, q5, q6, q7, q8, q10, q9, j1]
            · rw [decide_eq_false hok] at q9
              simp -implicitDefEqProofs only [go_sem, ↓reduceIte, Nat.reduceLT, Nat.reduceEqDiff, Nat.reduceAdd, Nat.reduceLeDiff, Nat.reduceMul, Nat.reduceSub, Int.natCast_zero, Int.ofNat_zero, Int.natCast_one, Int.cast_ofNat_Int, bne_self_eq_false, beq_self_eq_true, Int.reduceBEq, Int.reduceBNe, Bool.not_true, Bool.not_false, q0, q4, q5, q6, q7, q8, q10, q9, t5]
              refine ⟨.of (by kernel_rfl), ?_⟩
              simp -implicitDefEqProofs only [go_sem, ↓reduceIte, Nat.reduceLT, Nat.reduceEqDiff, Nat.reduceAdd, Nat.reduceLeDiff, Nat.reduceMul, Nat.reduceSub, Int.natCast_zero, Int.ofNat_zero, Int.natCast_one, Int.cast_ofNat_Int, bne_self_eq_false, beq_self_eq_true, Int.reduceBEq, Int.reduceBNe, Bool.not_true, Bool.not_false, q0, q4, q5, q6, q7, q8, q10, q9, t5, j1]
              have hdec : decide (((frame p).take (j + 1)).drop 4 = ((l.drop i).take (j + 1)).drop 4) = false := by
                rw [decide_eq_false_iff_not, sF, sL]
                intro hh
                exact hok (List.append_inj hh hlen).1
              refine ⟨_, ?_, rfl, j + 1, by omega, by omega, rfl, ?_, ?_, ?_, ?_, ?_, ?_, ?_, ?_⟩
              · omega
              all_goals simp -implicitDefEqProofs only [go_sem, ↓reduceIte, Nat.reduceLT, Nat.reduceEqDiff, Nat.reduceAdd, Nat.reduceLeDiff, Nat.reduceMul, Nat.reduceSub, Int.natCast_zero, Int.ofNat_zero, Int.natCast_one, Int.cast_ofNat_Int, bne_self_eq_false, beq_self_eq_true, Int.reduceBEq, Int.reduceBNe, Bool.not_true, Bool.not_false, q0, q4, q5, q6, q7, q8, q10, q9, j1, hdec]
          · obtain rfl : j = 8 := by omega
            have t5 : decide ((8 : Int) < 8) = false := by decide
            rw [rframe_four] at q9
            have hcn := (crc p).isLt
            by_cases hok : (crc p).toNat = numL ((l.drop i).drop 4)
            · rw [decide_eq_true ((rfour_eq _ _ hcn (by omega)).2 hok)] at q9
              have hbg : beginsL (l.drop i) = some p := by
                unfold beginsL
                rw [if_neg (by omega), hnum, hd, if_neg hbad, hp, if_pos hok]
              have hsc' := scan_drop hsc hbg
              have a8' : IntKind.i64.wrap (((i + 8 : Nat) : Int) + (n : Int)) = ((i + (8 + p.length) : Nat) : Int) := by rw [a8n]; omega
              simp -implicitDefEqProofs only [go_sem, ↓reduceIte, Nat.reduceLT, Nat.reduceEqDiff, Nat.reduceAdd, Nat.reduceLeDiff, Nat.reduceMul, Nat.reduceSub, Int.natCast_zero, Int.ofNat_zero, Int.natCast_one, Int.cast_ofNat_Int, bne_self_eq_false, beq_self_eq_true, Int.reduceBEq, Int.reduceBNe, Bool.not_true, Bool.not_false, q0, q4, q5, q6, q7, q8, q10, q9, t5, hz1.fit, hz1.cells]
              refine ((ha.sub hs2).sub hs3).app (v := .sl [z1] .full) (zs := [z1]) (by rw [u27]; decide) (by rw [u27b]; decide) (fun k hk => hk) (by rw [u27]; exact (hrs noHeap).sized) (by rw [u27]; obtain ⟨qq, rfl⟩ := hz1q; simp [Sized, AV.cells]) (by rw [u27b]; have := (hrs noHeap).1; simp; omega) fun z' h4 ha' hk' => ?_
              simp -implicitDefEqProofs only [go_sem, ↓reduceIte, Nat.reduceLT, Nat.reduceEqDiff, Nat.reduceAdd, Nat.reduceLeDiff, Nat.reduceMul, Nat.reduceSub, Int.natCast_zero, Int.ofNat_zero, Int.natCast_one, Int.cast_ofNat_Int, bne_self_eq_false, beq_self_eq_true, Int.reduceBEq, Int.reduceBNe, Bool.not_true, Bool.not_false, q0, q4, q5, q6, q7, q8, q10, q9, t5, a8, a8']
              refine ⟨_, ?_, i + (8 + p.length), ps ++ [p], xs ++ [z1], z', ha', fun g => ?_, hk.trans (hs2.keepObj.trans (hs3.keepObj.trans hk')), by simp; omega, by omega, rfl, hsc', ?_, ?_, ?_⟩
              · omega
              · refine rows_snoc (hrs g) ?_
                obtain ⟨qq, rfl⟩ := hz1q
                exact .sl _ _
              all_goals simp -implicitDefEqProofs only [go_sem, ↓reduceIte, Nat.reduceLT, Nat.reduceEqDiff, Nat.reduceAdd, Nat.reduceLeDiff, Nat.reduceMul, Nat.reduceSub, Int.natCast_zero, Int.ofNat_zero, Int.natCast_one, Int.cast_ofNat_Int, bne_self_eq_false, beq_self_eq_true, Int.reduceBEq, Int.reduceBNe, Bool.not_true, Bool.not_false, q0, q4, q5, q6, q7, q8, q10, q9, a8, a8']
            · rw [decide_eq_false (fun hh => hok ((rfour_eq _ _ hcn (by omega)).1 hh))] at q9
              have hbg : beginsL (l.drop i) = none := by
                unfold beginsL
                rw [if_neg (by omega), hnum, hd, if_neg hbad, hp, if_neg hok]
              simp -implicitDefEqProofs only [go_sem, ↓reduceIte, Nat.reduceLT, Nat.reduceEqDiff, Nat.reduceAdd, Nat.reduceLeDiff, Nat.reduceMul, Nat.reduceSub, Int.natCast_zero, Int.ofNat_zero, Int.natCast_one, Int.cast_ofNat_Int, bne_self_eq_false, beq_self_eq_true, Int.reduceBEq, Int.reduceBNe, Bool.not_true, Bool.not_false, q0, q4, q5, q6, q7, q8, q10, q9, t5]
              exact fin hbg _ ((ha.sub hs2).sub hs3)
    · have e8 : l.length - i < 8 := by have := of_decide_eq_false e; omega
      simp -implicitDefEqProofs only [go_sem, ↓reduceIte, Nat.reduceLT, Nat.reduceEqDiff, Nat.reduceAdd, Nat.reduceLeDiff, Nat.reduceMul, Nat.reduceSub, Int.natCast_zero, Int.ofNat_zero, Int.natCast_one, Int.cast_ofNat_Int, bne_self_eq_false, beq_self_eq_true, Int.reduceBEq, Int.reduceBNe, Bool.not_true, Bool.not_false, r0, r4, r5, hb'.len, w0]
      exact fin (beginsL_short _ (by simp; omega)) _ ha

end Go.Proofs.Ytidpcjblciompaa
