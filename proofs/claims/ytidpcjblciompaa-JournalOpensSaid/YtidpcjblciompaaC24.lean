/- The law JournalScans. -/
import Derived.Test.YtidpcjblciompaaC23
import Derived.Test.YtidpcjblciompaaC21
import Derived.Test.YtidpcjblciompaaAb32
set_option linter.unusedSimpArgs false
set_option linter.unusedVariables false
namespace Go.Proofs.Ytidpcjblciompaa
open Go Go.Ab

theorem scan_ps (l : List UInt8) : (scan l).1.length ≤ l.length ∧ ∀ p ∈ (scan l).1, p.length ≤ 8192 := by
  induction hn : l.length using Nat.strongRecOn generalizing l with
  | _ n ih =>
    cases hb : beginsL l with
    | none => rw [scan_none hb]; exact ⟨Nat.zero_le _, fun p hp => by cases hp⟩
    | some p =>
      have hl := beginsL_len hb
      rw [scan_some hb]
      obtain ⟨i1, i2⟩ := ih (l.drop (8 + p.length)).length (by rw [List.length_drop]; omega) _ rfl
      rw [List.length_drop] at i1
      refine ⟨by simp only [List.length_cons]; omega, fun q hq => ?_⟩
      rcases List.mem_cons.1 hq with rfl | hq
      · omega
      · exact i2 q hq
theorem GrowAt.row {h : Heap} {y : AV} {xs : List AV} {sp : List Nat} (hg : GrowAt h y xs sp) : ∃ q, y = .sl xs q := by
  rcases hg with ⟨rfl, _⟩ | ⟨k, rfl, _⟩ <;> exact ⟨_, rfl⟩
theorem u5z : (U 5).zero = byteA 0 := by simp only [go_sem]; rfl

set_option maxRecDepth 20000 in
theorem journalScans_ok (b : List UInt8) (ls : List (List UInt8)) (at_ : Int) (to : UInt8) (hl : ls.length ≤ maxLen) (hb : b.length ≤ maxLen) (hls : ∀ p ∈ ls, p.length ≤ maxLen) (b1 : i64B at_) (h : Heap) :
    FnOK Try.prog 7 [.sl (b.map byteA) .no, .sl (ls.map rowA) .no, iA at_, byteA to] h fun r _ => r = .v (.bool true) := by
  unfold maxLen at hl hb hls
  refine FnOK.of_wp hU Try.func7 rfl (by kernel_rfl) 92 rfl [.tmp 8] rfl (Nat.le_of_ble_eq_true rfl) ?_
  refine .one hU hm ?_
  simp -implicitDefEqProofs only [go_sem, ↓reduceIte, Nat.reduceLT, Nat.reduceEqDiff, Nat.reduceAdd, Nat.reduceLeDiff, Nat.reduceMul, Nat.reduceSub, Int.natCast_zero, Int.ofNat_zero, Int.natCast_one, Int.cast_ofNat_Int, bne_self_eq_false, beq_self_eq_true, Int.reduceBEq, Int.reduceBNe, Bool.not_true, Bool.not_false]
  show WP _ _ _ _ _ _
  refine .cut (fun ρ g => ∃ z, Wr 5 h g z (b.take (min b.length 60)) ∧ lk ρ 1 = some (.sl (ls.map rowA) .no) ∧ lk ρ 2 = some (iA at_) ∧ lk ρ 3 = some (byteA to) ∧ lk ρ 9 = some z) (.vc hU hm ?_) ?_
  · have m60 : (if (60 : Int) < (b.length : Int) then (60 : Int) else (b.length : Int)) = ((min b.length 60 : Nat) : Int) := by split <;> omega
    simp -implicitDefEqProofs only [go_sem, ↓reduceIte, Nat.reduceLT, Nat.reduceEqDiff, Nat.reduceAdd, Nat.reduceLeDiff, Nat.reduceMul, Nat.reduceSub, Int.natCast_zero, Int.ofNat_zero, Int.natCast_one, Int.cast_ofNat_Int, bne_self_eq_false, beq_self_eq_true, Int.reduceBEq, Int.reduceBNe, Bool.not_true, Bool.not_false, List.length_map, m60]
    refine ⟨by omega, by omega, by simp; omega, .wr (.refl h) u5 u5z fun z h1 hw => ?_⟩
    simp -implicitDefEqProofs only [go_sem, ↓reduceIte, Nat.reduceLT, Nat.reduceEqDiff, Nat.reduceAdd, Nat.reduceLeDiff, Nat.reduceMul, Nat.reduceSub, Int.natCast_zero, Int.ofNat_zero, Int.natCast_one, Int.cast_ofNat_Int, bne_self_eq_false, beq_self_eq_true, Int.reduceBEq, Int.reduceBNe, Bool.not_true, Bool.not_false]
    refine ⟨z, hw, ?_, ?_, ?_, ?_⟩ <;> simp -implicitDefEqProofs only [go_sem, ↓reduceIte, Nat.reduceLT, Nat.reduceEqDiff, Nat.reduceAdd, Nat.reduceLeDiff, Nat.reduceMul, Nat.reduceSub, Int.natCast_zero, Int.ofNat_zero, Int.natCast_one, Int.cast_ofNat_Int, bne_self_eq_false, beq_self_eq_true, Int.reduceBEq, Int.reduceBNe, Bool.not_true, Bool.not_false]
  rintro ρ g ⟨z, hz, r1, r2, r3, r9⟩
  refine .cut (fun ρ g => ∃ z own, Wr 5 h g z own ∧ own.length ≤ 60 + 68 * 8 ∧ lk ρ 2 = some (iA at_) ∧ lk ρ 3 = some (byteA to) ∧ lk ρ 9 = some z) (.vc hU hm ?_) ?_
  · simp -implicitDefEqProofs only [go_sem, ↓reduceIte, Nat.reduceLT, Nat.reduceEqDiff, Nat.reduceAdd, Nat.reduceLeDiff, Nat.reduceMul, Nat.reduceSub, Int.natCast_zero, Int.ofNat_zero, Int.natCast_one, Int.cast_ofNat_Int, bne_self_eq_false, beq_self_eq_true, Int.reduceBEq, Int.reduceBNe, Bool.not_true, Bool.not_false]
    refine .intro (fun m ρ g => ∃ (i : Nat) (z : AV) (own : List UInt8), Wr 5 h g z own ∧ own.length ≤ 60 + 68 * i ∧ i ≤ 8 ∧ i ≤ ls.length ∧ m = ls.length - i ∧ lk ρ 1 = some (.sl (ls.map rowA) .no) ∧ lk ρ 2 = some (iA at_) ∧ lk ρ 3 = some (byteA to) ∧ lk ρ 9 = some z ∧ lk ρ 10 = some (.v (.int .i64 i))) (ls.length - 0) ?_ ?_
    · refine ⟨0, z, _, hz, by rw [List.length_take]; omega, by omega, by omega, rfl, ?_, ?_, ?_, ?_, ?_⟩ <;> simp -implicitDefEqProofs only [go_sem, ↓reduceIte, Nat.reduceLT, Nat.reduceEqDiff, Nat.reduceAdd, Nat.reduceLeDiff, Nat.reduceMul, Nat.reduceSub, Int.natCast_zero, Int.ofNat_zero, Int.natCast_one, Int.cast_ofNat_Int, bne_self_eq_false, beq_self_eq_true, Int.reduceBEq, Int.reduceBNe, Bool.not_true, Bool.not_false, r1, r2, r3, r9]
    · rintro m ρ g ⟨i, z, own, hw, ho, hi8, hi, rfl, r1, r2, r3, r9, r10⟩
      by_cases hc : i < ls.length ∧ i < 8
      · obtain ⟨hc1, hc2⟩ := hc
        have d1 : decide ((i : Int) < (ls.length : Int)) = true := decide_eq_true (by omega)
        have d2 : decide ((i : Int) < 8) = true := decide_eq_true (by omega)
        have w1 : IntKind.i64.wrap ((i : Int) + 1) = ((i + 1 : Nat) : Int) := by rw [wrap64 _ (by omega)]; omega
        simp -implicitDefEqProofs only [go_sem, ↓reduceIte, Nat.reduceLT, Nat.reduceEqDiff, Nat.reduceAdd, Nat.reduceLeDiff, Nat.reduceMul, Nat.reduceSub, Int.natCast_zero, Int.ofNat_zero, Int.natCast_one, Int.cast_ofNat_Int, bne_self_eq_false, beq_self_eq_true, Int.reduceBEq, Int.reduceBNe, Bool.not_true, Bool.not_false, r1, r2, r3, r9, r10, List.length_map, d1, d2]
        refine .calls noHeap [0, 1, 2, 3, 4, 5, 6, 7, 8, 9, 10, 11, 12, 13, 14] (fun _ _ h => by cases h) (by kernel_rfl) rfl ?_
        simp -implicitDefEqProofs only [go_sem, ↓reduceIte, Nat.reduceLT, Nat.reduceEqDiff, Nat.reduceAdd, Nat.reduceLeDiff, Nat.reduceMul, Nat.reduceSub, Int.natCast_zero, Int.ofNat_zero, Int.natCast_one, Int.cast_ofNat_Int, bne_self_eq_false, beq_self_eq_true, Int.reduceBEq, Int.reduceBNe, Bool.not_true, Bool.not_false, r1, r2, r3, r9, r10, List.length_map, d1, d2]
        obtain ⟨p, hp⟩ : ∃ p, ls[i] = p := ⟨_, rfl⟩
        have hpl := hls _ (List.getElem_mem hc1)
        rw [hp] at hpl
        refine .at i (by simpa using hc1) (by rw [get_map]; rfl) ?_
        simp -implicitDefEqProofs only [go_sem, ↓reduceIte, Nat.reduceLT, Nat.reduceEqDiff, Nat.reduceAdd, Nat.reduceLeDiff, Nat.reduceMul, Nat.reduceSub, Int.natCast_zero, Int.ofNat_zero, Int.natCast_one, Int.cast_ofNat_Int, bne_self_eq_false, beq_self_eq_true, Int.reduceBEq, Int.reduceBNe, Bool.not_true, Bool.not_false, r1, r2, r3, r9, r10, List.length_map, get_map, hp, rowA]
        refine .at i (by simpa using hc1) (by rw [get_map]; rfl) ?_
        have m60 : (if (60 : Int) < (p.length : Int) then (60 : Int) else (p.length : Int)) = ((min p.length 60 : Nat) : Int) := by split <;> omega
        simp -implicitDefEqProofs only [go_sem, ↓reduceIte, Nat.reduceLT, Nat.reduceEqDiff, Nat.reduceAdd, Nat.reduceLeDiff, Nat.reduceMul, Nat.reduceSub, Int.natCast_zero, Int.ofNat_zero, Int.natCast_one, Int.cast_ofNat_Int, bne_self_eq_false, beq_self_eq_true, Int.reduceBEq, Int.reduceBNe, Bool.not_true, Bool.not_false, r1, r2, r3, r9, r10, List.length_map, get_map, hp, rowA, m60]
        refine ⟨by omega, by omega, ?_⟩
        have hql : (p.take (min p.length 60)).length ≤ 60 := by rw [List.length_take]; omega
        obtain ⟨q, hq⟩ : ∃ q, p.take (min p.length 60) = q := ⟨_, rfl⟩
        rw [hq] at hql ⊢
        refine (rframe_ok _ q g (.sl _ _) (by omega)).sthen fun g1 hs1 => ?_
        have hw1 := hw.sub hs1
        have hfl := frame_length q
        refine ⟨fun _ _ h => (by cases h), ?_⟩
        simp -implicitDefEqProofs only [go_sem, ↓reduceIte, Nat.reduceLT, Nat.reduceEqDiff, Nat.reduceAdd, Nat.reduceLeDiff, Nat.reduceMul, Nat.reduceSub, Int.natCast_zero, Int.ofNat_zero, Int.natCast_one, Int.cast_ofNat_Int, bne_self_eq_false, beq_self_eq_true, Int.reduceBEq, Int.reduceBNe, Bool.not_true, Bool.not_false, r1, r2, r3, r9, r10]
        refine hw1.app u5 u5b u5z (m := frame q) (fun k hk => hk) (by omega) fun z2 g2 hw2 => ?_
        refine ⟨fun _ _ h => (by cases h), ?_⟩
        simp -implicitDefEqProofs only [go_sem, ↓reduceIte, Nat.reduceLT, Nat.reduceEqDiff, Nat.reduceAdd, Nat.reduceLeDiff, Nat.reduceMul, Nat.reduceSub, Int.natCast_zero, Int.ofNat_zero, Int.natCast_one, Int.cast_ofNat_Int, bne_self_eq_false, beq_self_eq_true, Int.reduceBEq, Int.reduceBNe, Bool.not_true, Bool.not_false, r1, r2, r3, r9, r10, w1]
        refine ⟨_, ?_, i + 1, z2, own ++ frame q, hw2, by rw [List.length_append]; omega, by omega, by omega, rfl, ?_, ?_, ?_, ?_, ?_⟩
        · omega
        all_goals simp -implicitDefEqProofs only [go_sem, ↓reduceIte, Nat.reduceLT, Nat.reduceEqDiff, Nat.reduceAdd, Nat.reduceLeDiff, Nat.reduceMul, Nat.reduceSub, Int.natCast_zero, Int.ofNat_zero, Int.natCast_one, Int.cast_ofNat_Int, bne_self_eq_false, beq_self_eq_true, Int.reduceBEq, Int.reduceBNe, Bool.not_true, Bool.not_false, r1, r2, r3, r9, r10, w1]
      · have exit : (decide ((i : Int) < (ls.length : Int)) = false) ∨ (decide ((i : Int) < (ls.length : Int)) = true ∧ decide ((i : Int) < 8) = false) := by
          by_cases h1 : i < ls.length
          · exact .inr ⟨decide_eq_true (by omega), decide_eq_false (by omega)⟩
          · exact .inl (decide_eq_false (by omega))
        rcases exit with d1 | ⟨d1, d2⟩
        · simp -implicitDefEqProofs only [go_sem, ↓reduceIte, Nat.reduceLT, Nat.reduceEqDiff, Nat.reduceAdd, Nat.reduceLeDiff, Nat.reduceMul, Nat.reduceSub, Int.natCast_zero, Int.ofNat_zero, Int.natCast_one, Int.cast_ofNat_Int, bne_self_eq_false, beq_self_eq_true, Int.reduceBEq, Int.reduceBNe, Bool.not_true, Bool.not_false, r1, r2, r3, r9, r10, List.length_map, d1]
          refine ⟨z, own, hw, by omega, ?_, ?_, ?_⟩ <;> simp -implicitDefEqProofs only [go_sem, ↓reduceIte, Nat.reduceLT, Nat.reduceEqDiff, Nat.reduceAdd, Nat.reduceLeDiff, Nat.reduceMul, Nat.reduceSub, Int.natCast_zero, Int.ofNat_zero, Int.natCast_one, Int.cast_ofNat_Int, bne_self_eq_false, beq_self_eq_true, Int.reduceBEq, Int.reduceBNe, Bool.not_true, Bool.not_false, r2, r3, r9]
        · simp -implicitDefEqProofs only [go_sem, ↓reduceIte, Nat.reduceLT, Nat.reduceEqDiff, Nat.reduceAdd, Nat.reduceLeDiff, Nat.reduceMul, Nat.reduceSub, Int.natCast_zero, Int.ofNat_zero, Int.natCast_one, Int.cast_ofNat_Int, bne_self_eq_false, beq_self_eq_true, Int.reduceBEq, Int.reduceBNe, Bool.not_true, Bool.not_false, r1, r2, r3, r9, r10, List.length_map, d1, d2]
          refine ⟨z, own, hw, by omega, ?_, ?_, ?_⟩ <;> simp -implicitDefEqProofs only [go_sem, ↓reduceIte, Nat.reduceLT, Nat.reduceEqDiff, Nat.reduceAdd, Nat.reduceLeDiff, Nat.reduceMul, Nat.reduceSub, Int.natCast_zero, Int.ofNat_zero, Int.natCast_one, Int.cast_ofNat_Int, bne_self_eq_false, beq_self_eq_true, Int.reduceBEq, Int.reduceBNe, Bool.not_true, Bool.not_false, r2, r3, r9]
  rintro ρ g ⟨z, own, hw, ho, r2, r3, r9⟩
  refine .cut (fun ρ g => ∃ z own, By g z own ∧ own.length ≤ 60 + 68 * 8 ∧ lk ρ 9 = some z) (.vc hU hm ?_) ?_
  · have hb := hw.bytes
    simp -implicitDefEqProofs only [go_sem, ↓reduceIte, Nat.reduceLT, Nat.reduceEqDiff, Nat.reduceAdd, Nat.reduceLeDiff, Nat.reduceMul, Nat.reduceSub, Int.natCast_zero, Int.ofNat_zero, Int.natCast_one, Int.cast_ofNat_Int, bne_self_eq_false, beq_self_eq_true, Int.reduceBEq, Int.reduceBNe, Bool.not_true, Bool.not_false, r2, r3, r9, hb.len]
    refine .intro (fun e => ?_) (fun e => ?_)
    · have h0 : 0 < own.length := by have := of_decide_eq_true e; omega
      have w1 : IntKind.i64.wrap ((own.length : Int) - 1) = ((own.length - 1 : Nat) : Int) := by rw [wrap64 _ (by omega)]; omega
      simp -implicitDefEqProofs only [go_sem, ↓reduceIte, Nat.reduceLT, Nat.reduceEqDiff, Nat.reduceAdd, Nat.reduceLeDiff, Nat.reduceMul, Nat.reduceSub, Int.natCast_zero, Int.ofNat_zero, Int.natCast_one, Int.cast_ofNat_Int, bne_self_eq_false, beq_self_eq_true, Int.reduceBEq, Int.reduceBNe, Bool.not_true, Bool.not_false, r2, r3, r9, hb.len, w1]
      refine (within_ok at_ 0 ((own.length - 1 : Nat) : Int) g b1 (by omega) (by omega) (by omega)).mono fun r g1 ⟨e1, k, k1, k2, e2⟩ => ?_
      subst e1; subst e2
      obtain ⟨k, rfl⟩ := Int.eq_ofNat_of_zero_le k1
      have hk : k < own.length := by omega
      simp -implicitDefEqProofs only [go_sem, ↓reduceIte, Nat.reduceLT, Nat.reduceEqDiff, Nat.reduceAdd, Nat.reduceLeDiff, Nat.reduceMul, Nat.reduceSub, Int.natCast_zero, Int.ofNat_zero, Int.natCast_one, Int.cast_ofNat_Int, bne_self_eq_false, beq_self_eq_true, Int.reduceBEq, Int.reduceBNe, Bool.not_true, Bool.not_false, r2, r3, r9, hb.len]
      refine hb.idx k rfl hk u5 u5a fun p hp => ?_
      simp -implicitDefEqProofs only [go_sem, ↓reduceIte, Nat.reduceLT, Nat.reduceEqDiff, Nat.reduceAdd, Nat.reduceLeDiff, Nat.reduceMul, Nat.reduceSub, Int.natCast_zero, Int.ofNat_zero, Int.natCast_one, Int.cast_ofNat_Int, bne_self_eq_false, beq_self_eq_true, Int.reduceBEq, Int.reduceBNe, Bool.not_true, Bool.not_false, r2, r3, r9, hb.len, hp _]
      refine hw.put u5 k hk fun id cs q0 q1 q2 q3 q4 => ?_
      have hn := (Wr.put2 (c := own[k] ^^^ to) hw.1 q1 q2 q3 q4 hk).bytes
      simp -implicitDefEqProofs only [go_sem, ↓reduceIte, Nat.reduceLT, Nat.reduceEqDiff, Nat.reduceAdd, Nat.reduceLeDiff, Nat.reduceMul, Nat.reduceSub, Int.natCast_zero, Int.ofNat_zero, Int.natCast_one, Int.cast_ofNat_Int, bne_self_eq_false, beq_self_eq_true, Int.reduceBEq, Int.reduceBNe, Bool.not_true, Bool.not_false, r2, r3, r9, hb.len, q2]
      refine ⟨by omega, _, _, hn, by rw [List.length_set]; exact ho, ?_⟩
      simp -implicitDefEqProofs only [go_sem, ↓reduceIte, Nat.reduceLT, Nat.reduceEqDiff, Nat.reduceAdd, Nat.reduceLeDiff, Nat.reduceMul, Nat.reduceSub, Int.natCast_zero, Int.ofNat_zero, Int.natCast_one, Int.cast_ofNat_Int, bne_self_eq_false, beq_self_eq_true, Int.reduceBEq, Int.reduceBNe, Bool.not_true, Bool.not_false, r9, q0]
    · simp -implicitDefEqProofs only [go_sem, ↓reduceIte, Nat.reduceLT, Nat.reduceEqDiff, Nat.reduceAdd, Nat.reduceLeDiff, Nat.reduceMul, Nat.reduceSub, Int.natCast_zero, Int.ofNat_zero, Int.natCast_one, Int.cast_ofNat_Int, bne_self_eq_false, beq_self_eq_true, Int.reduceBEq, Int.reduceBNe, Bool.not_true, Bool.not_false, r2, r3, r9, hb.len]
      refine ⟨z, own, hb, ho, ?_⟩
      simp -implicitDefEqProofs only [go_sem, ↓reduceIte, Nat.reduceLT, Nat.reduceEqDiff, Nat.reduceAdd, Nat.reduceLeDiff, Nat.reduceMul, Nat.reduceSub, Int.natCast_zero, Int.ofNat_zero, Int.natCast_one, Int.cast_ofNat_Int, bne_self_eq_false, beq_self_eq_true, Int.reduceBEq, Int.reduceBNe, Bool.not_true, Bool.not_false, r9]
  rintro ρ g ⟨z, own, hb, ho, r9⟩
  refine .vc hU hm ?_
  simp -implicitDefEqProofs only [go_sem, ↓reduceIte, Nat.reduceLT, Nat.reduceEqDiff, Nat.reduceAdd, Nat.reduceLeDiff, Nat.reduceMul, Nat.reduceSub, Int.natCast_zero, Int.ofNat_zero, Int.natCast_one, Int.cast_ofNat_Int, bne_self_eq_false, beq_self_eq_true, Int.reduceBEq, Int.reduceBNe, Bool.not_true, Bool.not_false, r9]
  refine (roomy_ok z own 3 g hb (by omega)).mono fun r g1 ⟨id, i1, e1, i2, s1⟩ => ?_
  subst e1
  have hF : By g1 (.oa id 0 (own.length + 80)) (own ++ List.replicate 80 3) := by
    have : own.length + 80 = (own ++ List.replicate 80 3).length := by simp
    rw [this]
    exact .oa i2 (by simp) (by rw [List.drop_zero]; exact List.take_of_length_le (by simp))
  have hb1 := hb.sub s1
  have hlen : own.length ≤ 1000000 := by omega
  have hit := fun (g : Heap) (hg : Ab.Sub g1 g) => intact_ok own 3 g z id (hb1.sub hg) (hg _ _ i2) hlen
  obtain ⟨X, hX⟩ : ∃ X, AV.oa id 0 (own.length + 80) = X := ⟨_, rfl⟩
  rw [hX] at hF hit ⊢
  simp -implicitDefEqProofs only [go_sem, ↓reduceIte, Nat.reduceLT, Nat.reduceEqDiff, Nat.reduceAdd, Nat.reduceLeDiff, Nat.reduceMul, Nat.reduceSub, Int.natCast_zero, Int.ofNat_zero, Int.natCast_one, Int.cast_ofNat_Int, bne_self_eq_false, beq_self_eq_true, Int.reduceBEq, Int.reduceBNe, Bool.not_true, Bool.not_false, r9, hb1.len]
  refine hF.take (m := (own.length : Nat)) (x := .i64) own.length ?_ rfl (by rw [List.length_append]; omega) u5 fun z2 hz2 => ?_
  · simp -implicitDefEqProofs only [go_sem, ↓reduceIte, Nat.reduceLT, Nat.reduceEqDiff, Nat.reduceAdd, Nat.reduceLeDiff, Nat.reduceMul, Nat.reduceSub, Int.natCast_zero, Int.ofNat_zero, Int.natCast_one, Int.cast_ofNat_Int, bne_self_eq_false, beq_self_eq_true, Int.reduceBEq, Int.reduceBNe, Bool.not_true, Bool.not_false]
  rw [List.take_left] at hz2
  simp -implicitDefEqProofs only [go_sem, ↓reduceIte, Nat.reduceLT, Nat.reduceEqDiff, Nat.reduceAdd, Nat.reduceLeDiff, Nat.reduceMul, Nat.reduceSub, Int.natCast_zero, Int.ofNat_zero, Int.natCast_one, Int.cast_ofNat_Int, bne_self_eq_false, beq_self_eq_true, Int.reduceBEq, Int.reduceBNe, Bool.not_true, Bool.not_false, r9]
  obtain ⟨c1, c2⟩ := scan_ps own
  refine (scan_ok z2 own g1 hz2 (by omega)).mono fun r g2 ⟨x, sp, e1, hg, s2, _⟩ => ?_
  subst e1
  have hb2 := hb1.sub s2
  simp -implicitDefEqProofs only [go_sem, ↓reduceIte, Nat.reduceLT, Nat.reduceEqDiff, Nat.reduceAdd, Nat.reduceLeDiff, Nat.reduceMul, Nat.reduceSub, Int.natCast_zero, Int.ofNat_zero, Int.natCast_one, Int.cast_ofNat_Int, bne_self_eq_false, beq_self_eq_true, Int.reduceBEq, Int.reduceBNe, Bool.not_true, Bool.not_false, r9]
  refine (rscan_ok z own g2 hb2 (by omega)).mono fun r g3 ⟨y, ys, sp2, e1, hg2, hys, s3, _⟩ => ?_
  subst e1
  obtain ⟨qx, rfl⟩ := hg.row
  obtain ⟨qy, rfl⟩ := hg2.row
  simp -implicitDefEqProofs only [go_sem, ↓reduceIte, Nat.reduceLT, Nat.reduceEqDiff, Nat.reduceAdd, Nat.reduceLeDiff, Nat.reduceMul, Nat.reduceSub, Int.natCast_zero, Int.ofNat_zero, Int.natCast_one, Int.cast_ofNat_Int, bne_self_eq_false, beq_self_eq_true, Int.reduceBEq, Int.reduceBNe, Bool.not_true, Bool.not_false, r9]
  refine (rows_ok (.sl [] .no) (.sl [] .no) _ _ qx qy _ _ g3 (rows_of _ g3) (hys g3) (by omega) (fun p hp => by have := c2 p hp; omega)).pthen ?_
  rw [decide_eq_true rfl]
  simp -implicitDefEqProofs only [go_sem, ↓reduceIte, Nat.reduceLT, Nat.reduceEqDiff, Nat.reduceAdd, Nat.reduceLeDiff, Nat.reduceMul, Nat.reduceSub, Int.natCast_zero, Int.ofNat_zero, Int.natCast_one, Int.cast_ofNat_Int, bne_self_eq_false, beq_self_eq_true, Int.reduceBEq, Int.reduceBNe, Bool.not_true, Bool.not_false, r9]
  refine (hit g3 (s2.trans s3)).pthen ?_
  simp -implicitDefEqProofs only [go_sem, ↓reduceIte, Nat.reduceLT, Nat.reduceEqDiff, Nat.reduceAdd, Nat.reduceLeDiff, Nat.reduceMul, Nat.reduceSub, Int.natCast_zero, Int.ofNat_zero, Int.natCast_one, Int.cast_ofNat_Int, bne_self_eq_false, beq_self_eq_true, Int.reduceBEq, Int.reduceBNe, Bool.not_true, Bool.not_false, r9]
  refine (journalRuns_ok g3).sthen fun g4 _ => ?_
  simp -implicitDefEqProofs only [go_sem, ↓reduceIte, Nat.reduceLT, Nat.reduceEqDiff, Nat.reduceAdd, Nat.reduceLeDiff, Nat.reduceMul, Nat.reduceSub, Int.natCast_zero, Int.ofNat_zero, Int.natCast_one, Int.cast_ofNat_Int, bne_self_eq_false, beq_self_eq_true, Int.reduceBEq, Int.reduceBNe, Bool.not_true, Bool.not_false, r9]
  exact .same (.refl _) rfl

theorem journalScans_law (x0 x1 x2 x3 : AV) (d0 : Dat U 27 x0) (d1 : Dat U 38 x1) (d2 : Dat U 3 x2) (d3 : Dat U 5 x3) : FnOK Try.prog 7 [x0, x1, x2, x3] noHeap fun r _ => r = .v (.bool true) := by
  obtain ⟨b, rfl, h0⟩ := d0.bytes rfl rfl
  obtain ⟨ls, rfl, h1, h2⟩ := d1.list (f := rowA) (p := fun l => l.length ≤ maxLen) rfl fun y hy => hy.bytes rfl rfl
  obtain ⟨n, rfl, hn⟩ := d2.i64 rfl
  obtain ⟨c, rfl⟩ := d3.u8 rfl
  exact journalScans_ok b ls n c h1 h0 h2 hn noHeap
end Go.Proofs.Ytidpcjblciompaa
