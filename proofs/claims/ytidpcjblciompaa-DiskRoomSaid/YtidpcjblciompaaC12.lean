/- The law DiskRoom. -/
import Derived.Test.YtidpcjblciompaaCB
set_option linter.unusedSimpArgs false
set_option linter.unusedVariables false
namespace Go.Proofs.Ytidpcjblciompaa
open Go Go.Ab

structure RoomInv (q n : Nat) (d : D) : Prop where
  q : d.q = q
  ok : d.ok
  f : d.f = 0
  o : d.off = false
  b : d.b.length = n

set_option maxHeartbeats 4000000 in
set_option maxRecDepth 20000 in
theorem diskRoom_ok (qu : Int) (l : List Ask) (hl : l.length ≤ maxLen) (b1 : i64B qu) (b2 : ∀ q ∈ l, q.ok) (h : Heap) :
    FnOK Try.prog 8 [iA qu, .sl (l.map Ask.av) .no] h fun r _ => r = .v (.bool true) := by
  unfold maxLen at hl
  refine FnOK.body hU hm Try.func8 rfl (by kernel_rfl) 142 rfl [.tmp 4] rfl (Nat.le_of_ble_eq_true rfl) (fun hwf => ?_)
  simp only [go_sem, ↓reduceIte, Nat.reduceLT, Nat.reduceEqDiff, Nat.reduceAdd, Nat.reduceLeDiff, Nat.reduceMul, Nat.reduceSub]
  refine (within_ok qu 0 120 h b1 (by omega) (by omega) (by omega)).mono fun r h2 ⟨e1, Q, n1, n2, e2⟩ => ?_
  subst e1; subst e2
  obtain ⟨Q, rfl⟩ := Int.eq_ofNat_of_zero_le n1
  simp only [go_sem, ↓reduceIte, Nat.reduceLT, Nat.reduceEqDiff, Nat.reduceAdd, Nat.reduceLeDiff, Nat.reduceMul, Nat.reduceSub, Int.natCast_zero, Int.ofNat_zero, Int.natCast_one, Int.cast_ofNat_Int, bne_self_eq_false, beq_self_eq_true, Int.reduceBEq, Int.reduceBNe, Bool.not_true, Bool.not_false]
  refine (new_ok Q (by omega) _).mono fun r h1 ⟨id, hid, e1, hd0, hs0⟩ => ?_
  subst e1
  simp only [go_sem, ↓reduceIte, Nat.reduceLT, Nat.reduceEqDiff, Nat.reduceAdd, Nat.reduceLeDiff, Nat.reduceMul, Nat.reduceSub, Int.natCast_zero, Int.ofNat_zero, Int.natCast_one, Int.cast_ofNat_Int, bne_self_eq_false, beq_self_eq_true, Int.reduceBEq, Int.reduceBNe, Bool.not_true, Bool.not_false]
  have a0 : RoomInv Q 0 ⟨Q, [], 0, 0, false⟩ := ⟨rfl, ⟨by show 0 ≤ Q; omega, by show Q ≤ 1048576; omega, by show 0 ≤ 0; decide, by show 0 < _; decide⟩, rfl, rfl, rfl⟩
  refine .intro (fun m ρ h' => ∃ (i n : Nat) (d : D), DiskAt h' id d ∧ RoomInv Q n d ∧ i ≤ 40 ∧ i ≤ l.length ∧ m = l.length - i ∧ lk ρ 1 = some (.sl (l.map Ask.av) .no) ∧ lk ρ 5 = some (.v (.int .i64 Q)) ∧ lk ρ 6 = some (.ptr id 0) ∧ lk ρ 8 = some (.v (.int .i64 n)) ∧ lk ρ 9 = some (.v (.int .i64 i))) l.length ?_ ?_
  · refine ⟨0, 0, _, hd0, a0, by omega, by omega, rfl, ?_, ?_, ?_, ?_, ?_⟩ <;> simp only [go_sem, ↓reduceIte, Nat.reduceLT, Nat.reduceEqDiff, Nat.reduceAdd, Nat.reduceLeDiff, Nat.reduceMul, Nat.reduceSub, Int.natCast_zero, Int.ofNat_zero, Int.natCast_one, Int.cast_ofNat_Int, bne_self_eq_false, beq_self_eq_true, Int.reduceBEq, Int.reduceBNe, Bool.not_true, Bool.not_false]
  · rintro m ρ h' ⟨i, n, d, hd, ha, hi1, hi2, rfl, r1, r5, r6, r8, r9⟩
    have hdq := ha.q
    have hdb := ha.b
    have hdo := ha.ok.1
    by_cases hc : i < l.length ∧ i < 40
    · obtain ⟨hc1, hc2⟩ := hc
      have d1 : decide ((i : Int) < (l.length : Int)) = true := decide_eq_true (by omega)
      have d2 : decide ((i : Int) < 40) = true := decide_eq_true (by omega)
      have w1 : IntKind.i64.wrap ((i : Int) + 1) = ((i + 1 : Nat) : Int) := by rw [wrap64 _ (by omega)]; omega
      have hq := b2 _ (List.getElem_mem hc1)
      obtain ⟨q, hqe⟩ : ∃ q, l[i] = q := ⟨_, rfl⟩
      rw [hqe] at hq
      simp only [go_sem, ↓reduceIte, Nat.reduceLT, Nat.reduceEqDiff, Nat.reduceAdd, Nat.reduceLeDiff, Nat.reduceMul, Nat.reduceSub, Int.natCast_zero, Int.ofNat_zero, Int.natCast_one, Int.cast_ofNat_Int, bne_self_eq_false, beq_self_eq_true, Int.reduceBEq, Int.reduceBNe, Bool.not_true, Bool.not_false, r1, r5, r6, r8, r9, List.length_map, d1, d2]
      refine .at i (by simpa using hc1) (by rw [get_map]; rfl) ?_
      simp only [go_sem, ↓reduceIte, Nat.reduceLT, Nat.reduceEqDiff, Nat.reduceAdd, Nat.reduceLeDiff, Nat.reduceMul, Nat.reduceSub, Int.natCast_zero, Int.ofNat_zero, Int.natCast_one, Int.cast_ofNat_Int, bne_self_eq_false, beq_self_eq_true, Int.reduceBEq, Int.reduceBNe, Bool.not_true, Bool.not_false, r1, r5, r6, r8, r9, get_map, hqe, Ask.av]
      refine ⟨by decide, .intro (fun e => ?_) (fun e => ?_)⟩
      · simp only [go_sem, ↓reduceIte, Nat.reduceLT, Nat.reduceEqDiff, Nat.reduceAdd, Nat.reduceLeDiff, Nat.reduceMul, Nat.reduceSub, Int.natCast_zero, Int.ofNat_zero, Int.natCast_one, Int.cast_ofNat_Int, bne_self_eq_false, beq_self_eq_true, Int.reduceBEq, Int.reduceBNe, Bool.not_true, Bool.not_false, r1, r5, r6, r8, r9, get_map, hqe, Ask.av]
        refine .at i (by simpa using hc1) (by rw [get_map]; rfl) ?_
        simp only [go_sem, ↓reduceIte, Nat.reduceLT, Nat.reduceEqDiff, Nat.reduceAdd, Nat.reduceLeDiff, Nat.reduceMul, Nat.reduceSub, Int.natCast_zero, Int.ofNat_zero, Int.natCast_one, Int.cast_ofNat_Int, bne_self_eq_false, beq_self_eq_true, Int.reduceBEq, Int.reduceBNe, Bool.not_true, Bool.not_false, r1, r5, r6, r8, r9, get_map, hqe, Ask.av]
        refine (within_ok q.a 0 n _ hq.a (by omega) (by omega) (by omega)).mono fun r h4 ⟨e1, k, k1, k2, e2⟩ => ?_
        subst e1; subst e2
        obtain ⟨k, rfl⟩ := Int.eq_ofNat_of_zero_le k1
        have k3 : k ≤ n := by omega
        have w2 : IntKind.i64.wrap ((k : Int) + 1) = ((k + 1 : Nat) : Int) := by rw [wrap64 _ (by omega)]; omega
        have w3 : IntKind.i64.wrap ((Q : Int) - (k : Int)) = ((Q - k : Nat) : Int) := by rw [wrap64 _ (by omega)]; omega
        simp only [go_sem, ↓reduceIte, Nat.reduceLT, Nat.reduceEqDiff, Nat.reduceAdd, Nat.reduceLeDiff, Nat.reduceMul, Nat.reduceSub, Int.natCast_zero, Int.ofNat_zero, Int.natCast_one, Int.cast_ofNat_Int, bne_self_eq_false, beq_self_eq_true, Int.reduceBEq, Int.reduceBNe, Bool.not_true, Bool.not_false, r1, r5, r6, r8, r9, get_map, hqe, Ask.av]
        refine dthen (cut_ok d ha.ok id _ k hd) fun h5 hd2 _ => ?_
        have ok2 := D.cut_ok ha.ok k
        rw [D.cut0 ha.o ha.f (by omega)] at hd2 ok2 ⊢
        have inv2 : RoomInv Q k { d with b := d.b.take k, sy := min d.sy k } := ⟨ha.q, ok2, ha.f, ha.o, by show (d.b.take k).length = k; rw [List.length_take]; omega⟩
        generalize ({ d with b := d.b.take k, sy := min d.sy k } : D) = d2 at hd2 inv2
        simp only [go_sem, ↓reduceIte, Nat.reduceLT, Nat.reduceEqDiff, Nat.reduceAdd, Nat.reduceLeDiff, Nat.reduceMul, Nat.reduceSub, Int.natCast_zero, Int.ofNat_zero, Int.natCast_one, Int.cast_ofNat_Int, bne_self_eq_false, beq_self_eq_true, Int.reduceBEq, Int.reduceBNe, Bool.not_true, Bool.not_false, r1, r5, r6, r8, r9, get_map, hqe, Ask.av, w2]
        refine dthen (cut_ok d2 inv2.ok id _ ((k + 1 : Nat) : Int) hd2) fun h6 hd3 _ => ?_
        rw [D.cutBad inv2.o (.inr (by have := inv2.b; omega))] at hd3 ⊢
        simp only [go_sem, ↓reduceIte, Nat.reduceLT, Nat.reduceEqDiff, Nat.reduceAdd, Nat.reduceLeDiff, Nat.reduceMul, Nat.reduceSub, Int.natCast_zero, Int.ofNat_zero, Int.natCast_one, Int.cast_ofNat_Int, bne_self_eq_false, beq_self_eq_true, Int.reduceBEq, Int.reduceBNe, Bool.not_true, Bool.not_false, r1, r5, r6, r8, r9, get_map, hqe, Ask.av]
        refine (len_ok' _ id _ hd3).pthen ?_
        simp only [go_sem, ↓reduceIte, Nat.reduceLT, Nat.reduceEqDiff, Nat.reduceAdd, Nat.reduceLeDiff, Nat.reduceMul, Nat.reduceSub, Int.natCast_zero, Int.ofNat_zero, Int.natCast_one, Int.cast_ofNat_Int, bne_self_eq_false, beq_self_eq_true, Int.reduceBEq, Int.reduceBNe, Bool.not_true, Bool.not_false, r1, r5, r6, r8, r9, get_map, hqe, Ask.av, inv2.b]
        refine (free_ok' _ inv2.ok id _ hd3).pthen ?_
        simp only [go_sem, ↓reduceIte, Nat.reduceLT, Nat.reduceEqDiff, Nat.reduceAdd, Nat.reduceLeDiff, Nat.reduceMul, Nat.reduceSub, Int.natCast_zero, Int.ofNat_zero, Int.natCast_one, Int.cast_ofNat_Int, bne_self_eq_false, beq_self_eq_true, Int.reduceBEq, Int.reduceBNe, Bool.not_true, Bool.not_false, r1, r5, r6, r8, r9, get_map, hqe, Ask.av, inv2.b, inv2.q, w3]
        refine (read_ok' _ inv2.ok id _ hd3).pthen ?_
        simp only [go_sem, ↓reduceIte, Nat.reduceLT, Nat.reduceEqDiff, Nat.reduceAdd, Nat.reduceLeDiff, Nat.reduceMul, Nat.reduceSub, Int.natCast_zero, Int.ofNat_zero, Int.natCast_one, Int.cast_ofNat_Int, bne_self_eq_false, beq_self_eq_true, Int.reduceBEq, Int.reduceBNe, Bool.not_true, Bool.not_false, r1, r5, r6, r8, r9, get_map, hqe, Ask.av, inv2.b, List.length_map, w1]
        refine ⟨_, ?_, i + 1, k, _, hd3, inv2, by omega, by omega, rfl, ?_, ?_, ?_, ?_, ?_⟩
        · omega
        all_goals simp only [go_sem, ↓reduceIte, Nat.reduceLT, Nat.reduceEqDiff, Nat.reduceAdd, Nat.reduceLeDiff, Nat.reduceMul, Nat.reduceSub, Int.natCast_zero, Int.ofNat_zero, Int.natCast_one, Int.cast_ofNat_Int, bne_self_eq_false, beq_self_eq_true, Int.reduceBEq, Int.reduceBNe, Bool.not_true, Bool.not_false, r1, r5, r6, r8, r9, w1]
      · simp only [go_sem, ↓reduceIte, Nat.reduceLT, Nat.reduceEqDiff, Nat.reduceAdd, Nat.reduceLeDiff, Nat.reduceMul, Nat.reduceSub, Int.natCast_zero, Int.ofNat_zero, Int.natCast_one, Int.cast_ofNat_Int, bne_self_eq_false, beq_self_eq_true, Int.reduceBEq, Int.reduceBNe, Bool.not_true, Bool.not_false, r1, r5, r6, r8, r9, get_map, hqe, Ask.av]
        refine ⟨.of (by kernel_rfl), ?_⟩
        refine .at i (by simpa using hc1) (by rw [get_map]; rfl) ?_
        simp only [go_sem, ↓reduceIte, Nat.reduceLT, Nat.reduceEqDiff, Nat.reduceAdd, Nat.reduceLeDiff, Nat.reduceMul, Nat.reduceSub, Int.natCast_zero, Int.ofNat_zero, Int.natCast_one, Int.cast_ofNat_Int, bne_self_eq_false, beq_self_eq_true, Int.reduceBEq, Int.reduceBNe, Bool.not_true, Bool.not_false, r1, r5, r6, r8, r9, get_map, hqe, Ask.av]
        refine .at i (by simpa using hc1) (by rw [get_map]; rfl) ?_
        have m40 : (if (40 : Int) < (q.bytes.length : Int) then (40 : Int) else (q.bytes.length : Int)) = ((min q.bytes.length 40 : Nat) : Int) := by split <;> omega
        simp only [go_sem, ↓reduceIte, Nat.reduceLT, Nat.reduceEqDiff, Nat.reduceAdd, Nat.reduceLeDiff, Nat.reduceMul, Nat.reduceSub, Int.natCast_zero, Int.ofNat_zero, Int.natCast_one, Int.cast_ofNat_Int, bne_self_eq_false, beq_self_eq_true, Int.reduceBEq, Int.reduceBNe, Bool.not_true, Bool.not_false, r1, r5, r6, r8, r9, get_map, hqe, Ask.av, m40]
        refine ⟨by omega, by omega, ?_⟩
        have g1 : (q.bytes.take (min q.bytes.length 40)).length ≤ 40 := by rw [List.length_take]; omega
        obtain ⟨B, hB⟩ : ∃ B, q.bytes.take (min q.bytes.length 40) = B := ⟨_, rfl⟩
        rw [hB] at g1
        have w3 : IntKind.i64.wrap ((Q : Int) - (n : Int)) = ((Q - n : Nat) : Int) := by rw [wrap64 _ (by omega)]; omega
        simp only [go_sem, ↓reduceIte, Nat.reduceLT, Nat.reduceEqDiff, Nat.reduceAdd, Nat.reduceLeDiff, Nat.reduceMul, Nat.reduceSub, Int.natCast_zero, Int.ofNat_zero, Int.natCast_one, Int.cast_ofNat_Int, bne_self_eq_false, beq_self_eq_true, Int.reduceBEq, Int.reduceBNe, Bool.not_true, Bool.not_false, r1, r5, r6, r8, r9, get_map, hqe, hB, Ask.av, w3]
        refine dthen (append_ok d ha.ok id _ _ B hd (.sl B _) (by omega)) fun h5 hd3 _ => ?_
        have ok2 := D.append_ok ha.ok B
        by_cases hfit : B.length ≤ Q - n
        · have d3 : decide ((B.length : Int) ≤ ((Q - n : Nat) : Int)) = true := decide_eq_true (by omega)
          rw [D.append0 ha.o ha.f (by omega)] at hd3 ok2 ⊢
          have inv2 : RoomInv Q (n + B.length) { d with b := d.b ++ B } := ⟨ha.q, ok2, ha.f, ha.o, by show (d.b ++ B).length = _; rw [List.length_append]; omega⟩
          generalize ({ d with b := d.b ++ B } : D) = d2 at hd3 inv2
          have w4 : IntKind.i64.wrap ((n : Int) + (B.length : Int)) = ((n + B.length : Nat) : Int) := by rw [wrap64 _ (by omega)]; omega
          have w5 : IntKind.i64.wrap ((Q : Int) - ((n + B.length : Nat) : Int)) = ((Q - (n + B.length) : Nat) : Int) := by rw [wrap64 _ (by omega)]; omega
          simp only [go_sem, ↓reduceIte, Nat.reduceLT, Nat.reduceEqDiff, Nat.reduceAdd, Nat.reduceLeDiff, Nat.reduceMul, Nat.reduceSub, Int.natCast_zero, Int.ofNat_zero, Int.natCast_one, Int.cast_ofNat_Int, bne_self_eq_false, beq_self_eq_true, Int.reduceBEq, Int.reduceBNe, Bool.not_true, Bool.not_false, r1, r5, r6, r8, r9, get_map, hqe, hB, Ask.av, d3, w4]
          refine (len_ok' _ id _ hd3).pthen ?_
          simp only [go_sem, ↓reduceIte, Nat.reduceLT, Nat.reduceEqDiff, Nat.reduceAdd, Nat.reduceLeDiff, Nat.reduceMul, Nat.reduceSub, Int.natCast_zero, Int.ofNat_zero, Int.natCast_one, Int.cast_ofNat_Int, bne_self_eq_false, beq_self_eq_true, Int.reduceBEq, Int.reduceBNe, Bool.not_true, Bool.not_false, r1, r5, r6, r8, r9, get_map, hqe, hB, Ask.av, d3, inv2.b]
          refine (free_ok' _ inv2.ok id _ hd3).pthen ?_
          simp only [go_sem, ↓reduceIte, Nat.reduceLT, Nat.reduceEqDiff, Nat.reduceAdd, Nat.reduceLeDiff, Nat.reduceMul, Nat.reduceSub, Int.natCast_zero, Int.ofNat_zero, Int.natCast_one, Int.cast_ofNat_Int, bne_self_eq_false, beq_self_eq_true, Int.reduceBEq, Int.reduceBNe, Bool.not_true, Bool.not_false, r1, r5, r6, r8, r9, get_map, hqe, hB, Ask.av, d3, inv2.b, inv2.q, w5]
          refine (read_ok' _ inv2.ok id _ hd3).pthen ?_
          simp only [go_sem, ↓reduceIte, Nat.reduceLT, Nat.reduceEqDiff, Nat.reduceAdd, Nat.reduceLeDiff, Nat.reduceMul, Nat.reduceSub, Int.natCast_zero, Int.ofNat_zero, Int.natCast_one, Int.cast_ofNat_Int, bne_self_eq_false, beq_self_eq_true, Int.reduceBEq, Int.reduceBNe, Bool.not_true, Bool.not_false, r1, r5, r6, r8, r9, get_map, hqe, hB, Ask.av, d3, inv2.b, List.length_map, w1]
          refine ⟨_, ?_, i + 1, n + B.length, _, hd3, inv2, by omega, by omega, rfl, ?_, ?_, ?_, ?_, ?_⟩
          · omega
          all_goals simp only [go_sem, ↓reduceIte, Nat.reduceLT, Nat.reduceEqDiff, Nat.reduceAdd, Nat.reduceLeDiff, Nat.reduceMul, Nat.reduceSub, Int.natCast_zero, Int.ofNat_zero, Int.natCast_one, Int.cast_ofNat_Int, bne_self_eq_false, beq_self_eq_true, Int.reduceBEq, Int.reduceBNe, Bool.not_true, Bool.not_false, r1, r5, r6, r8, r9, hB, w1, w4]
        · have d3 : decide ((B.length : Int) ≤ ((Q - n : Nat) : Int)) = false := decide_eq_false (by omega)
          rw [D.appendFull ha.o (by omega)] at hd3 ⊢
          have inv2 := ha
          simp only [go_sem, ↓reduceIte, Nat.reduceLT, Nat.reduceEqDiff, Nat.reduceAdd, Nat.reduceLeDiff, Nat.reduceMul, Nat.reduceSub, Int.natCast_zero, Int.ofNat_zero, Int.natCast_one, Int.cast_ofNat_Int, bne_self_eq_false, beq_self_eq_true, Int.reduceBEq, Int.reduceBNe, Bool.not_true, Bool.not_false, r1, r5, r6, r8, r9, get_map, hqe, hB, Ask.av, d3]
          refine (len_ok' _ id _ hd3).pthen ?_
          simp only [go_sem, ↓reduceIte, Nat.reduceLT, Nat.reduceEqDiff, Nat.reduceAdd, Nat.reduceLeDiff, Nat.reduceMul, Nat.reduceSub, Int.natCast_zero, Int.ofNat_zero, Int.natCast_one, Int.cast_ofNat_Int, bne_self_eq_false, beq_self_eq_true, Int.reduceBEq, Int.reduceBNe, Bool.not_true, Bool.not_false, r1, r5, r6, r8, r9, get_map, hqe, hB, Ask.av, d3, inv2.b]
          refine (free_ok' _ inv2.ok id _ hd3).pthen ?_
          simp only [go_sem, ↓reduceIte, Nat.reduceLT, Nat.reduceEqDiff, Nat.reduceAdd, Nat.reduceLeDiff, Nat.reduceMul, Nat.reduceSub, Int.natCast_zero, Int.ofNat_zero, Int.natCast_one, Int.cast_ofNat_Int, bne_self_eq_false, beq_self_eq_true, Int.reduceBEq, Int.reduceBNe, Bool.not_true, Bool.not_false, r1, r5, r6, r8, r9, get_map, hqe, hB, Ask.av, d3, inv2.b, inv2.q, w3]
          refine (read_ok' _ inv2.ok id _ hd3).pthen ?_
          simp only [go_sem, ↓reduceIte, Nat.reduceLT, Nat.reduceEqDiff, Nat.reduceAdd, Nat.reduceLeDiff, Nat.reduceMul, Nat.reduceSub, Int.natCast_zero, Int.ofNat_zero, Int.natCast_one, Int.cast_ofNat_Int, bne_self_eq_false, beq_self_eq_true, Int.reduceBEq, Int.reduceBNe, Bool.not_true, Bool.not_false, r1, r5, r6, r8, r9, get_map, hqe, hB, Ask.av, d3, inv2.b, List.length_map, w1]
          refine ⟨_, ?_, i + 1, n, _, hd3, inv2, by omega, by omega, rfl, ?_, ?_, ?_, ?_, ?_⟩
          · omega
          all_goals simp only [go_sem, ↓reduceIte, Nat.reduceLT, Nat.reduceEqDiff, Nat.reduceAdd, Nat.reduceLeDiff, Nat.reduceMul, Nat.reduceSub, Int.natCast_zero, Int.ofNat_zero, Int.natCast_one, Int.cast_ofNat_Int, bne_self_eq_false, beq_self_eq_true, Int.reduceBEq, Int.reduceBNe, Bool.not_true, Bool.not_false, r1, r5, r6, r8, r9, hB, w1]
    · have exit : (decide ((i : Int) < (l.length : Int)) = false) ∨ (decide ((i : Int) < (l.length : Int)) = true ∧ decide ((i : Int) < 40) = false) := by
        by_cases h1 : i < l.length
        · exact .inr ⟨decide_eq_true (by omega), decide_eq_false (by omega)⟩
        · exact .inl (decide_eq_false (by omega))
      rcases exit with d1 | ⟨d1, d2⟩
      · simp only [go_sem, ↓reduceIte, Nat.reduceLT, Nat.reduceEqDiff, Nat.reduceAdd, Nat.reduceLeDiff, Nat.reduceMul, Nat.reduceSub, Int.natCast_zero, Int.ofNat_zero, Int.natCast_one, Int.cast_ofNat_Int, bne_self_eq_false, beq_self_eq_true, Int.reduceBEq, Int.reduceBNe, Bool.not_true, Bool.not_false, r1, r5, r6, r8, r9, get_map, Ask.av, List.length_map, d1]
        refine (new_bad (-1) (.inl (by decide)) h').pthen ?_
        simp only [go_sem, ↓reduceIte, Nat.reduceLT, Nat.reduceEqDiff, Nat.reduceAdd, Nat.reduceLeDiff, Nat.reduceMul, Nat.reduceSub, Int.natCast_zero, Int.ofNat_zero, Int.natCast_one, Int.cast_ofNat_Int, bne_self_eq_false, beq_self_eq_true, Int.reduceBEq, Int.reduceBNe, Bool.not_true, Bool.not_false, r1, r5, r6, r8, r9, get_map, Ask.av]
        refine (new_bad 1048577 (.inr (by decide)) h').pthen ?_
        simp only [go_sem, ↓reduceIte, Nat.reduceLT, Nat.reduceEqDiff, Nat.reduceAdd, Nat.reduceLeDiff, Nat.reduceMul, Nat.reduceSub, Int.natCast_zero, Int.ofNat_zero, Int.natCast_one, Int.cast_ofNat_Int, bne_self_eq_false, beq_self_eq_true, Int.reduceBEq, Int.reduceBNe, Bool.not_true, Bool.not_false, r1, r5, r6, r8, r9, get_map, Ask.av]
        refine (diskRuns_ok _).sthen fun h6 _ => ?_
        simp only [go_sem, ↓reduceIte, Nat.reduceLT, Nat.reduceEqDiff, Nat.reduceAdd, Nat.reduceLeDiff, Nat.reduceMul, Nat.reduceSub]
        exact .same (.refl _) rfl
      · simp only [go_sem, ↓reduceIte, Nat.reduceLT, Nat.reduceEqDiff, Nat.reduceAdd, Nat.reduceLeDiff, Nat.reduceMul, Nat.reduceSub, Int.natCast_zero, Int.ofNat_zero, Int.natCast_one, Int.cast_ofNat_Int, bne_self_eq_false, beq_self_eq_true, Int.reduceBEq, Int.reduceBNe, Bool.not_true, Bool.not_false, r1, r5, r6, r8, r9, get_map, Ask.av, List.length_map, d1, d2]
        refine (new_bad (-1) (.inl (by decide)) h').pthen ?_
        simp only [go_sem, ↓reduceIte, Nat.reduceLT, Nat.reduceEqDiff, Nat.reduceAdd, Nat.reduceLeDiff, Nat.reduceMul, Nat.reduceSub, Int.natCast_zero, Int.ofNat_zero, Int.natCast_one, Int.cast_ofNat_Int, bne_self_eq_false, beq_self_eq_true, Int.reduceBEq, Int.reduceBNe, Bool.not_true, Bool.not_false, r1, r5, r6, r8, r9, get_map, Ask.av]
        refine (new_bad 1048577 (.inr (by decide)) h').pthen ?_
        simp only [go_sem, ↓reduceIte, Nat.reduceLT, Nat.reduceEqDiff, Nat.reduceAdd, Nat.reduceLeDiff, Nat.reduceMul, Nat.reduceSub, Int.natCast_zero, Int.ofNat_zero, Int.natCast_one, Int.cast_ofNat_Int, bne_self_eq_false, beq_self_eq_true, Int.reduceBEq, Int.reduceBNe, Bool.not_true, Bool.not_false, r1, r5, r6, r8, r9, get_map, Ask.av]
        refine (diskRuns_ok _).sthen fun h6 _ => ?_
        simp only [go_sem, ↓reduceIte, Nat.reduceLT, Nat.reduceEqDiff, Nat.reduceAdd, Nat.reduceLeDiff, Nat.reduceMul, Nat.reduceSub]
        exact .same (.refl _) rfl

theorem diskRoom_law (x0 x1 : AV) (d0 : Dat U 3 x0) (d1 : Dat U 45 x1) : FnOK Try.prog 8 [x0, x1] noHeap fun r _ => r = .v (.bool true) := by
  obtain ⟨n, rfl, hn⟩ := d0.i64 rfl
  obtain ⟨l, rfl, h1, h2⟩ := asks_of d1 rfl rfl rfl rfl rfl
  exact diskRoom_ok n l h1 hn h2 noHeap
end Go.Proofs.Ytidpcjblciompaa
