/- The law JournalPlays: pack 5 of its texts. -/
import Derived.Test.YtidpcjblciompaaQ1
import Derived.Test.YtidpcjblciompaaQ2
import Derived.Test.YtidpcjblciompaaQ3
import Derived.Test.YtidpcjblciompaaQ4
/- The law JournalPlays: the walk. -/
set_option linter.unusedSimpArgs false
set_option linter.unusedVariables false
namespace Go.Proofs.Ytidpcjblciompaa
open Go Go.Ab

/-- What a round knows. -/
def PlaysI (id id2 : Nat) (l : List Ask) (i : Nat) (ρ : Env) (g : Heap) : Prop :=
  ∃ (d : D) (ps : List (List UInt8)) (down : Bool) (jid kid : Nat) (sj sk : List Nat), Both g id id2 jid kid d ps down sj sk ∧ d.ok ∧ d.q ≤ 1000 ∧ Ps i ps ∧
    lk ρ 1 = some (.sl (l.map Ask.av) .no) ∧ lk ρ 6 = some (.ptr id 0) ∧ lk ρ 8 = some (.ptr id2 0) ∧ lk ρ 10 = some (.ptr jid 0) ∧ lk ρ 12 = some (.ptr kid 0)

set_option maxRecDepth 20000 in
theorem journalPlays_ok (qu : Int) (l : List Ask) (hl : l.length ≤ maxLen) (b1 : i64B qu) (b2 : ∀ q ∈ l, q.ok) (h : Heap) :
    FnOK Try.prog 14 [iA qu, .sl (l.map Ask.av) .no] h fun r _ => r = .v (.bool true) := by
  unfold maxLen at hl
  refine FnOK.of_wp hU Try.func14 rfl (by kernel_rfl) 224 rfl [.tmp 4] rfl (Nat.le_of_ble_eq_true rfl) ?_
  refine .one hU hm ?_
  simp -implicitDefEqProofs only [go_sem, ↓reduceIte, Nat.reduceLT, Nat.reduceEqDiff, Nat.reduceAdd, Nat.reduceLeDiff, Nat.reduceMul, Nat.reduceSub, Int.natCast_zero, Int.ofNat_zero, Int.natCast_one, Int.cast_ofNat_Int, bne_self_eq_false, beq_self_eq_true, Int.reduceBEq, Int.reduceBNe, Bool.not_true, Bool.not_false]
  refine .one hU hm ?_
  simp -implicitDefEqProofs only [go_sem, ↓reduceIte, Nat.reduceLT, Nat.reduceEqDiff, Nat.reduceAdd, Nat.reduceLeDiff, Nat.reduceMul, Nat.reduceSub, Int.natCast_zero, Int.ofNat_zero, Int.natCast_one, Int.cast_ofNat_Int, bne_self_eq_false, beq_self_eq_true, Int.reduceBEq, Int.reduceBNe, Bool.not_true, Bool.not_false]
  refine (within_ok qu 0 900 h b1 (by omega) (by omega) (by omega)).mono fun r h2 ⟨e1, Q, n1, n2, e2⟩ => ?_
  subst e1; subst e2
  obtain ⟨Q, rfl⟩ := Int.eq_ofNat_of_zero_le n1
  have w0 : IntKind.i64.wrap ((100 : Int) + (Q : Int)) = ((100 + Q : Nat) : Int) := by rw [wr64 _ (by omega)]; omega
  simp -implicitDefEqProofs only [go_sem, ↓reduceIte, Nat.reduceLT, Nat.reduceEqDiff, Nat.reduceAdd, Nat.reduceLeDiff, Nat.reduceMul, Nat.reduceSub, Int.natCast_zero, Int.ofNat_zero, Int.natCast_one, Int.cast_ofNat_Int, bne_self_eq_false, beq_self_eq_true, Int.reduceBEq, Int.reduceBNe, Bool.not_true, Bool.not_false, w0]
  refine .one hU hm ?_
  simp -implicitDefEqProofs only [go_sem, ↓reduceIte, Nat.reduceLT, Nat.reduceEqDiff, Nat.reduceAdd, Nat.reduceLeDiff, Nat.reduceMul, Nat.reduceSub, Int.natCast_zero, Int.ofNat_zero, Int.natCast_one, Int.cast_ofNat_Int, bne_self_eq_false, beq_self_eq_true, Int.reduceBEq, Int.reduceBNe, Bool.not_true, Bool.not_false]
  refine (new_ok (100 + Q) (by omega) _).mono fun r g ⟨id, hid, e1, hd0, hs0⟩ => ?_
  subst e1
  simp -implicitDefEqProofs only [go_sem, ↓reduceIte, Nat.reduceLT, Nat.reduceEqDiff, Nat.reduceAdd, Nat.reduceLeDiff, Nat.reduceMul, Nat.reduceSub, Int.natCast_zero, Int.ofNat_zero, Int.natCast_one, Int.cast_ofNat_Int, bne_self_eq_false, beq_self_eq_true, Int.reduceBEq, Int.reduceBNe, Bool.not_true, Bool.not_false]
  refine .one hU hm ?_
  simp -implicitDefEqProofs only [go_sem, ↓reduceIte, Nat.reduceLT, Nat.reduceEqDiff, Nat.reduceAdd, Nat.reduceLeDiff, Nat.reduceMul, Nat.reduceSub, Int.natCast_zero, Int.ofNat_zero, Int.natCast_one, Int.cast_ofNat_Int, bne_self_eq_false, beq_self_eq_true, Int.reduceBEq, Int.reduceBNe, Bool.not_true, Bool.not_false]
  refine (rnew_ok (100 + Q) (by omega) _).mono fun r g1 ⟨id2, hid2, e1, he0, hs1⟩ => ?_
  subst e1
  simp -implicitDefEqProofs only [go_sem, ↓reduceIte, Nat.reduceLT, Nat.reduceEqDiff, Nat.reduceAdd, Nat.reduceLeDiff, Nat.reduceMul, Nat.reduceSub, Int.natCast_zero, Int.ofNat_zero, Int.natCast_one, Int.cast_ofNat_Int, bne_self_eq_false, beq_self_eq_true, Int.reduceBEq, Int.reduceBNe, Bool.not_true, Bool.not_false]
  refine .one hU hm ?_
  simp -implicitDefEqProofs only [go_sem, ↓reduceIte, Nat.reduceLT, Nat.reduceEqDiff, Nat.reduceAdd, Nat.reduceLeDiff, Nat.reduceMul, Nat.reduceSub, Int.natCast_zero, Int.ofNat_zero, Int.natCast_one, Int.cast_ofNat_Int, bne_self_eq_false, beq_self_eq_true, Int.reduceBEq, Int.reduceBNe, Bool.not_true, Bool.not_false]
  refine .one hU hm ?_
  simp -implicitDefEqProofs only [go_sem, ↓reduceIte, Nat.reduceLT, Nat.reduceEqDiff, Nat.reduceAdd, Nat.reduceLeDiff, Nat.reduceMul, Nat.reduceSub, Int.natCast_zero, Int.ofNat_zero, Int.natCast_one, Int.cast_ofNat_Int, bne_self_eq_false, beq_self_eq_true, Int.reduceBEq, Int.reduceBNe, Bool.not_true, Bool.not_false]
  have ok0 : D.ok ⟨100 + Q, [], 0, 0, false⟩ := ⟨by show 0 ≤ 100 + Q; omega, by show 100 + Q ≤ 1048576; omega, by show 0 ≤ _; omega, by show 0 < _; decide⟩
  have hO := D.openD0 ok0 rfl rfl
  have hd1 := hd0.keep hs1.keepObj
  refine (open_ok _ ok0 id g1 hd1).mono fun r g2 ⟨J, e1, hd2, kp2, hJ⟩ => ?_
  rw [hO] at e1 hd2 hJ
  simp only [scan_nil, List.take_nil, if_true] at e1 hd2 hJ
  obtain ⟨jid, sj, rfl, hjn, hj2, hsj⟩ := hJ
  subst e1
  simp -implicitDefEqProofs only [go_sem, ↓reduceIte, Nat.reduceLT, Nat.reduceEqDiff, Nat.reduceAdd, Nat.reduceLeDiff, Nat.reduceMul, Nat.reduceSub, Int.natCast_zero, Int.ofNat_zero, Int.natCast_one, Int.cast_ofNat_Int, bne_self_eq_false, beq_self_eq_true, Int.reduceBEq, Int.reduceBNe, Bool.not_true, Bool.not_false]
  refine .one hU hm ?_
  simp -implicitDefEqProofs only [go_sem, ↓reduceIte, Nat.reduceLT, Nat.reduceEqDiff, Nat.reduceAdd, Nat.reduceLeDiff, Nat.reduceMul, Nat.reduceSub, Int.natCast_zero, Int.ofNat_zero, Int.natCast_one, Int.cast_ofNat_Int, bne_self_eq_false, beq_self_eq_true, Int.reduceBEq, Int.reduceBNe, Bool.not_true, Bool.not_false]
  have he2 := he0.keepDisk hd1 kp2
  refine (ropen_ok _ ok0 id2 g2 he2).mono fun r g3 ⟨J, e1, he3, kp3, hJ⟩ => ?_
  rw [hO] at e1 he3 hJ
  simp only [scan_nil, List.take_nil, if_true] at e1 he3 hJ
  obtain ⟨kid, sk, rfl, hkn, hk3, hsk⟩ := hJ
  subst e1
  have hB := Both.opened he0 hd2 hj2 kp2 hd1 he3 hk3 kp3 (fun i hi => (hsk i hi).1)
  clear hd0 he0 hd1 he2 hd2 hj2 he3 hk3 kp2 kp3 hO hjn hkn hsj hsk hs0 hs1 hid hid2
  simp -implicitDefEqProofs only [go_sem, ↓reduceIte, Nat.reduceLT, Nat.reduceEqDiff, Nat.reduceAdd, Nat.reduceLeDiff, Nat.reduceMul, Nat.reduceSub, Int.natCast_zero, Int.ofNat_zero, Int.natCast_one, Int.cast_ofNat_Int, bne_self_eq_false, beq_self_eq_true, Int.reduceBEq, Int.reduceBNe, Bool.not_true, Bool.not_false]
  refine .one hU hm ?_
  simp -implicitDefEqProofs only [go_sem, ↓reduceIte, Nat.reduceLT, Nat.reduceEqDiff, Nat.reduceAdd, Nat.reduceLeDiff, Nat.reduceMul, Nat.reduceSub, Int.natCast_zero, Int.ofNat_zero, Int.natCast_one, Int.cast_ofNat_Int, bne_self_eq_false, beq_self_eq_true, Int.reduceBEq, Int.reduceBNe, Bool.not_true, Bool.not_false]
  refine .cut (fun ρ g => True) ?_ ?_
  · refine .one hU hm ?_
    simp -implicitDefEqProofs only [go_sem, ↓reduceIte, Nat.reduceLT, Nat.reduceEqDiff, Nat.reduceAdd, Nat.reduceLeDiff, Nat.reduceMul, Nat.reduceSub, Int.natCast_zero, Int.ofNat_zero, Int.natCast_one, Int.cast_ofNat_Int, bne_self_eq_false, beq_self_eq_true, Int.reduceBEq, Int.reduceBNe, Bool.not_true, Bool.not_false]
    refine .block ?_
    refine .rounds (fun m ρ g => ∃ i, PlaysI id id2 l i ρ g ∧ i ≤ 40 ∧ i ≤ l.length ∧ m = l.length - i ∧ lk ρ 14 = some (.v (.int .i64 i))) (l.length - 0) ?_ ?_
    · refine ⟨0, ⟨_, [], false, jid, kid, sj, sk, hB, ok0, by show 100 + Q ≤ 1000; omega, ⟨by simp, by simp⟩, ?_, ?_, ?_, ?_, ?_⟩, by omega, by omega, rfl, ?_⟩ <;> simp -implicitDefEqProofs only [go_sem, ↓reduceIte, Nat.reduceLT, Nat.reduceEqDiff, Nat.reduceAdd, Nat.reduceLeDiff, Nat.reduceMul, Nat.reduceSub, Int.natCast_zero, Int.ofNat_zero, Int.natCast_one, Int.cast_ofNat_Int, bne_self_eq_false, beq_self_eq_true, Int.reduceBEq, Int.reduceBNe, Bool.not_true, Bool.not_false]
    · clear hB
      rintro m ρ g ⟨i, ⟨d, ps, down, jid, kid, sj, sk, hB, hok, hdq, hps, r1, r6, r8, r10, r12⟩, hi40, hi, rfl, r14⟩
      by_cases hc : i < l.length ∧ i < 40
      · obtain ⟨hc1, hc2⟩ := hc
        have d1 : decide ((i : Int) < (l.length : Int)) = true := decide_eq_true (by omega)
        have d2 : decide ((i : Int) < 40) = true := decide_eq_true (by omega)
        have w1 : IntKind.i64.wrap ((i : Int) + 1) = ((i + 1 : Nat) : Int) := by rw [wr64 _ (by omega)]; omega
        refine .one hU hm ?_
        simp -implicitDefEqProofs only [go_sem, ↓reduceIte, Nat.reduceLT, Nat.reduceEqDiff, Nat.reduceAdd, Nat.reduceLeDiff, Nat.reduceMul, Nat.reduceSub, Int.natCast_zero, Int.ofNat_zero, Int.natCast_one, Int.cast_ofNat_Int, bne_self_eq_false, beq_self_eq_true, Int.reduceBEq, Int.reduceBNe, Bool.not_true, Bool.not_false, r1, r14, List.length_map, d1, d2]
        refine .cut (fun ρ g => PlaysI id id2 l (i + 1) ρ g ∧ lk ρ 14 = some (.v (.int .i64 i))) (.block ?_) ?_
        · have hq := b2 _ (List.getElem_mem hc1)
          obtain ⟨q, hqe⟩ : ∃ q, l[i] = q := ⟨_, rfl⟩
          rw [hqe] at hq
          have hqb : q.bytes.length ≤ 2 ^ 63 - 1 := hq.bytes
          have m60 : (if (60 : Int) < (q.bytes.length : Int) then (60 : Int) else (q.bytes.length : Int)) = ((min q.bytes.length 60 : Nat) : Int) := by split <;> omega
          obtain ⟨B, hBq⟩ : ∃ B, q.bytes.take (min q.bytes.length 60) = B := ⟨_, rfl⟩
          have hBl : B.length ≤ 60 := by rw [← hBq, List.length_take]; omega
          refine .cut (fun ρ g' => g' = g ∧ lk ρ 1 = some (.sl (l.map Ask.av) .no) ∧ lk ρ 6 = some (.ptr id 0) ∧ lk ρ 8 = some (.ptr id2 0) ∧ lk ρ 10 = some (.ptr jid 0) ∧ lk ρ 12 = some (.ptr kid 0) ∧ lk ρ 14 = some (.v (.int .i64 i)) ∧ lk ρ 15 = some (.sl (B.map byteA) .no)) (.vc hU hm ?_) ?_
          · simp -implicitDefEqProofs only [go_sem, ↓reduceIte, Nat.reduceLT, Nat.reduceEqDiff, Nat.reduceAdd, Nat.reduceLeDiff, Nat.reduceMul, Nat.reduceSub, Int.natCast_zero, Int.ofNat_zero, Int.natCast_one, Int.cast_ofNat_Int, bne_self_eq_false, beq_self_eq_true, Int.reduceBEq, Int.reduceBNe, Bool.not_true, Bool.not_false, r1, r14, List.length_map]
            refine ⟨.of (by kernel_rfl), ?_⟩
            refine .at i (by simpa using hc1) (by rw [get_map]; rfl) ?_
            simp -implicitDefEqProofs only [go_sem, ↓reduceIte, Nat.reduceLT, Nat.reduceEqDiff, Nat.reduceAdd, Nat.reduceLeDiff, Nat.reduceMul, Nat.reduceSub, Int.natCast_zero, Int.ofNat_zero, Int.natCast_one, Int.cast_ofNat_Int, bne_self_eq_false, beq_self_eq_true, Int.reduceBEq, Int.reduceBNe, Bool.not_true, Bool.not_false, r1, r14, get_map, hqe, Ask.av]
            refine .at i (by simpa using hc1) (by rw [get_map]; rfl) ?_
            simp -implicitDefEqProofs only [go_sem, ↓reduceIte, Nat.reduceLT, Nat.reduceEqDiff, Nat.reduceAdd, Nat.reduceLeDiff, Nat.reduceMul, Nat.reduceSub, Int.natCast_zero, Int.ofNat_zero, Int.natCast_one, Int.cast_ofNat_Int, bne_self_eq_false, beq_self_eq_true, Int.reduceBEq, Int.reduceBNe, Bool.not_true, Bool.not_false, r1, r14, get_map, hqe, Ask.av, m60]
            refine ⟨by omega, by omega, ?_⟩
            rw [hBq]
            refine ⟨rfl, ?_, ?_, ?_, ?_, ?_, ?_, ?_⟩ <;> simp -implicitDefEqProofs only [go_sem, ↓reduceIte, Nat.reduceLT, Nat.reduceEqDiff, Nat.reduceAdd, Nat.reduceLeDiff, Nat.reduceMul, Nat.reduceSub, Int.natCast_zero, Int.ofNat_zero, Int.natCast_one, Int.cast_ofNat_Int, bne_self_eq_false, beq_self_eq_true, Int.reduceBEq, Int.reduceBNe, Bool.not_true, Bool.not_false, r1, r6, r8, r10, r12, r14]
          have hps' : Ps (i + 1) ps := ⟨by have := hps.n; omega, hps.p⟩
          clear r1 r6 r8 r10 r12 r14
          rintro ρ g' ⟨rfl, r1, r6, r8, r10, r12, r14, r15⟩
          refine .cut (fun ρ g => PlaysI id id2 l (i + 1) ρ g ∧ lk ρ 14 = some (.v (.int .i64 i))) (.vc hU hm ?_) ?_
          · simp -implicitDefEqProofs only [go_sem, ↓reduceIte, Nat.reduceLT, Nat.reduceEqDiff, Nat.reduceAdd, Nat.reduceLeDiff, Nat.reduceMul, Nat.reduceSub, Int.natCast_zero, Int.ofNat_zero, Int.natCast_one, Int.cast_ofNat_Int, bne_self_eq_false, beq_self_eq_true, Int.reduceBEq, Int.reduceBNe, Bool.not_true, Bool.not_false, r1, r6, r8, r10, r12, r14, r15, List.length_map]
            refine .at i (by simpa using hc1) (by rw [get_map]; rfl) ?_
            by_cases k1 : q.kind = 1
            · have t1 : (q.kind == 1) = true := by simp [k1]
              simp -implicitDefEqProofs only [go_sem, ↓reduceIte, Nat.reduceLT, Nat.reduceEqDiff, Nat.reduceAdd, Nat.reduceLeDiff, Nat.reduceMul, Nat.reduceSub, Int.natCast_zero, Int.ofNat_zero, Int.natCast_one, Int.cast_ofNat_Int, bne_self_eq_false, beq_self_eq_true, Int.reduceBEq, Int.reduceBNe, Bool.not_true, Bool.not_false, r1, r6, r8, r10, r12, r14, r15, get_map, hqe, Ask.av, t1]
              refine (add_ok d hok id jid ps down sj g' _ B hB.d1 hB.j1 (.sl _ _) (by omega) (by have := hps.n; omega)).mono fun r g1 ⟨e1, sj1, hd1, hj1, ht1, hn1⟩ => ?_
              subst e1
              obtain ⟨c1, c2⟩ := hB.half ht1
              simp -implicitDefEqProofs only [go_sem, ↓reduceIte, Nat.reduceLT, Nat.reduceEqDiff, Nat.reduceAdd, Nat.reduceLeDiff, Nat.reduceMul, Nat.reduceSub, Int.natCast_zero, Int.ofNat_zero, Int.natCast_one, Int.cast_ofNat_Int, bne_self_eq_false, beq_self_eq_true, Int.reduceBEq, Int.reduceBNe, Bool.not_true, Bool.not_false, r1, r6, r8, r10, r12, r14, r15, t1]
              refine (radd_ok d hok id2 kid ps down sk g1 _ B c1 c2 (.sl _ _) (by omega) (by have := hps.n; omega)).mono fun r g2 ⟨e1, sk1, he2, hk2, ht2, hn2⟩ => ?_
              subst e1
              have hB2 := hB.added hd1 hj1 ht1 hn1 he2 hk2 ht2 hn2
              have ok2 := jadd_ok hok ps down B
              have q2 := jadd_q d ps down B
              have hps2 := hps.add d down B hBl
              simp -implicitDefEqProofs only [go_sem, ↓reduceIte, Nat.reduceLT, Nat.reduceEqDiff, Nat.reduceAdd, Nat.reduceLeDiff, Nat.reduceMul, Nat.reduceSub, Int.natCast_zero, Int.ofNat_zero, Int.natCast_one, Int.cast_ofNat_Int, bne_self_eq_false, beq_self_eq_true, Int.reduceBEq, Int.reduceBNe, Bool.not_true, Bool.not_false, r1, r6, r8, r10, r12, r14, r15, t1]
              refine ⟨⟨_, _, _, jid, kid, sj1, sk1, hB2, ok2, by rw [q2]; exact hdq, hps2, ?_, ?_, ?_, ?_, ?_⟩, ?_⟩ <;> simp -implicitDefEqProofs only [go_sem, ↓reduceIte, Nat.reduceLT, Nat.reduceEqDiff, Nat.reduceAdd, Nat.reduceLeDiff, Nat.reduceMul, Nat.reduceSub, Int.natCast_zero, Int.ofNat_zero, Int.natCast_one, Int.cast_ofNat_Int, bne_self_eq_false, beq_self_eq_true, Int.reduceBEq, Int.reduceBNe, Bool.not_true, Bool.not_false, r1, r6, r8, r10, r12, r14, r15]
            · have t1 : (q.kind == 1) = false := by simp [k1]
              by_cases k2 : q.kind = 2
              · have t2 : (q.kind == 2) = true := by simp [k2]
                simp -implicitDefEqProofs only [go_sem, ↓reduceIte, Nat.reduceLT, Nat.reduceEqDiff, Nat.reduceAdd, Nat.reduceLeDiff, Nat.reduceMul, Nat.reduceSub, Int.natCast_zero, Int.ofNat_zero, Int.natCast_one, Int.cast_ofNat_Int, bne_self_eq_false, beq_self_eq_true, Int.reduceBEq, Int.reduceBNe, Bool.not_true, Bool.not_false, r1, r6, r8, r10, r12, r14, r15, get_map, hqe, Ask.av, t1, t2]
                refine .at i (by simpa using hc1) (by rw [get_map]; rfl) ?_
                simp -implicitDefEqProofs only [go_sem, ↓reduceIte, Nat.reduceLT, Nat.reduceEqDiff, Nat.reduceAdd, Nat.reduceLeDiff, Nat.reduceMul, Nat.reduceSub, Int.natCast_zero, Int.ofNat_zero, Int.natCast_one, Int.cast_ofNat_Int, bne_self_eq_false, beq_self_eq_true, Int.reduceBEq, Int.reduceBNe, Bool.not_true, Bool.not_false, r1, r6, r8, r10, r12, r14, r15, get_map, hqe, Ask.av]
                refine (within_ok q.a 0 6 g' hq.a (by omega) (by omega) (by omega)).mono fun r h2 ⟨e1, n, n1, n2, e2⟩ => ?_
                subst e1; subst e2
                obtain ⟨n, rfl⟩ := Int.eq_ofNat_of_zero_le n1
                simp -implicitDefEqProofs only [go_sem, ↓reduceIte, Nat.reduceLT, Nat.reduceEqDiff, Nat.reduceAdd, Nat.reduceLeDiff, Nat.reduceMul, Nat.reduceSub, Int.natCast_zero, Int.ofNat_zero, Int.natCast_one, Int.cast_ofNat_Int, bne_self_eq_false, beq_self_eq_true, Int.reduceBEq, Int.reduceBNe, Bool.not_true, Bool.not_false, r1, r6, r8, r10, r12, r14, r15, t1, t2]
                refine (arm_ok' d n id _ hB.d1).mono fun r g1 ⟨hd1, kp1⟩ => ?_
                have he1 := hB.d2.keepDisk hB.d1 kp1
                have he1' := he1
                obtain ⟨yb, hyb, hyb2⟩ := he1'
                have hyb1 := hyb
                simp only [D.cells] at hyb1
                simp -implicitDefEqProofs only [go_sem, ↓reduceIte, Nat.reduceLT, Nat.reduceEqDiff, Nat.reduceAdd, Nat.reduceLeDiff, Nat.reduceMul, Nat.reduceSub, Int.natCast_zero, Int.ofNat_zero, Int.natCast_one, Int.cast_ofNat_Int, bne_self_eq_false, beq_self_eq_true, Int.reduceBEq, Int.reduceBNe, Bool.not_true, Bool.not_false, r1, r6, r8, r10, r12, r14, r15, t1, t2, hyb1]
                have kp2 : Keep id2 g1 (upd g1 id2 (some (.obj [.v (.int .i64 d.q), yb, .v (.int .i64 d.sy), .v (.int .i64 n), .v (.bool d.off)] 56))) := Keep.upd _ _
                have he2 : RefAt (upd g1 id2 (some (.obj [.v (.int .i64 d.q), yb, .v (.int .i64 d.sy), .v (.int .i64 n), .v (.bool d.off)] 56))) id2 { d with f := n } := ⟨yb, upd_same .., hyb2.set2 hyb⟩
                have hB2 := hB.disks hd1 kp1 he2 kp2
                have ok2 : D.ok { d with f := n } := ⟨hok.1, hok.2.1, hok.2.2.1, by show n < _; omega⟩
                refine ⟨⟨_, ps, down, jid, kid, sj, sk, hB2, ok2, hdq, hps', ?_, ?_, ?_, ?_, ?_⟩, ?_⟩ <;> simp -implicitDefEqProofs only [go_sem, ↓reduceIte, Nat.reduceLT, Nat.reduceEqDiff, Nat.reduceAdd, Nat.reduceLeDiff, Nat.reduceMul, Nat.reduceSub, Int.natCast_zero, Int.ofNat_zero, Int.natCast_one, Int.cast_ofNat_Int, bne_self_eq_false, beq_self_eq_true, Int.reduceBEq, Int.reduceBNe, Bool.not_true, Bool.not_false, r1, r6, r8, r10, r12, r14, r15]
              · have t2 : (q.kind == 2) = false := by simp [k2]
                by_cases k3 : q.kind = 3
                · have t3 : (q.kind == 3) = true := by simp [k3]
                  have t4 : (q.kind == 4) = false := by simp [k3]
                  simp -implicitDefEqProofs only [go_sem, ↓reduceIte, Nat.reduceLT, Nat.reduceEqDiff, Nat.reduceAdd, Nat.reduceLeDiff, Nat.reduceMul, Nat.reduceSub, Int.natCast_zero, Int.ofNat_zero, Int.natCast_one, Int.cast_ofNat_Int, bne_self_eq_false, beq_self_eq_true, Int.reduceBEq, Int.reduceBNe, Bool.not_true, Bool.not_false, r1, r6, r8, r10, r12, r14, r15, get_map, hqe, Ask.av, t1, t2, t3]
                  refine .calls noHeap [0, 1, 2, 3, 4, 5, 6, 7, 8, 9, 10, 11] (fun _ _ h => by cases h) (by kernel_rfl) rfl ?_
                  simp -implicitDefEqProofs only [go_sem, ↓reduceIte, Nat.reduceLT, Nat.reduceEqDiff, Nat.reduceAdd, Nat.reduceLeDiff, Nat.reduceMul, Nat.reduceSub, Int.natCast_zero, Int.ofNat_zero, Int.natCast_one, Int.cast_ofNat_Int, bne_self_eq_false, beq_self_eq_true, Int.reduceBEq, Int.reduceBNe, Bool.not_true, Bool.not_false, r1, r6, r8, r10, r12, r14, r15, t1, t2, t3]
                  refine .at i (by simpa using hc1) (by rw [get_map]; rfl) ?_
                  simp -implicitDefEqProofs only [go_sem, ↓reduceIte, Nat.reduceLT, Nat.reduceEqDiff, Nat.reduceAdd, Nat.reduceLeDiff, Nat.reduceMul, Nat.reduceSub, Int.natCast_zero, Int.ofNat_zero, Int.natCast_one, Int.cast_ofNat_Int, bne_self_eq_false, beq_self_eq_true, Int.reduceBEq, Int.reduceBNe, Bool.not_true, Bool.not_false, r1, r6, r8, r10, r12, r14, r15, get_map, hqe, Ask.av]
                  refine .at i (by simpa using hc1) (by rw [get_map]; rfl) ?_
                  simp -implicitDefEqProofs only [go_sem, ↓reduceIte, Nat.reduceLT, Nat.reduceEqDiff, Nat.reduceAdd, Nat.reduceLeDiff, Nat.reduceMul, Nat.reduceSub, Int.natCast_zero, Int.ofNat_zero, Int.natCast_one, Int.cast_ofNat_Int, bne_self_eq_false, beq_self_eq_true, Int.reduceBEq, Int.reduceBNe, Bool.not_true, Bool.not_false, r1, r6, r8, r10, r12, r14, r15, get_map, hqe, Ask.av]
                  refine (boot_ok d hok id _ q.a q.b hB.d1).mono fun r g1 ⟨hd1, kp1⟩ => ?_
                  have he1 := hB.d2.keepDisk hB.d1 kp1
                  refine ⟨fun _ _ h => (by cases h), ?_⟩
                  simp -implicitDefEqProofs only [go_sem, ↓reduceIte, Nat.reduceLT, Nat.reduceEqDiff, Nat.reduceAdd, Nat.reduceLeDiff, Nat.reduceMul, Nat.reduceSub, Int.natCast_zero, Int.ofNat_zero, Int.natCast_one, Int.cast_ofNat_Int, bne_self_eq_false, beq_self_eq_true, Int.reduceBEq, Int.reduceBNe, Bool.not_true, Bool.not_false, r1, r6, r8, r10, r12, r14, r15, t1, t2, t3]
                  refine .calls noHeap [0, 1, 2, 3, 4, 5, 6, 7, 8, 9, 10, 11] (fun _ _ h => by cases h) (by kernel_rfl) rfl ?_
                  simp -implicitDefEqProofs only [go_sem, ↓reduceIte, Nat.reduceLT, Nat.reduceEqDiff, Nat.reduceAdd, Nat.reduceLeDiff, Nat.reduceMul, Nat.reduceSub, Int.natCast_zero, Int.ofNat_zero, Int.natCast_one, Int.cast_ofNat_Int, bne_self_eq_false, beq_self_eq_true, Int.reduceBEq, Int.reduceBNe, Bool.not_true, Bool.not_false, r1, r6, r8, r10, r12, r14, r15, t1, t2, t3]
                  refine .at i (by simpa using hc1) (by rw [get_map]; rfl) ?_
                  simp -implicitDefEqProofs only [go_sem, ↓reduceIte, Nat.reduceLT, Nat.reduceEqDiff, Nat.reduceAdd, Nat.reduceLeDiff, Nat.reduceMul, Nat.reduceSub, Int.natCast_zero, Int.ofNat_zero, Int.natCast_one, Int.cast_ofNat_Int, bne_self_eq_false, beq_self_eq_true, Int.reduceBEq, Int.reduceBNe, Bool.not_true, Bool.not_false, r1, r6, r8, r10, r12, r14, r15, get_map, hqe, Ask.av]
                  refine .at i (by simpa using hc1) (by rw [get_map]; rfl) ?_
                  simp -implicitDefEqProofs only [go_sem, ↓reduceIte, Nat.reduceLT, Nat.reduceEqDiff, Nat.reduceAdd, Nat.reduceLeDiff, Nat.reduceMul, Nat.reduceSub, Int.natCast_zero, Int.ofNat_zero, Int.natCast_one, Int.cast_ofNat_Int, bne_self_eq_false, beq_self_eq_true, Int.reduceBEq, Int.reduceBNe, Bool.not_true, Bool.not_false, r1, r6, r8, r10, r12, r14, r15, get_map, hqe, Ask.av]
                  refine (rboot_ok d hok id2 g1 q.a q.b he1).mono fun r g2 ⟨he2, kp2⟩ => ?_
                  refine ⟨fun _ _ h => (by cases h), ?_⟩
                  have hB1 := hB.disks hd1 kp1 he2 kp2
                  have okb := D.boot_ok hok q.a q.b
                  have hqb2 : (d.boot q.a q.b).q ≤ 1000 := hdq
                  generalize d.boot q.a q.b = db at hB1 okb hqb2
                  clear he1 hd1 he2
                  simp -implicitDefEqProofs only [go_sem, ↓reduceIte, Nat.reduceLT, Nat.reduceEqDiff, Nat.reduceAdd, Nat.reduceLeDiff, Nat.reduceMul, Nat.reduceSub, Int.natCast_zero, Int.ofNat_zero, Int.natCast_one, Int.cast_ofNat_Int, bne_self_eq_false, beq_self_eq_true, Int.reduceBEq, Int.reduceBNe, Bool.not_true, Bool.not_false, r1, r6, r8, r10, r12, r14, r15, t1, t2, t3]
                  refine .at i (by simpa using hc1) (by rw [get_map]; rfl) ?_
                  simp -implicitDefEqProofs only [go_sem, ↓reduceIte, Nat.reduceLT, Nat.reduceEqDiff, Nat.reduceAdd, Nat.reduceLeDiff, Nat.reduceMul, Nat.reduceSub, Int.natCast_zero, Int.ofNat_zero, Int.natCast_one, Int.cast_ofNat_Int, bne_self_eq_false, beq_self_eq_true, Int.reduceBEq, Int.reduceBNe, Bool.not_true, Bool.not_false, r1, r6, r8, r10, r12, r14, r15, get_map, hqe, Ask.av, t4]
                  -- opened anew
                  refine (open_ok db okb id g2 hB1.d1).mono fun r gx ⟨J, e1, hdx, kpx, hJ⟩ => ?_
                  subst e1
                  simp -implicitDefEqProofs only [go_sem, ↓reduceIte, Nat.reduceLT, Nat.reduceEqDiff, Nat.reduceAdd, Nat.reduceLeDiff, Nat.reduceMul, Nat.reduceSub, Int.natCast_zero, Int.ofNat_zero, Int.natCast_one, Int.cast_ofNat_Int, bne_self_eq_false, beq_self_eq_true, Int.reduceBEq, Int.reduceBNe, Bool.not_true, Bool.not_false, r1, r6, r8, r10, r12, r14, r15, t1, t2, t3, t4]
                  have hex := hB1.d2.keepDisk hB1.d1 kpx
                  refine (ropen_ok db okb id2 gx hex).mono fun r gy ⟨J2, e1, hey, kpy, hJ2⟩ => ?_
                  subst e1
                  have okx := D.openD_ok okb
                  have qx := D.openD_q db
                  have hps2 : Ps (i + 1) (scan (db).b).1 := .scan _ (by have := (okb).1; have : (db).q ≤ 1000 := hqb2; omega)
                  by_cases hc0 : (db).openD.2 = 0
                  · rw [if_pos hc0] at hJ hJ2
                    obtain ⟨jx, sjx, rfl, _, hjx, _⟩ := hJ
                    obtain ⟨kx, skx, rfl, _, hkx, hskx⟩ := hJ2
                    rw [hc0]
                    have hB2 := Both.opened hB1.d2 hdx hjx kpx hB1.d1 hey hkx kpy (fun i hi => (hskx i hi).1)
                    simp -implicitDefEqProofs only [go_sem, ↓reduceIte, Nat.reduceLT, Nat.reduceEqDiff, Nat.reduceAdd, Nat.reduceLeDiff, Nat.reduceMul, Nat.reduceSub, Int.natCast_zero, Int.ofNat_zero, Int.natCast_one, Int.cast_ofNat_Int, bne_self_eq_false, beq_self_eq_true, Int.reduceBEq, Int.reduceBNe, Bool.not_true, Bool.not_false, r1, r6, r8, r10, r12, r14, r15, t1, t2, t3, t4]
                    refine ⟨⟨_, _, false, jx, kx, sjx, skx, hB2, okx, by rw [qx]; exact hqb2, hps2, ?_, ?_, ?_, ?_, ?_⟩, ?_⟩ <;> simp -implicitDefEqProofs only [go_sem, ↓reduceIte, Nat.reduceLT, Nat.reduceEqDiff, Nat.reduceAdd, Nat.reduceLeDiff, Nat.reduceMul, Nat.reduceSub, Int.natCast_zero, Int.ofNat_zero, Int.natCast_one, Int.cast_ofNat_Int, bne_self_eq_false, beq_self_eq_true, Int.reduceBEq, Int.reduceBNe, Bool.not_true, Bool.not_false, r1, r6, r8, r10, r12, r14, r15]
                  · rw [if_neg hc0] at hJ hJ2
                    subst hJ; subst hJ2
                    have hB2 := hB1.disks hdx kpx hey kpy
                    simp -implicitDefEqProofs only [go_sem, ↓reduceIte, Nat.reduceLT, Nat.reduceEqDiff, Nat.reduceAdd, Nat.reduceLeDiff, Nat.reduceMul, Nat.reduceSub, Int.natCast_zero, Int.ofNat_zero, Int.natCast_one, Int.cast_ofNat_Int, bne_self_eq_false, beq_self_eq_true, Int.reduceBEq, Int.reduceBNe, Bool.not_true, Bool.not_false, r1, r6, r8, r10, r12, r14, r15, t1, t2, t3, t4]
                    refine ⟨⟨_, ps, down, jid, kid, sj, sk, hB2, okx, by rw [qx]; exact hqb2, hps', ?_, ?_, ?_, ?_, ?_⟩, ?_⟩ <;> simp -implicitDefEqProofs only [go_sem, ↓reduceIte, Nat.reduceLT, Nat.reduceEqDiff, Nat.reduceAdd, Nat.reduceLeDiff, Nat.reduceMul, Nat.reduceSub, Int.natCast_zero, Int.ofNat_zero, Int.natCast_one, Int.cast_ofNat_Int, bne_self_eq_false, beq_self_eq_true, Int.reduceBEq, Int.reduceBNe, Bool.not_true, Bool.not_false, r1, r6, r8, r10, r12, r14, r15]

                · have t3 : (q.kind == 3) = false := by simp [k3]
                  by_cases k4 : q.kind = 4
                  · have t4 : (q.kind == 4) = true := by simp [k4]
                    simp -implicitDefEqProofs only [go_sem, ↓reduceIte, Nat.reduceLT, Nat.reduceEqDiff, Nat.reduceAdd, Nat.reduceLeDiff, Nat.reduceMul, Nat.reduceSub, Int.natCast_zero, Int.ofNat_zero, Int.natCast_one, Int.cast_ofNat_Int, bne_self_eq_false, beq_self_eq_true, Int.reduceBEq, Int.reduceBNe, Bool.not_true, Bool.not_false, r1, r6, r8, r10, r12, r14, r15, get_map, hqe, Ask.av, t1, t2, t3, t4]
                    refine .calls noHeap [0, 1, 2, 3, 4, 5, 6, 7, 8, 9, 10, 11] (fun _ _ h => by cases h) (by kernel_rfl) rfl ?_
                    simp -implicitDefEqProofs only [go_sem, ↓reduceIte, Nat.reduceLT, Nat.reduceEqDiff, Nat.reduceAdd, Nat.reduceLeDiff, Nat.reduceMul, Nat.reduceSub, Int.natCast_zero, Int.ofNat_zero, Int.natCast_one, Int.cast_ofNat_Int, bne_self_eq_false, beq_self_eq_true, Int.reduceBEq, Int.reduceBNe, Bool.not_true, Bool.not_false, r1, r6, r8, r10, r12, r14, r15, t1, t2, t3]
                    refine .at i (by simpa using hc1) (by rw [get_map]; rfl) ?_
                    simp -implicitDefEqProofs only [go_sem, ↓reduceIte, Nat.reduceLT, Nat.reduceEqDiff, Nat.reduceAdd, Nat.reduceLeDiff, Nat.reduceMul, Nat.reduceSub, Int.natCast_zero, Int.ofNat_zero, Int.natCast_one, Int.cast_ofNat_Int, bne_self_eq_false, beq_self_eq_true, Int.reduceBEq, Int.reduceBNe, Bool.not_true, Bool.not_false, r1, r6, r8, r10, r12, r14, r15, get_map, hqe, Ask.av]
                    refine .at i (by simpa using hc1) (by rw [get_map]; rfl) ?_
                    simp -implicitDefEqProofs only [go_sem, ↓reduceIte, Nat.reduceLT, Nat.reduceEqDiff, Nat.reduceAdd, Nat.reduceLeDiff, Nat.reduceMul, Nat.reduceSub, Int.natCast_zero, Int.ofNat_zero, Int.natCast_one, Int.cast_ofNat_Int, bne_self_eq_false, beq_self_eq_true, Int.reduceBEq, Int.reduceBNe, Bool.not_true, Bool.not_false, r1, r6, r8, r10, r12, r14, r15, get_map, hqe, Ask.av]
                    refine (boot_ok d hok id _ q.a q.b hB.d1).mono fun r g1 ⟨hd1, kp1⟩ => ?_
                    have he1 := hB.d2.keepDisk hB.d1 kp1
                    refine ⟨fun _ _ h => (by cases h), ?_⟩
                    simp -implicitDefEqProofs only [go_sem, ↓reduceIte, Nat.reduceLT, Nat.reduceEqDiff, Nat.reduceAdd, Nat.reduceLeDiff, Nat.reduceMul, Nat.reduceSub, Int.natCast_zero, Int.ofNat_zero, Int.natCast_one, Int.cast_ofNat_Int, bne_self_eq_false, beq_self_eq_true, Int.reduceBEq, Int.reduceBNe, Bool.not_true, Bool.not_false, r1, r6, r8, r10, r12, r14, r15, t1, t2, t3]
                    refine .calls noHeap [0, 1, 2, 3, 4, 5, 6, 7, 8, 9, 10, 11] (fun _ _ h => by cases h) (by kernel_rfl) rfl ?_
                    simp -implicitDefEqProofs only [go_sem, ↓reduceIte, Nat.reduceLT, Nat.reduceEqDiff, Nat.reduceAdd, Nat.reduceLeDiff, Nat.reduceMul, Nat.reduceSub, Int.natCast_zero, Int.ofNat_zero, Int.natCast_one, Int.cast_ofNat_Int, bne_self_eq_false, beq_self_eq_true, Int.reduceBEq, Int.reduceBNe, Bool.not_true, Bool.not_false, r1, r6, r8, r10, r12, r14, r15, t1, t2, t3]
                    refine .at i (by simpa using hc1) (by rw [get_map]; rfl) ?_
                    simp -implicitDefEqProofs only [go_sem, ↓reduceIte, Nat.reduceLT, Nat.reduceEqDiff, Nat.reduceAdd, Nat.reduceLeDiff, Nat.reduceMul, Nat.reduceSub, Int.natCast_zero, Int.ofNat_zero, Int.natCast_one, Int.cast_ofNat_Int, bne_self_eq_false, beq_self_eq_true, Int.reduceBEq, Int.reduceBNe, Bool.not_true, Bool.not_false, r1, r6, r8, r10, r12, r14, r15, get_map, hqe, Ask.av]
                    refine .at i (by simpa using hc1) (by rw [get_map]; rfl) ?_
                    simp -implicitDefEqProofs only [go_sem, ↓reduceIte, Nat.reduceLT, Nat.reduceEqDiff, Nat.reduceAdd, Nat.reduceLeDiff, Nat.reduceMul, Nat.reduceSub, Int.natCast_zero, Int.ofNat_zero, Int.natCast_one, Int.cast_ofNat_Int, bne_self_eq_false, beq_self_eq_true, Int.reduceBEq, Int.reduceBNe, Bool.not_true, Bool.not_false, r1, r6, r8, r10, r12, r14, r15, get_map, hqe, Ask.av]
                    refine (rboot_ok d hok id2 g1 q.a q.b he1).mono fun r g2 ⟨he2, kp2⟩ => ?_
                    refine ⟨fun _ _ h => (by cases h), ?_⟩
                    have hB1 := hB.disks hd1 kp1 he2 kp2
                    have okb := D.boot_ok hok q.a q.b
                    have hqb2 : (d.boot q.a q.b).q ≤ 1000 := hdq
                    generalize d.boot q.a q.b = db at hB1 okb hqb2
                    clear he1 hd1 he2
                    simp -implicitDefEqProofs only [go_sem, ↓reduceIte, Nat.reduceLT, Nat.reduceEqDiff, Nat.reduceAdd, Nat.reduceLeDiff, Nat.reduceMul, Nat.reduceSub, Int.natCast_zero, Int.ofNat_zero, Int.natCast_one, Int.cast_ofNat_Int, bne_self_eq_false, beq_self_eq_true, Int.reduceBEq, Int.reduceBNe, Bool.not_true, Bool.not_false, r1, r6, r8, r10, r12, r14, r15, t1, t2, t3]
                    refine .at i (by simpa using hc1) (by rw [get_map]; rfl) ?_
                    simp -implicitDefEqProofs only [go_sem, ↓reduceIte, Nat.reduceLT, Nat.reduceEqDiff, Nat.reduceAdd, Nat.reduceLeDiff, Nat.reduceMul, Nat.reduceSub, Int.natCast_zero, Int.ofNat_zero, Int.natCast_one, Int.cast_ofNat_Int, bne_self_eq_false, beq_self_eq_true, Int.reduceBEq, Int.reduceBNe, Bool.not_true, Bool.not_false, r1, r6, r8, r10, r12, r14, r15, get_map, hqe, Ask.av, t4]

                    refine (append_ok db okb id g2 _ B hB1.d1 (.sl _ _) (by omega)).mono fun r g3 ⟨e1, hd3, kp3⟩ => ?_
                    subst e1
                    have he3 := hB1.d2.keepDisk hB1.d1 kp3
                    simp -implicitDefEqProofs only [go_sem, ↓reduceIte, Nat.reduceLT, Nat.reduceEqDiff, Nat.reduceAdd, Nat.reduceLeDiff, Nat.reduceMul, Nat.reduceSub, Int.natCast_zero, Int.ofNat_zero, Int.natCast_one, Int.cast_ofNat_Int, bne_self_eq_false, beq_self_eq_true, Int.reduceBEq, Int.reduceBNe, Bool.not_true, Bool.not_false, r1, r6, r8, r10, r12, r14, r15, t1, t2, t3, t4]
                    refine (rappend_ok db okb id2 g3 _ B he3 (.sl _ _) (by omega)).mono fun r g4 ⟨e1, he4, kp4⟩ => ?_
                    subst e1
                    have hB4 := hB1.disks hd3 kp3 he4 kp4
                    have ok4 := D.append_ok okb B
                    have q4 : (db.append B).1.q ≤ 1000 := by rw [D.append_q]; exact hqb2
                    generalize (db.append B).1 = dc at hB4 ok4 q4
                    clear hd3 he4 he3
                    simp -implicitDefEqProofs only [go_sem, ↓reduceIte, Nat.reduceLT, Nat.reduceEqDiff, Nat.reduceAdd, Nat.reduceLeDiff, Nat.reduceMul, Nat.reduceSub, Int.natCast_zero, Int.ofNat_zero, Int.natCast_one, Int.cast_ofNat_Int, bne_self_eq_false, beq_self_eq_true, Int.reduceBEq, Int.reduceBNe, Bool.not_true, Bool.not_false, r1, r6, r8, r10, r12, r14, r15, t1, t2, t3, t4]
                    -- opened anew
                    refine (open_ok dc ok4 id g4 hB4.d1).mono fun r gx ⟨J, e1, hdx, kpx, hJ⟩ => ?_
                    subst e1
                    simp -implicitDefEqProofs only [go_sem, ↓reduceIte, Nat.reduceLT, Nat.reduceEqDiff, Nat.reduceAdd, Nat.reduceLeDiff, Nat.reduceMul, Nat.reduceSub, Int.natCast_zero, Int.ofNat_zero, Int.natCast_one, Int.cast_ofNat_Int, bne_self_eq_false, beq_self_eq_true, Int.reduceBEq, Int.reduceBNe, Bool.not_true, Bool.not_false, r1, r6, r8, r10, r12, r14, r15, t1, t2, t3, t4]
                    have hex := hB4.d2.keepDisk hB4.d1 kpx
                    refine (ropen_ok dc ok4 id2 gx hex).mono fun r gy ⟨J2, e1, hey, kpy, hJ2⟩ => ?_
                    subst e1
                    have okx := D.openD_ok ok4
                    have qx := D.openD_q dc
                    have hps2 : Ps (i + 1) (scan (dc).b).1 := .scan _ (by have := (ok4).1; have : (dc).q ≤ 1000 := q4; omega)
                    by_cases hc0 : (dc).openD.2 = 0
                    · rw [if_pos hc0] at hJ hJ2
                      obtain ⟨jx, sjx, rfl, _, hjx, _⟩ := hJ
                      obtain ⟨kx, skx, rfl, _, hkx, hskx⟩ := hJ2
                      rw [hc0]
                      have hB2 := Both.opened hB4.d2 hdx hjx kpx hB4.d1 hey hkx kpy (fun i hi => (hskx i hi).1)
                      simp -implicitDefEqProofs only [go_sem, ↓reduceIte, Nat.reduceLT, Nat.reduceEqDiff, Nat.reduceAdd, Nat.reduceLeDiff, Nat.reduceMul, Nat.reduceSub, Int.natCast_zero, Int.ofNat_zero, Int.natCast_one, Int.cast_ofNat_Int, bne_self_eq_false, beq_self_eq_true, Int.reduceBEq, Int.reduceBNe, Bool.not_true, Bool.not_false, r1, r6, r8, r10, r12, r14, r15, t1, t2, t3, t4]
                      refine ⟨⟨_, _, false, jx, kx, sjx, skx, hB2, okx, by rw [qx]; exact q4, hps2, ?_, ?_, ?_, ?_, ?_⟩, ?_⟩ <;> simp -implicitDefEqProofs only [go_sem, ↓reduceIte, Nat.reduceLT, Nat.reduceEqDiff, Nat.reduceAdd, Nat.reduceLeDiff, Nat.reduceMul, Nat.reduceSub, Int.natCast_zero, Int.ofNat_zero, Int.natCast_one, Int.cast_ofNat_Int, bne_self_eq_false, beq_self_eq_true, Int.reduceBEq, Int.reduceBNe, Bool.not_true, Bool.not_false, r1, r6, r8, r10, r12, r14, r15]
                    · rw [if_neg hc0] at hJ hJ2
                      subst hJ; subst hJ2
                      have hB2 := hB4.disks hdx kpx hey kpy
                      simp -implicitDefEqProofs only [go_sem, ↓reduceIte, Nat.reduceLT, Nat.reduceEqDiff, Nat.reduceAdd, Nat.reduceLeDiff, Nat.reduceMul, Nat.reduceSub, Int.natCast_zero, Int.ofNat_zero, Int.natCast_one, Int.cast_ofNat_Int, bne_self_eq_false, beq_self_eq_true, Int.reduceBEq, Int.reduceBNe, Bool.not_true, Bool.not_false, r1, r6, r8, r10, r12, r14, r15, t1, t2, t3, t4]
                      refine ⟨⟨_, ps, down, jid, kid, sj, sk, hB2, okx, by rw [qx]; exact q4, hps', ?_, ?_, ?_, ?_, ?_⟩, ?_⟩ <;> simp -implicitDefEqProofs only [go_sem, ↓reduceIte, Nat.reduceLT, Nat.reduceEqDiff, Nat.reduceAdd, Nat.reduceLeDiff, Nat.reduceMul, Nat.reduceSub, Int.natCast_zero, Int.ofNat_zero, Int.natCast_one, Int.cast_ofNat_Int, bne_self_eq_false, beq_self_eq_true, Int.reduceBEq, Int.reduceBNe, Bool.not_true, Bool.not_false, r1, r6, r8, r10, r12, r14, r15]

                  · have t4 : (q.kind == 4) = false := by simp [k4]
                    simp -implicitDefEqProofs only [go_sem, ↓reduceIte, Nat.reduceLT, Nat.reduceEqDiff, Nat.reduceAdd, Nat.reduceLeDiff, Nat.reduceMul, Nat.reduceSub, Int.natCast_zero, Int.ofNat_zero, Int.natCast_one, Int.cast_ofNat_Int, bne_self_eq_false, beq_self_eq_true, Int.reduceBEq, Int.reduceBNe, Bool.not_true, Bool.not_false, r1, r6, r8, r10, r12, r14, r15, get_map, hqe, Ask.av, t1, t2, t3, t4]
                    refine ⟨⟨_, ps, down, jid, kid, sj, sk, hB, hok, hdq, hps', ?_, ?_, ?_, ?_, ?_⟩, ?_⟩ <;> simp -implicitDefEqProofs only [go_sem, ↓reduceIte, Nat.reduceLT, Nat.reduceEqDiff, Nat.reduceAdd, Nat.reduceLeDiff, Nat.reduceMul, Nat.reduceSub, Int.natCast_zero, Int.ofNat_zero, Int.natCast_one, Int.cast_ofNat_Int, bne_self_eq_false, beq_self_eq_true, Int.reduceBEq, Int.reduceBNe, Bool.not_true, Bool.not_false, r1, r6, r8, r10, r12, r14, r15]
          · clear hB hok hdq hps hps' r1 r6 r8 r10 r12 r14 r15
            rintro ρ g ⟨⟨d, ps, down, jid, kid, sj, sk, hB, hok, hdq, hps, r1, r6, r8, r10, r12⟩, r14⟩
            refine .vc hU hm ?_
            obtain ⟨yk, xk, hk0, hkg, hkr⟩ := hB.j2
            obtain ⟨qk, rfl⟩ := hkg.row
            obtain ⟨yb, hyb, hyb2⟩ := hB.d2
            have hne := obj_ne hk0 hyb (by decide)
            have hybc := hyb
            simp only [D.cells] at hybc
            obtain ⟨HM, hH1, hH2, hHs⟩ : ∃ HM : Heap, HM kid = g kid ∧ HM id2 = g id2 ∧ ∀ g', Ab.Sub g g' → Ab.Sub HM g' := by
              refine ⟨fun j => if j = kid then g kid else if j = id2 then g id2 else none, by simp, by simp [hne.symm], fun g' hs j b hj => ?_⟩
              simp only at hj
              split at hj
              · rename_i e; subst e; exact hs _ _ hj
              · split at hj
                · rename_i e; subst e; exact hs _ _ hj
                · cases hj
            rw [hk0] at hH1
            rw [hybc] at hH2
            simp -implicitDefEqProofs only [go_sem, ↓reduceIte, Nat.reduceLT, Nat.reduceEqDiff, Nat.reduceAdd, Nat.reduceLeDiff, Nat.reduceMul, Nat.reduceSub, Int.natCast_zero, Int.ofNat_zero, Int.natCast_one, Int.cast_ofNat_Int, bne_self_eq_false, beq_self_eq_true, Int.reduceBEq, Int.reduceBNe, Bool.not_true, Bool.not_false, r1, r6, r8, r10, r12, r14]
            refine .calls HM [0, 2, 3, 4, 5, 1, 6, 7, 8, 9, 11, 12, 13, 14, 10, 15, 16, 17, 18, 20, 21, 22, 23, 19, 24, 25, 26, 27, 28, 30, 31, 32, 33, 29, 34, 35] (hHs _ (.refl g)) (by kernel_rfl) rfl ?_
            simp -implicitDefEqProofs only [go_sem, ↓reduceIte, Nat.reduceLT, Nat.reduceEqDiff, Nat.reduceAdd, Nat.reduceLeDiff, Nat.reduceMul, Nat.reduceSub, Int.natCast_zero, Int.ofNat_zero, Int.natCast_one, Int.cast_ofNat_Int, bne_self_eq_false, beq_self_eq_true, Int.reduceBEq, Int.reduceBNe, Bool.not_true, Bool.not_false, r1, r6, r8, r10, r12, r14, hH1]
            refine (records_ok jid id ps down sj g hB.j1 (by have := hps.n; omega) hps.p').mono fun r g1 ⟨q1, e1, hs1⟩ => ?_
            subst e1
            refine ⟨hHs _ hs1, ?_⟩
            simp -implicitDefEqProofs only [go_sem, ↓reduceIte, Nat.reduceLT, Nat.reduceEqDiff, Nat.reduceAdd, Nat.reduceLeDiff, Nat.reduceMul, Nat.reduceSub, Int.natCast_zero, Int.ofNat_zero, Int.natCast_one, Int.cast_ofNat_Int, bne_self_eq_false, beq_self_eq_true, Int.reduceBEq, Int.reduceBNe, Bool.not_true, Bool.not_false, r1, r6, r8, r10, r12, r14, hH1]
            refine (rows_ok (.sl [] .no) (.sl [] .no) _ _ q1 qk ps ps g1 (rows_of _ g1) (hkr g1) (by have := hps.n; omega) hps.p').pthen ?_
            rw [decide_eq_true rfl]
            refine ⟨hHs _ hs1, ?_⟩
            simp -implicitDefEqProofs only [go_sem, ↓reduceIte, Nat.reduceLT, Nat.reduceEqDiff, Nat.reduceAdd, Nat.reduceLeDiff, Nat.reduceMul, Nat.reduceSub, Int.natCast_zero, Int.ofNat_zero, Int.natCast_one, Int.cast_ofNat_Int, bne_self_eq_false, beq_self_eq_true, Int.reduceBEq, Int.reduceBNe, Bool.not_true, Bool.not_false, r1, r6, r8, r10, r12, r14, hH1]
            have hB1 := hB.sub hs1
            refine (down_ok jid id ps down sj g1 hB1.j1).pthen ?_
            refine ⟨hHs _ hs1, ?_⟩
            simp -implicitDefEqProofs only [go_sem, ↓reduceIte, Nat.reduceLT, Nat.reduceEqDiff, Nat.reduceAdd, Nat.reduceLeDiff, Nat.reduceMul, Nat.reduceSub, Int.natCast_zero, Int.ofNat_zero, Int.natCast_one, Int.cast_ofNat_Int, bne_self_eq_false, beq_self_eq_true, Int.reduceBEq, Int.reduceBNe, Bool.not_true, Bool.not_false, r1, r6, r8, r10, r12, r14, hH1, hH2]
            refine (read_ok' d hok id g1 hB1.d1).pthen ?_
            refine ⟨hHs _ hs1, ?_⟩
            simp -implicitDefEqProofs only [go_sem, ↓reduceIte, Nat.reduceLT, Nat.reduceEqDiff, Nat.reduceAdd, Nat.reduceLeDiff, Nat.reduceMul, Nat.reduceSub, Int.natCast_zero, Int.ofNat_zero, Int.natCast_one, Int.cast_ofNat_Int, bne_self_eq_false, beq_self_eq_true, Int.reduceBEq, Int.reduceBNe, Bool.not_true, Bool.not_false, r1, r6, r8, r10, r12, r14, hH1, hH2]
            refine (same_ok _ yb d.b d.b g1 (.sl _ _) (hyb2.sub hs1) (by have := hok.1; omega)).pthen ?_
            refine ⟨hHs _ hs1, ?_⟩
            simp -implicitDefEqProofs only [go_sem, ↓reduceIte, Nat.reduceLT, Nat.reduceEqDiff, Nat.reduceAdd, Nat.reduceLeDiff, Nat.reduceMul, Nat.reduceSub, Int.natCast_zero, Int.ofNat_zero, Int.natCast_one, Int.cast_ofNat_Int, bne_self_eq_false, beq_self_eq_true, Int.reduceBEq, Int.reduceBNe, Bool.not_true, Bool.not_false, r1, r6, r8, r10, r12, r14, hH1, hH2, decide_true]
            refine (off_ok' d id g1 hB1.d1).pthen ?_
            refine ⟨hHs _ hs1, ?_⟩
            simp -implicitDefEqProofs only [go_sem, ↓reduceIte, Nat.reduceLT, Nat.reduceEqDiff, Nat.reduceAdd, Nat.reduceLeDiff, Nat.reduceMul, Nat.reduceSub, Int.natCast_zero, Int.ofNat_zero, Int.natCast_one, Int.cast_ofNat_Int, bne_self_eq_false, beq_self_eq_true, Int.reduceBEq, Int.reduceBNe, Bool.not_true, Bool.not_false, r1, r6, r8, r10, r12, r14, hH1, hH2, decide_true]
            refine ⟨⟨d, ps, down, jid, kid, sj, sk, hB1, hok, hdq, hps, ?_, ?_, ?_, ?_, ?_⟩, ?_⟩ <;> simp -implicitDefEqProofs only [go_sem, ↓reduceIte, Nat.reduceLT, Nat.reduceEqDiff, Nat.reduceAdd, Nat.reduceLeDiff, Nat.reduceMul, Nat.reduceSub, Int.natCast_zero, Int.ofNat_zero, Int.natCast_one, Int.cast_ofNat_Int, bne_self_eq_false, beq_self_eq_true, Int.reduceBEq, Int.reduceBNe, Bool.not_true, Bool.not_false, r1, r6, r8, r10, r12, r14]
        · rintro ρ g ⟨⟨d, ps, down, jid, kid, sj, sk, hB, hok, hdq, hps, r1, r6, r8, r10, r12⟩, r14⟩
          refine .vc hU hm ?_
          simp -implicitDefEqProofs only [go_sem, ↓reduceIte, Nat.reduceLT, Nat.reduceEqDiff, Nat.reduceAdd, Nat.reduceLeDiff, Nat.reduceMul, Nat.reduceSub, Int.natCast_zero, Int.ofNat_zero, Int.natCast_one, Int.cast_ofNat_Int, bne_self_eq_false, beq_self_eq_true, Int.reduceBEq, Int.reduceBNe, Bool.not_true, Bool.not_false, r14, w1]
          refine ⟨_, ?_, i + 1, ⟨d, ps, down, jid, kid, sj, sk, hB, hok, hdq, hps, ?_, ?_, ?_, ?_, ?_⟩, by omega, by omega, rfl, ?_⟩
          · omega
          all_goals simp -implicitDefEqProofs only [go_sem, ↓reduceIte, Nat.reduceLT, Nat.reduceEqDiff, Nat.reduceAdd, Nat.reduceLeDiff, Nat.reduceMul, Nat.reduceSub, Int.natCast_zero, Int.ofNat_zero, Int.natCast_one, Int.cast_ofNat_Int, bne_self_eq_false, beq_self_eq_true, Int.reduceBEq, Int.reduceBNe, Bool.not_true, Bool.not_false, r1, r6, r8, r10, r12, r14, w1]
      · have exit : (decide ((i : Int) < (l.length : Int)) = false) ∨ (decide ((i : Int) < (l.length : Int)) = true ∧ decide ((i : Int) < 40) = false) := by
          by_cases h1 : i < l.length
          · exact .inr ⟨decide_eq_true (by omega), decide_eq_false (by omega)⟩
          · exact .inl (decide_eq_false (by omega))
        refine .vc hU hm ?_
        rcases exit with d1 | ⟨d1, d2⟩
        · simp -implicitDefEqProofs only [go_sem, ↓reduceIte, Nat.reduceLT, Nat.reduceEqDiff, Nat.reduceAdd, Nat.reduceLeDiff, Nat.reduceMul, Nat.reduceSub, Int.natCast_zero, Int.ofNat_zero, Int.natCast_one, Int.cast_ofNat_Int, bne_self_eq_false, beq_self_eq_true, Int.reduceBEq, Int.reduceBNe, Bool.not_true, Bool.not_false, r1, r14, List.length_map, d1]
          exact KCut.at trivial
        · simp -implicitDefEqProofs only [go_sem, ↓reduceIte, Nat.reduceLT, Nat.reduceEqDiff, Nat.reduceAdd, Nat.reduceLeDiff, Nat.reduceMul, Nat.reduceSub, Int.natCast_zero, Int.ofNat_zero, Int.natCast_one, Int.cast_ofNat_Int, bne_self_eq_false, beq_self_eq_true, Int.reduceBEq, Int.reduceBNe, Bool.not_true, Bool.not_false, r1, r14, List.length_map, d1, d2]
          exact KCut.at trivial
  rintro ρ g -
  refine .vc hU hm ?_
  simp -implicitDefEqProofs only [go_sem, ↓reduceIte, Nat.reduceLT, Nat.reduceEqDiff, Nat.reduceAdd, Nat.reduceLeDiff, Nat.reduceMul, Nat.reduceSub, Int.natCast_zero, Int.ofNat_zero, Int.natCast_one, Int.cast_ofNat_Int, bne_self_eq_false, beq_self_eq_true, Int.reduceBEq, Int.reduceBNe, Bool.not_true, Bool.not_false]
  refine (journalRuns_ok g).sthen fun g7 _ => ?_
  simp -implicitDefEqProofs only [go_sem, ↓reduceIte, Nat.reduceLT, Nat.reduceEqDiff, Nat.reduceAdd, Nat.reduceLeDiff, Nat.reduceMul, Nat.reduceSub, Int.natCast_zero, Int.ofNat_zero, Int.natCast_one, Int.cast_ofNat_Int, bne_self_eq_false, beq_self_eq_true, Int.reduceBEq, Int.reduceBNe, Bool.not_true, Bool.not_false]
  exact .same (.refl _) rfl

theorem journalPlays_law (x0 x1 : AV) (d0 : Dat U 3 x0) (d1 : Dat U 66 x1) : FnOK Try.prog 14 [x0, x1] noHeap fun r _ => r = .v (.bool true) := by
  obtain ⟨n, rfl, hn⟩ := d0.i64 rfl
  obtain ⟨l, rfl, h1, h2⟩ := asks_of d1 rfl rfl rfl rfl rfl
  exact journalPlays_ok n l h1 hn h2 noHeap
end Go.Proofs.Ytidpcjblciompaa
