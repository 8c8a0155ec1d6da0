/- The law DiskPlays. -/
import Derived.Test.YtidpcjblciompaaC14
set_option linter.unusedSimpArgs false
set_option linter.unusedVariables false
namespace Go.Proofs.Ytidpcjblciompaa
open Go Go.Ab

theorem arm_any (d : D) (n : Int) (id : Nat) (h : Heap) (hd : DiskAt h id d) : FnOK Try.prog 22 [.ptr id 0, .v (.int .i64 n)] h fun r h' => DiskAt h' id { d with f := n.toNat } ∧ Keep id h h' := by
  obtain ⟨y, h1, h2⟩ := hd
  refine (arm_ok d n id h y h1).mono fun r h' e => ?_
  subst e
  exact ⟨⟨y, upd_same .., h2.set h1⟩, Keep.upd _ _⟩

set_option maxHeartbeats 8000000 in
set_option maxRecDepth 20000 in
theorem diskPlays_ok (qu : Int) (l : List Ask) (hl : l.length ≤ maxLen) (b1 : i64B qu) (b2 : ∀ q ∈ l, q.ok) (h : Heap) :
    FnOK Try.prog 9 [iA qu, .sl (l.map Ask.av) .no] h fun r _ => r = .v (.bool true) := by
  unfold maxLen at hl
  refine FnOK.body hU hm Try.func9 rfl (by kernel_rfl) 171 rfl [.tmp 4] rfl (Nat.le_of_ble_eq_true rfl) (fun hwf => ?_)
  by_cases hq : qu < 0 ∨ 1048576 < qu
  · simp only [go_sem, ↓reduceIte, Nat.reduceLT, Nat.reduceEqDiff, Nat.reduceAdd, Nat.reduceLeDiff, Nat.reduceMul, Nat.reduceSub, Int.natCast_zero, Int.ofNat_zero, Int.natCast_one, Int.cast_ofNat_Int, bne_self_eq_false, beq_self_eq_true, Int.reduceBEq, Int.reduceBNe, Bool.not_true, Bool.not_false]
    refine (new_bad qu hq h).pthen ?_
    simp only [go_sem, ↓reduceIte, Nat.reduceLT, Nat.reduceEqDiff, Nat.reduceAdd, Nat.reduceLeDiff, Nat.reduceMul, Nat.reduceSub, Int.natCast_zero, Int.ofNat_zero, Int.natCast_one, Int.cast_ofNat_Int, bne_self_eq_false, beq_self_eq_true, Int.reduceBEq, Int.reduceBNe, Bool.not_true, Bool.not_false]
    refine (rnew_bad qu hq h).pthen ?_
    simp only [go_sem, ↓reduceIte, Nat.reduceLT, Nat.reduceEqDiff, Nat.reduceAdd, Nat.reduceLeDiff, Nat.reduceMul, Nat.reduceSub, Int.natCast_zero, Int.ofNat_zero, Int.natCast_one, Int.cast_ofNat_Int, bne_self_eq_false, beq_self_eq_true, Int.reduceBEq, Int.reduceBNe, Bool.not_true, Bool.not_false]
    refine .intro (fun m ρ h' => lk ρ 1 = some (.sl (l.map Ask.av) .no) ∧ lk ρ 5 = some (.v (.pointer none)) ∧ lk ρ 9 = some (.v (.int .i64 0))) 0 ?_ ?_
    · refine ⟨?_, ?_, ?_⟩ <;> simp only [go_sem, ↓reduceIte, Nat.reduceLT, Nat.reduceEqDiff, Nat.reduceAdd, Nat.reduceLeDiff, Nat.reduceMul, Nat.reduceSub, Int.natCast_zero, Int.ofNat_zero, Int.natCast_one, Int.cast_ofNat_Int, bne_self_eq_false, beq_self_eq_true, Int.reduceBEq, Int.reduceBNe, Bool.not_true, Bool.not_false]
    · rintro m ρ h' ⟨r1, r5, r9⟩
      by_cases hc : 0 < l.length
      · have d1 : decide ((0 : Int) < (l.length : Int)) = true := decide_eq_true (by omega)
        have d2 : decide ((0 : Int) < 60) = true := by decide
        simp only [go_sem, ↓reduceIte, Nat.reduceLT, Nat.reduceEqDiff, Nat.reduceAdd, Nat.reduceLeDiff, Nat.reduceMul, Nat.reduceSub, Int.natCast_zero, Int.ofNat_zero, Int.natCast_one, Int.cast_ofNat_Int, bne_self_eq_false, beq_self_eq_true, Int.reduceBEq, Int.reduceBNe, Bool.not_true, Bool.not_false, r1, r5, r9, List.length_map, d1, d2]
        refine (diskRuns_ok _).sthen fun h6 _ => ?_
        simp only [go_sem, ↓reduceIte, Nat.reduceLT, Nat.reduceEqDiff, Nat.reduceAdd, Nat.reduceLeDiff, Nat.reduceMul, Nat.reduceSub]
        exact .same (.refl _) rfl
      · have d1 : decide ((0 : Int) < (l.length : Int)) = false := decide_eq_false (by omega)
        simp only [go_sem, ↓reduceIte, Nat.reduceLT, Nat.reduceEqDiff, Nat.reduceAdd, Nat.reduceLeDiff, Nat.reduceMul, Nat.reduceSub, Int.natCast_zero, Int.ofNat_zero, Int.natCast_one, Int.cast_ofNat_Int, bne_self_eq_false, beq_self_eq_true, Int.reduceBEq, Int.reduceBNe, Bool.not_true, Bool.not_false, r1, r5, r9, List.length_map, d1]
        refine (diskRuns_ok _).sthen fun h6 _ => ?_
        simp only [go_sem, ↓reduceIte, Nat.reduceLT, Nat.reduceEqDiff, Nat.reduceAdd, Nat.reduceLeDiff, Nat.reduceMul, Nat.reduceSub]
        exact .same (.refl _) rfl
  · obtain ⟨Q, rfl⟩ := Int.eq_ofNat_of_zero_le (show 0 ≤ qu by omega)
    have hQ : Q ≤ 1048576 := by omega
    simp only [go_sem, ↓reduceIte, Nat.reduceLT, Nat.reduceEqDiff, Nat.reduceAdd, Nat.reduceLeDiff, Nat.reduceMul, Nat.reduceSub, Int.natCast_zero, Int.ofNat_zero, Int.natCast_one, Int.cast_ofNat_Int, bne_self_eq_false, beq_self_eq_true, Int.reduceBEq, Int.reduceBNe, Bool.not_true, Bool.not_false]
    refine (new_ok Q hQ h).mono fun r h1 ⟨id, hid, e1, hd0, hs0⟩ => ?_
    subst e1
    simp only [go_sem, ↓reduceIte, Nat.reduceLT, Nat.reduceEqDiff, Nat.reduceAdd, Nat.reduceLeDiff, Nat.reduceMul, Nat.reduceSub, Int.natCast_zero, Int.ofNat_zero, Int.natCast_one, Int.cast_ofNat_Int, bne_self_eq_false, beq_self_eq_true, Int.reduceBEq, Int.reduceBNe, Bool.not_true, Bool.not_false]
    refine (rnew_ok Q hQ h1).mono fun r h2 ⟨id2, hid2, e1, he0, hs1⟩ => ?_
    subst e1
    have hd1 := hd0.keep hs1.keepObj
    have a0 : D.ok ⟨Q, [], 0, 0, false⟩ := ⟨by show 0 ≤ Q; omega, by show Q ≤ 1048576; omega, by show 0 ≤ 0; decide, by show 0 < _; decide⟩
    simp only [go_sem, ↓reduceIte, Nat.reduceLT, Nat.reduceEqDiff, Nat.reduceAdd, Nat.reduceLeDiff, Nat.reduceMul, Nat.reduceSub, Int.natCast_zero, Int.ofNat_zero, Int.natCast_one, Int.cast_ofNat_Int, bne_self_eq_false, beq_self_eq_true, Int.reduceBEq, Int.reduceBNe, Bool.not_true, Bool.not_false]
    refine .intro (fun m ρ h' => ∃ (i : Nat) (d : D), DiskAt h' id d ∧ RefAt h' id2 d ∧ d.ok ∧ i ≤ 60 ∧ i ≤ l.length ∧ m = l.length - i ∧ lk ρ 1 = some (.sl (l.map Ask.av) .no) ∧ lk ρ 5 = some (.ptr id 0) ∧ lk ρ 7 = some (.ptr id2 0) ∧ lk ρ 9 = some (.v (.int .i64 i))) l.length ?_ ?_
    · refine ⟨0, _, hd1, he0, a0, by omega, by omega, rfl, ?_, ?_, ?_, ?_⟩ <;> simp only [go_sem, ↓reduceIte, Nat.reduceLT, Nat.reduceEqDiff, Nat.reduceAdd, Nat.reduceLeDiff, Nat.reduceMul, Nat.reduceSub, Int.natCast_zero, Int.ofNat_zero, Int.natCast_one, Int.cast_ofNat_Int, bne_self_eq_false, beq_self_eq_true, Int.reduceBEq, Int.reduceBNe, Bool.not_true, Bool.not_false]
    · rintro m ρ h' ⟨i, d, hd, he, ha, hi1, hi2, rfl, r1, r5, r7, r9⟩
      by_cases hc : i < l.length ∧ i < 60
      · obtain ⟨hc1, hc2⟩ := hc
        have d1 : decide ((i : Int) < (l.length : Int)) = true := decide_eq_true (by omega)
        have d2 : decide ((i : Int) < 60) = true := decide_eq_true (by omega)
        have w1 : IntKind.i64.wrap ((i : Int) + 1) = ((i + 1 : Nat) : Int) := by rw [wrap64 _ (by omega)]; omega
        have hq := b2 _ (List.getElem_mem hc1)
        obtain ⟨q, hqe⟩ : ∃ q, l[i] = q := ⟨_, rfl⟩
        rw [hqe] at hq
        simp only [go_sem, ↓reduceIte, Nat.reduceLT, Nat.reduceEqDiff, Nat.reduceAdd, Nat.reduceLeDiff, Nat.reduceMul, Nat.reduceSub, Int.natCast_zero, Int.ofNat_zero, Int.natCast_one, Int.cast_ofNat_Int, bne_self_eq_false, beq_self_eq_true, Int.reduceBEq, Int.reduceBNe, Bool.not_true, Bool.not_false, r1, r5, r7, r9, List.length_map, d1, d2]
        refine .at i (by simpa using hc1) (by rw [get_map]; rfl) ?_
        simp only [go_sem, ↓reduceIte, Nat.reduceLT, Nat.reduceEqDiff, Nat.reduceAdd, Nat.reduceLeDiff, Nat.reduceMul, Nat.reduceSub, Int.natCast_zero, Int.ofNat_zero, Int.natCast_one, Int.cast_ofNat_Int, bne_self_eq_false, beq_self_eq_true, Int.reduceBEq, Int.reduceBNe, Bool.not_true, Bool.not_false, r1, r5, r7, r9, get_map, hqe, Ask.av]
        intro id3 hid3
        have m40 : (if (40 : Int) < (q.bytes.length : Int) then (40 : Int) else (q.bytes.length : Int)) = ((min q.bytes.length 40 : Nat) : Int) := by split <;> omega
        simp only [go_sem, ↓reduceIte, Nat.reduceLT, Nat.reduceEqDiff, Nat.reduceAdd, Nat.reduceLeDiff, Nat.reduceMul, Nat.reduceSub, Int.natCast_zero, Int.ofNat_zero, Int.natCast_one, Int.cast_ofNat_Int, bne_self_eq_false, beq_self_eq_true, Int.reduceBEq, Int.reduceBNe, Bool.not_true, Bool.not_false, r1, r5, r7, r9, get_map, hqe, Ask.av, m40]
        refine ⟨by omega, by omega, ?_⟩
        have g1 : (q.bytes.take (min q.bytes.length 40)).length ≤ 40 := by rw [List.length_take]; omega
        obtain ⟨B, hB⟩ : ∃ B, q.bytes.take (min q.bytes.length 40) = B := ⟨_, rfl⟩
        rw [hB] at g1
        have hn3 : KeepObj h' (upd h' id3 (some (.obj [iA q.kind, iA q.a, iA q.b, .sl (q.bytes.map byteA) .no] 47))) := .new hid3
        have hg : upd h' id3 (some (.obj [iA q.kind, iA q.a, iA q.b, .sl (q.bytes.map byteA) .no] 47)) id3 = some (.obj [iA q.kind, iA q.a, iA q.b, .sl (q.bytes.map byteA) .no] 47) := upd_same ..
        have hd3 := hd.keep hn3
        have he3 := he.keepObj hn3
        have ne1 : id3 ≠ id := fun hh => by obtain ⟨y, hy, _⟩ := hd; rw [← hh, hid3] at hy; cases hy
        have ne2 : id3 ≠ id2 := fun hh => by obtain ⟨y, hy, _⟩ := he; rw [← hh, hid3] at hy; cases hy
        clear hd he hn3 hid3
        simp only [iA] at hg hd3 he3 ⊢
        generalize upd h' id3 (some (.obj [.v (.int .i64 q.kind), .v (.int .i64 q.a), .v (.int .i64 q.b), .sl (q.bytes.map byteA) .no] 47)) = g at hg hd3 he3 ⊢
        by_cases k1 : q.kind = 1
        · have t1 : (q.kind == 1) = true := by simp [k1]
          simp only [go_sem, ↓reduceIte, Nat.reduceLT, Nat.reduceEqDiff, Nat.reduceAdd, Nat.reduceLeDiff, Nat.reduceMul, Nat.reduceSub, Int.natCast_zero, Int.ofNat_zero, Int.natCast_one, Int.cast_ofNat_Int, bne_self_eq_false, beq_self_eq_true, Int.reduceBEq, Int.reduceBNe, Bool.not_true, Bool.not_false, r1, r5, r7, r9, hg, hB, t1]
          refine (roomy_ok (.sl (B.map byteA) .no) B 7 g (.sl B _) (by omega)).mono fun r ga ⟨id4, hid4, e1, e2⟩ => ?_
          have hn4 : KeepObj g ga := by rw [e2]; exact .new hid4
          have hfull : By ga r (roomed B 7) := by
            have hr : (roomed B 7).length = B.length + 80 := by simp only [roomed, List.length_append, List.length_replicate]
            rw [e1, ← hr]
            exact .oa (cs := (roomed B 7).map byteA) (by rw [e2, upd_same]) (by rw [List.length_map]; omega) (by rw [List.drop_zero, List.take_of_length_le (by rw [List.length_map]; exact Nat.le_refl _)])
          have hd4 := hd3.keep hn4
          have he4 := he3.keepObj hn4
          clear e1 e2
          simp only [go_sem, ↓reduceIte, Nat.reduceLT, Nat.reduceEqDiff, Nat.reduceAdd, Nat.reduceLeDiff, Nat.reduceMul, Nat.reduceSub, Int.natCast_zero, Int.ofNat_zero, Int.natCast_one, Int.cast_ofNat_Int, bne_self_eq_false, beq_self_eq_true, Int.reduceBEq, Int.reduceBNe, Bool.not_true, Bool.not_false, r1, r5, r7, r9, hB]
          refine hfull.take (m := B.length) (x := .i64) B.length ?_ rfl (by simp only [roomed, List.length_append]; omega) u5 fun z hz => ?_
          · simp only [go_sem, ↓reduceIte, Nat.reduceLT, Nat.reduceEqDiff, Nat.reduceAdd, Nat.reduceLeDiff, Nat.reduceMul, Nat.reduceSub]
          have ht : (roomed B 7).take B.length = B := by rw [roomed, List.take_left]
          rw [ht] at hz
          simp only [go_sem, ↓reduceIte, Nat.reduceLT, Nat.reduceEqDiff, Nat.reduceAdd, Nat.reduceLeDiff, Nat.reduceMul, Nat.reduceSub, Int.natCast_zero, Int.ofNat_zero, Int.natCast_one, Int.cast_ofNat_Int, bne_self_eq_false, beq_self_eq_true, Int.reduceBEq, Int.reduceBNe, Bool.not_true, Bool.not_false, r1, r5, r7, r9, hB]
          refine dthen (append_ok d ha id ga z B hd4 hz (by omega)) fun gb hd5 kp1 => ?_
          have he5 := he4.keepDisk hd4 kp1
          have hf5 : By gb r (roomed B 7) := by obtain ⟨y, hy, _⟩ := hd4; exact hfull.keep kp1 hy (by decide)
          simp only [go_sem, ↓reduceIte, Nat.reduceLT, Nat.reduceEqDiff, Nat.reduceAdd, Nat.reduceLeDiff, Nat.reduceMul, Nat.reduceSub, Int.natCast_zero, Int.ofNat_zero, Int.natCast_one, Int.cast_ofNat_Int, bne_self_eq_false, beq_self_eq_true, Int.reduceBEq, Int.reduceBNe, Bool.not_true, Bool.not_false, r1, r5, r7, r9, hB]
          refine ethen (rappend_ok d ha id2 gb _ B he5 (.sl B _) (by omega)) fun gc he6 kp2 => ?_
          have hd6 := hd5.keepRef he5 kp2
          have hf6 : By gc r (roomed B 7) := by obtain ⟨y, hy, _⟩ := he5; exact hf5.keep kp2 hy (by decide)
          have ok6 := D.append_ok ha B
          simp only [go_sem, ↓reduceIte, Nat.reduceLT, Nat.reduceEqDiff, Nat.reduceAdd, Nat.reduceLeDiff, Nat.reduceMul, Nat.reduceSub, Int.natCast_zero, Int.ofNat_zero, Int.natCast_one, Int.cast_ofNat_Int, bne_self_eq_false, beq_self_eq_true, Int.reduceBEq, Int.reduceBNe, Bool.not_true, Bool.not_false, r1, r5, r7, r9, hB]
          refine (intact_ok _ _ B 7 gc hf6 (.sl B _) (by omega)).pthen ?_
          generalize (d.append B).1 = D1 at hd6 he6 ok6
          simp only [go_sem, ↓reduceIte, Nat.reduceLT, Nat.reduceEqDiff, Nat.reduceAdd, Nat.reduceLeDiff, Nat.reduceMul, Nat.reduceSub, Int.natCast_zero, Int.ofNat_zero, Int.natCast_one, Int.cast_ofNat_Int, bne_self_eq_false, beq_self_eq_true, Int.reduceBEq, Int.reduceBNe, Bool.not_true, Bool.not_false, r1, r5, r7, r9, hB]
          obtain ⟨y, hy0, hy2⟩ := he6
          have hy1 := hy0
          simp only [D.cells] at hy1
          have wF : IntKind.i64.wrap ((D1.q : Int) - (D1.b.length : Int)) = ((D1.q - D1.b.length : Nat) : Int) := by have := ok6.1; have := ok6.2.1; rw [wrap64 _ (by omega)]; omega
          refine .quiet (by kernel_rfl) ?_
          simp only [go_sem, ↓reduceIte, Nat.reduceLT, Nat.reduceEqDiff, Nat.reduceAdd, Nat.reduceLeDiff, Nat.reduceMul, Nat.reduceSub, Int.natCast_zero, Int.ofNat_zero, Int.natCast_one, Int.cast_ofNat_Int, bne_self_eq_false, beq_self_eq_true, Int.reduceBEq, Int.reduceBNe, Bool.not_true, Bool.not_false, r1, r5, r7, r9, hy1]
          refine ⟨_, read_ok' D1 ok6 id gc hd6, ?_⟩
          simp only [go_sem, ↓reduceIte, Nat.reduceLT, Nat.reduceEqDiff, Nat.reduceAdd, Nat.reduceLeDiff, Nat.reduceMul, Nat.reduceSub, Int.natCast_zero, Int.ofNat_zero, Int.natCast_one, Int.cast_ofNat_Int, bne_self_eq_false, beq_self_eq_true, Int.reduceBEq, Int.reduceBNe, Bool.not_true, Bool.not_false, r1, r5, r7, r9, hy1, decide_true]
          refine ⟨_, same_ok _ y D1.b D1.b gc (.sl _ _) hy2 (by have := ok6.1; have := ok6.2.1; omega), ?_⟩
          simp only [go_sem, ↓reduceIte, Nat.reduceLT, Nat.reduceEqDiff, Nat.reduceAdd, Nat.reduceLeDiff, Nat.reduceMul, Nat.reduceSub, Int.natCast_zero, Int.ofNat_zero, Int.natCast_one, Int.cast_ofNat_Int, bne_self_eq_false, beq_self_eq_true, Int.reduceBEq, Int.reduceBNe, Bool.not_true, Bool.not_false, r1, r5, r7, r9, hy1, decide_true]
          refine ⟨_, len_ok' D1 id gc hd6, ?_⟩
          simp only [go_sem, ↓reduceIte, Nat.reduceLT, Nat.reduceEqDiff, Nat.reduceAdd, Nat.reduceLeDiff, Nat.reduceMul, Nat.reduceSub, Int.natCast_zero, Int.ofNat_zero, Int.natCast_one, Int.cast_ofNat_Int, bne_self_eq_false, beq_self_eq_true, Int.reduceBEq, Int.reduceBNe, Bool.not_true, Bool.not_false, r1, r5, r7, r9, hy1, hy2.len]
          refine ⟨_, free_ok' D1 ok6 id gc hd6, ?_⟩
          simp only [go_sem, ↓reduceIte, Nat.reduceLT, Nat.reduceEqDiff, Nat.reduceAdd, Nat.reduceLeDiff, Nat.reduceMul, Nat.reduceSub, Int.natCast_zero, Int.ofNat_zero, Int.natCast_one, Int.cast_ofNat_Int, bne_self_eq_false, beq_self_eq_true, Int.reduceBEq, Int.reduceBNe, Bool.not_true, Bool.not_false, r1, r5, r7, r9, hy1, hy2.len, wF]
          refine ⟨_, off_ok' D1 id gc hd6, ?_⟩
          simp only [go_sem, ↓reduceIte, Nat.reduceLT, Nat.reduceEqDiff, Nat.reduceAdd, Nat.reduceLeDiff, Nat.reduceMul, Nat.reduceSub, Int.natCast_zero, Int.ofNat_zero, Int.natCast_one, Int.cast_ofNat_Int, bne_self_eq_false, beq_self_eq_true, Int.reduceBEq, Int.reduceBNe, Bool.not_true, Bool.not_false, r1, r5, r7, r9, hy1, hy2.len, w1]
          refine ⟨_, ?_, i + 1, D1, hd6, ⟨y, hy0, hy2⟩, ok6, by omega, by omega, rfl, ?_, ?_, ?_, ?_⟩
          · omega
          all_goals simp only [go_sem, ↓reduceIte, Nat.reduceLT, Nat.reduceEqDiff, Nat.reduceAdd, Nat.reduceLeDiff, Nat.reduceMul, Nat.reduceSub, Int.natCast_zero, Int.ofNat_zero, Int.natCast_one, Int.cast_ofNat_Int, bne_self_eq_false, beq_self_eq_true, Int.reduceBEq, Int.reduceBNe, Bool.not_true, Bool.not_false, r1, r5, r7, r9, hy1, w1]
        · have t1 : (q.kind == 1) = false := by simp [k1]
          by_cases k2 : q.kind = 2
          · have t2 : (q.kind == 2) = true := by simp [k2]
            simp only [go_sem, ↓reduceIte, Nat.reduceLT, Nat.reduceEqDiff, Nat.reduceAdd, Nat.reduceLeDiff, Nat.reduceMul, Nat.reduceSub, Int.natCast_zero, Int.ofNat_zero, Int.natCast_one, Int.cast_ofNat_Int, bne_self_eq_false, beq_self_eq_true, Int.reduceBEq, Int.reduceBNe, Bool.not_true, Bool.not_false, r1, r5, r7, r9, hg, t1, t2]
            refine dthen (sync_ok d ha id g hd3) fun gb hd5 kp1 => ?_
            have he5 := he3.keepDisk hd3 kp1
            simp only [go_sem, ↓reduceIte, Nat.reduceLT, Nat.reduceEqDiff, Nat.reduceAdd, Nat.reduceLeDiff, Nat.reduceMul, Nat.reduceSub, Int.natCast_zero, Int.ofNat_zero, Int.natCast_one, Int.cast_ofNat_Int, bne_self_eq_false, beq_self_eq_true, Int.reduceBEq, Int.reduceBNe, Bool.not_true, Bool.not_false, r1, r5, r7, r9]
            refine ethen (rsync_ok d ha id2 gb he5) fun gc he6 kp2 => ?_
            have hd6 := hd5.keepRef he5 kp2
            have ok6 := D.sync_ok ha
            generalize hD : d.sync = D0 at hd6 he6 ok6 ⊢
            obtain ⟨D1, c1⟩ := D0
            simp only at hd6 he6 ok6 ⊢
            simp only [go_sem, ↓reduceIte, Nat.reduceLT, Nat.reduceEqDiff, Nat.reduceAdd, Nat.reduceLeDiff, Nat.reduceMul, Nat.reduceSub, Int.natCast_zero, Int.ofNat_zero, Int.natCast_one, Int.cast_ofNat_Int, bne_self_eq_false, beq_self_eq_true, Int.reduceBEq, Int.reduceBNe, Bool.not_true, Bool.not_false, r1, r5, r7, r9]
            obtain ⟨y, hy0, hy2⟩ := he6
            have hy1 := hy0
            simp only [D.cells] at hy1
            have wF : IntKind.i64.wrap ((D1.q : Int) - (D1.b.length : Int)) = ((D1.q - D1.b.length : Nat) : Int) := by have := ok6.1; have := ok6.2.1; rw [wrap64 _ (by omega)]; omega
            refine .quiet (by kernel_rfl) ?_
            simp only [go_sem, ↓reduceIte, Nat.reduceLT, Nat.reduceEqDiff, Nat.reduceAdd, Nat.reduceLeDiff, Nat.reduceMul, Nat.reduceSub, Int.natCast_zero, Int.ofNat_zero, Int.natCast_one, Int.cast_ofNat_Int, bne_self_eq_false, beq_self_eq_true, Int.reduceBEq, Int.reduceBNe, Bool.not_true, Bool.not_false, r1, r5, r7, r9, hy1]
            refine ⟨_, read_ok' D1 ok6 id gc hd6, ?_⟩
            simp only [go_sem, ↓reduceIte, Nat.reduceLT, Nat.reduceEqDiff, Nat.reduceAdd, Nat.reduceLeDiff, Nat.reduceMul, Nat.reduceSub, Int.natCast_zero, Int.ofNat_zero, Int.natCast_one, Int.cast_ofNat_Int, bne_self_eq_false, beq_self_eq_true, Int.reduceBEq, Int.reduceBNe, Bool.not_true, Bool.not_false, r1, r5, r7, r9, hy1, decide_true]
            refine ⟨_, same_ok _ y D1.b D1.b gc (.sl _ _) hy2 (by have := ok6.1; have := ok6.2.1; omega), ?_⟩
            simp only [go_sem, ↓reduceIte, Nat.reduceLT, Nat.reduceEqDiff, Nat.reduceAdd, Nat.reduceLeDiff, Nat.reduceMul, Nat.reduceSub, Int.natCast_zero, Int.ofNat_zero, Int.natCast_one, Int.cast_ofNat_Int, bne_self_eq_false, beq_self_eq_true, Int.reduceBEq, Int.reduceBNe, Bool.not_true, Bool.not_false, r1, r5, r7, r9, hy1, decide_true]
            refine ⟨_, len_ok' D1 id gc hd6, ?_⟩
            simp only [go_sem, ↓reduceIte, Nat.reduceLT, Nat.reduceEqDiff, Nat.reduceAdd, Nat.reduceLeDiff, Nat.reduceMul, Nat.reduceSub, Int.natCast_zero, Int.ofNat_zero, Int.natCast_one, Int.cast_ofNat_Int, bne_self_eq_false, beq_self_eq_true, Int.reduceBEq, Int.reduceBNe, Bool.not_true, Bool.not_false, r1, r5, r7, r9, hy1, hy2.len]
            refine ⟨_, free_ok' D1 ok6 id gc hd6, ?_⟩
            simp only [go_sem, ↓reduceIte, Nat.reduceLT, Nat.reduceEqDiff, Nat.reduceAdd, Nat.reduceLeDiff, Nat.reduceMul, Nat.reduceSub, Int.natCast_zero, Int.ofNat_zero, Int.natCast_one, Int.cast_ofNat_Int, bne_self_eq_false, beq_self_eq_true, Int.reduceBEq, Int.reduceBNe, Bool.not_true, Bool.not_false, r1, r5, r7, r9, hy1, hy2.len, wF]
            refine ⟨_, off_ok' D1 id gc hd6, ?_⟩
            simp only [go_sem, ↓reduceIte, Nat.reduceLT, Nat.reduceEqDiff, Nat.reduceAdd, Nat.reduceLeDiff, Nat.reduceMul, Nat.reduceSub, Int.natCast_zero, Int.ofNat_zero, Int.natCast_one, Int.cast_ofNat_Int, bne_self_eq_false, beq_self_eq_true, Int.reduceBEq, Int.reduceBNe, Bool.not_true, Bool.not_false, r1, r5, r7, r9, hy1, hy2.len, w1]
            refine ⟨_, ?_, i + 1, D1, hd6, ⟨y, hy0, hy2⟩, ok6, by omega, by omega, rfl, ?_, ?_, ?_, ?_⟩
            · omega
            all_goals simp only [go_sem, ↓reduceIte, Nat.reduceLT, Nat.reduceEqDiff, Nat.reduceAdd, Nat.reduceLeDiff, Nat.reduceMul, Nat.reduceSub, Int.natCast_zero, Int.ofNat_zero, Int.natCast_one, Int.cast_ofNat_Int, bne_self_eq_false, beq_self_eq_true, Int.reduceBEq, Int.reduceBNe, Bool.not_true, Bool.not_false, r1, r5, r7, r9, hy1, w1]
          · have t2 : (q.kind == 2) = false := by simp [k2]
            by_cases k3 : q.kind = 3
            · have t3 : (q.kind == 3) = true := by simp [k3]
              simp only [go_sem, ↓reduceIte, Nat.reduceLT, Nat.reduceEqDiff, Nat.reduceAdd, Nat.reduceLeDiff, Nat.reduceMul, Nat.reduceSub, Int.natCast_zero, Int.ofNat_zero, Int.natCast_one, Int.cast_ofNat_Int, bne_self_eq_false, beq_self_eq_true, Int.reduceBEq, Int.reduceBNe, Bool.not_true, Bool.not_false, r1, r5, r7, r9, hg, t1, t2, t3]
              refine .calls (hm1 id3 _) [0, 1, 2, 4, 5, 6, 3, 7, 8, 9] (.hm1 hg) (by kernel_rfl) rfl ?_
              simp only [go_sem, ↓reduceIte, Nat.reduceLT, Nat.reduceEqDiff, Nat.reduceAdd, Nat.reduceLeDiff, Nat.reduceMul, Nat.reduceSub, Int.natCast_zero, Int.ofNat_zero, Int.natCast_one, Int.cast_ofNat_Int, bne_self_eq_false, beq_self_eq_true, Int.reduceBEq, Int.reduceBNe, Bool.not_true, Bool.not_false, r1, r5, r7, r9, hg, t1, t2, t3]
              refine dthen (cut_ok d ha id g q.a hd3) fun gb hd5 kp1 => ?_
              have he5 := he3.keepDisk hd3 kp1
              have hg5 := kp1 _ _ ne1 hg
              simp only [go_sem, ↓reduceIte, Nat.reduceLT, Nat.reduceEqDiff, Nat.reduceAdd, Nat.reduceLeDiff, Nat.reduceMul, Nat.reduceSub, Int.natCast_zero, Int.ofNat_zero, Int.natCast_one, Int.cast_ofNat_Int, bne_self_eq_false, beq_self_eq_true, Int.reduceBEq, Int.reduceBNe, Bool.not_true, Bool.not_false, r1, r5, r7, r9, hg5]
              refine ⟨.hm1 hg5, ?_⟩
              refine ethen (rcut_ok d ha id2 gb q.a he5) fun gc he6 kp2 => ?_
              have hd6 := hd5.keepRef he5 kp2
              have ok6 := D.cut_ok ha q.a
              generalize hD : d.cut q.a = D0 at hd6 he6 ok6 ⊢
              obtain ⟨D1, c1⟩ := D0
              simp only at hd6 he6 ok6 ⊢
              refine ⟨.hm1 (kp2 _ _ ne2 hg5), ?_⟩
              simp only [go_sem, ↓reduceIte, Nat.reduceLT, Nat.reduceEqDiff, Nat.reduceAdd, Nat.reduceLeDiff, Nat.reduceMul, Nat.reduceSub, Int.natCast_zero, Int.ofNat_zero, Int.natCast_one, Int.cast_ofNat_Int, bne_self_eq_false, beq_self_eq_true, Int.reduceBEq, Int.reduceBNe, Bool.not_true, Bool.not_false, r1, r5, r7, r9]
              obtain ⟨y, hy0, hy2⟩ := he6
              have hy1 := hy0
              simp only [D.cells] at hy1
              have wF : IntKind.i64.wrap ((D1.q : Int) - (D1.b.length : Int)) = ((D1.q - D1.b.length : Nat) : Int) := by have := ok6.1; have := ok6.2.1; rw [wrap64 _ (by omega)]; omega
              refine .quiet (by kernel_rfl) ?_
              simp only [go_sem, ↓reduceIte, Nat.reduceLT, Nat.reduceEqDiff, Nat.reduceAdd, Nat.reduceLeDiff, Nat.reduceMul, Nat.reduceSub, Int.natCast_zero, Int.ofNat_zero, Int.natCast_one, Int.cast_ofNat_Int, bne_self_eq_false, beq_self_eq_true, Int.reduceBEq, Int.reduceBNe, Bool.not_true, Bool.not_false, r1, r5, r7, r9, hy1]
              refine ⟨_, read_ok' D1 ok6 id gc hd6, ?_⟩
              simp only [go_sem, ↓reduceIte, Nat.reduceLT, Nat.reduceEqDiff, Nat.reduceAdd, Nat.reduceLeDiff, Nat.reduceMul, Nat.reduceSub, Int.natCast_zero, Int.ofNat_zero, Int.natCast_one, Int.cast_ofNat_Int, bne_self_eq_false, beq_self_eq_true, Int.reduceBEq, Int.reduceBNe, Bool.not_true, Bool.not_false, r1, r5, r7, r9, hy1, decide_true]
              refine ⟨_, same_ok _ y D1.b D1.b gc (.sl _ _) hy2 (by have := ok6.1; have := ok6.2.1; omega), ?_⟩
              simp only [go_sem, ↓reduceIte, Nat.reduceLT, Nat.reduceEqDiff, Nat.reduceAdd, Nat.reduceLeDiff, Nat.reduceMul, Nat.reduceSub, Int.natCast_zero, Int.ofNat_zero, Int.natCast_one, Int.cast_ofNat_Int, bne_self_eq_false, beq_self_eq_true, Int.reduceBEq, Int.reduceBNe, Bool.not_true, Bool.not_false, r1, r5, r7, r9, hy1, decide_true]
              refine ⟨_, len_ok' D1 id gc hd6, ?_⟩
              simp only [go_sem, ↓reduceIte, Nat.reduceLT, Nat.reduceEqDiff, Nat.reduceAdd, Nat.reduceLeDiff, Nat.reduceMul, Nat.reduceSub, Int.natCast_zero, Int.ofNat_zero, Int.natCast_one, Int.cast_ofNat_Int, bne_self_eq_false, beq_self_eq_true, Int.reduceBEq, Int.reduceBNe, Bool.not_true, Bool.not_false, r1, r5, r7, r9, hy1, hy2.len]
              refine ⟨_, free_ok' D1 ok6 id gc hd6, ?_⟩
              simp only [go_sem, ↓reduceIte, Nat.reduceLT, Nat.reduceEqDiff, Nat.reduceAdd, Nat.reduceLeDiff, Nat.reduceMul, Nat.reduceSub, Int.natCast_zero, Int.ofNat_zero, Int.natCast_one, Int.cast_ofNat_Int, bne_self_eq_false, beq_self_eq_true, Int.reduceBEq, Int.reduceBNe, Bool.not_true, Bool.not_false, r1, r5, r7, r9, hy1, hy2.len, wF]
              refine ⟨_, off_ok' D1 id gc hd6, ?_⟩
              simp only [go_sem, ↓reduceIte, Nat.reduceLT, Nat.reduceEqDiff, Nat.reduceAdd, Nat.reduceLeDiff, Nat.reduceMul, Nat.reduceSub, Int.natCast_zero, Int.ofNat_zero, Int.natCast_one, Int.cast_ofNat_Int, bne_self_eq_false, beq_self_eq_true, Int.reduceBEq, Int.reduceBNe, Bool.not_true, Bool.not_false, r1, r5, r7, r9, hy1, hy2.len, w1]
              refine ⟨_, ?_, i + 1, D1, hd6, ⟨y, hy0, hy2⟩, ok6, by omega, by omega, rfl, ?_, ?_, ?_, ?_⟩
              · omega
              all_goals simp only [go_sem, ↓reduceIte, Nat.reduceLT, Nat.reduceEqDiff, Nat.reduceAdd, Nat.reduceLeDiff, Nat.reduceMul, Nat.reduceSub, Int.natCast_zero, Int.ofNat_zero, Int.natCast_one, Int.cast_ofNat_Int, bne_self_eq_false, beq_self_eq_true, Int.reduceBEq, Int.reduceBNe, Bool.not_true, Bool.not_false, r1, r5, r7, r9, hy1, w1]
            · have t3 : (q.kind == 3) = false := by simp [k3]
              by_cases k4 : q.kind = 4
              · have t4 : (q.kind == 4) = true := by simp [k4]
                simp only [go_sem, ↓reduceIte, Nat.reduceLT, Nat.reduceEqDiff, Nat.reduceAdd, Nat.reduceLeDiff, Nat.reduceMul, Nat.reduceSub, Int.natCast_zero, Int.ofNat_zero, Int.natCast_one, Int.cast_ofNat_Int, bne_self_eq_false, beq_self_eq_true, Int.reduceBEq, Int.reduceBNe, Bool.not_true, Bool.not_false, r1, r5, r7, r9, hg, t1, t2, t3, t4]
                refine (arm_any d q.a id g hd3).mono fun r gb ⟨hd5, kp1⟩ => ?_
                have he5 := he3.keepDisk hd3 kp1
                have hg5 := kp1 _ _ ne1 hg
                have mx : (if q.a < 0 then (0 : Int) else q.a) = (q.a.toNat : Int) := by split <;> omega
                obtain ⟨yb, hyb, hyb2⟩ := he5
                have hyb1 := hyb
                simp only [D.cells] at hyb1
                simp only [go_sem, ↓reduceIte, Nat.reduceLT, Nat.reduceEqDiff, Nat.reduceAdd, Nat.reduceLeDiff, Nat.reduceMul, Nat.reduceSub, Int.natCast_zero, Int.ofNat_zero, Int.natCast_one, Int.cast_ofNat_Int, bne_self_eq_false, beq_self_eq_true, Int.reduceBEq, Int.reduceBNe, Bool.not_true, Bool.not_false, r1, r5, r7, r9, hg5, mx, hyb1]
                have ok6 : D.ok { d with f := q.a.toNat } := ⟨ha.1, ha.2.1, ha.2.2.1, by have := hq.a.2; show q.a.toNat < _; omega⟩
                have kp2 : Keep id2 gb (upd gb id2 (some (.obj [.v (.int .i64 d.q), yb, .v (.int .i64 d.sy), .v (.int .i64 q.a.toNat), .v (.bool d.off)] 56))) := Keep.upd _ _
                have hd6 := hd5.keepRef ⟨yb, hyb, hyb2⟩ kp2
                have he6 : RefAt (upd gb id2 (some (.obj [.v (.int .i64 d.q), yb, .v (.int .i64 d.sy), .v (.int .i64 q.a.toNat), .v (.bool d.off)] 56))) id2 { d with f := q.a.toNat } := ⟨yb, upd_same .., hyb2.set2 hyb⟩
                clear hyb hyb1
                generalize upd gb id2 (some (.obj [.v (.int .i64 d.q), yb, .v (.int .i64 d.sy), .v (.int .i64 q.a.toNat), .v (.bool d.off)] 56)) = gc at hd6 he6 ⊢
                generalize ({ d with f := q.a.toNat } : D) = D1 at hd6 he6 ok6
                obtain ⟨y, hy0, hy2⟩ := he6
                have hy1 := hy0
                simp only [D.cells] at hy1
                have wF : IntKind.i64.wrap ((D1.q : Int) - (D1.b.length : Int)) = ((D1.q - D1.b.length : Nat) : Int) := by have := ok6.1; have := ok6.2.1; rw [wrap64 _ (by omega)]; omega
                refine .quiet (by kernel_rfl) ?_
                simp only [go_sem, ↓reduceIte, Nat.reduceLT, Nat.reduceEqDiff, Nat.reduceAdd, Nat.reduceLeDiff, Nat.reduceMul, Nat.reduceSub, Int.natCast_zero, Int.ofNat_zero, Int.natCast_one, Int.cast_ofNat_Int, bne_self_eq_false, beq_self_eq_true, Int.reduceBEq, Int.reduceBNe, Bool.not_true, Bool.not_false, r1, r5, r7, r9, hy1]
                refine ⟨_, read_ok' D1 ok6 id gc hd6, ?_⟩
                simp only [go_sem, ↓reduceIte, Nat.reduceLT, Nat.reduceEqDiff, Nat.reduceAdd, Nat.reduceLeDiff, Nat.reduceMul, Nat.reduceSub, Int.natCast_zero, Int.ofNat_zero, Int.natCast_one, Int.cast_ofNat_Int, bne_self_eq_false, beq_self_eq_true, Int.reduceBEq, Int.reduceBNe, Bool.not_true, Bool.not_false, r1, r5, r7, r9, hy1, decide_true]
                refine ⟨_, same_ok _ y D1.b D1.b gc (.sl _ _) hy2 (by have := ok6.1; have := ok6.2.1; omega), ?_⟩
                simp only [go_sem, ↓reduceIte, Nat.reduceLT, Nat.reduceEqDiff, Nat.reduceAdd, Nat.reduceLeDiff, Nat.reduceMul, Nat.reduceSub, Int.natCast_zero, Int.ofNat_zero, Int.natCast_one, Int.cast_ofNat_Int, bne_self_eq_false, beq_self_eq_true, Int.reduceBEq, Int.reduceBNe, Bool.not_true, Bool.not_false, r1, r5, r7, r9, hy1, decide_true]
                refine ⟨_, len_ok' D1 id gc hd6, ?_⟩
                simp only [go_sem, ↓reduceIte, Nat.reduceLT, Nat.reduceEqDiff, Nat.reduceAdd, Nat.reduceLeDiff, Nat.reduceMul, Nat.reduceSub, Int.natCast_zero, Int.ofNat_zero, Int.natCast_one, Int.cast_ofNat_Int, bne_self_eq_false, beq_self_eq_true, Int.reduceBEq, Int.reduceBNe, Bool.not_true, Bool.not_false, r1, r5, r7, r9, hy1, hy2.len]
                refine ⟨_, free_ok' D1 ok6 id gc hd6, ?_⟩
                simp only [go_sem, ↓reduceIte, Nat.reduceLT, Nat.reduceEqDiff, Nat.reduceAdd, Nat.reduceLeDiff, Nat.reduceMul, Nat.reduceSub, Int.natCast_zero, Int.ofNat_zero, Int.natCast_one, Int.cast_ofNat_Int, bne_self_eq_false, beq_self_eq_true, Int.reduceBEq, Int.reduceBNe, Bool.not_true, Bool.not_false, r1, r5, r7, r9, hy1, hy2.len, wF]
                refine ⟨_, off_ok' D1 id gc hd6, ?_⟩
                simp only [go_sem, ↓reduceIte, Nat.reduceLT, Nat.reduceEqDiff, Nat.reduceAdd, Nat.reduceLeDiff, Nat.reduceMul, Nat.reduceSub, Int.natCast_zero, Int.ofNat_zero, Int.natCast_one, Int.cast_ofNat_Int, bne_self_eq_false, beq_self_eq_true, Int.reduceBEq, Int.reduceBNe, Bool.not_true, Bool.not_false, r1, r5, r7, r9, hy1, hy2.len, w1]
                refine ⟨_, ?_, i + 1, D1, hd6, ⟨y, hy0, hy2⟩, ok6, by omega, by omega, rfl, ?_, ?_, ?_, ?_⟩
                · omega
                all_goals simp only [go_sem, ↓reduceIte, Nat.reduceLT, Nat.reduceEqDiff, Nat.reduceAdd, Nat.reduceLeDiff, Nat.reduceMul, Nat.reduceSub, Int.natCast_zero, Int.ofNat_zero, Int.natCast_one, Int.cast_ofNat_Int, bne_self_eq_false, beq_self_eq_true, Int.reduceBEq, Int.reduceBNe, Bool.not_true, Bool.not_false, r1, r5, r7, r9, hy1, w1]
              · have t4 : (q.kind == 4) = false := by simp [k4]
                by_cases k5 : q.kind = 5
                · have t5 : (q.kind == 5) = true := by simp [k5]
                  simp only [go_sem, ↓reduceIte, Nat.reduceLT, Nat.reduceEqDiff, Nat.reduceAdd, Nat.reduceLeDiff, Nat.reduceMul, Nat.reduceSub, Int.natCast_zero, Int.ofNat_zero, Int.natCast_one, Int.cast_ofNat_Int, bne_self_eq_false, beq_self_eq_true, Int.reduceBEq, Int.reduceBNe, Bool.not_true, Bool.not_false, r1, r5, r7, r9, hg, t1, t2, t3, t4, t5]
                  refine (boot_ok d ha id g q.a q.b hd3).mono fun r gb ⟨hd5, kp1⟩ => ?_
                  have he5 := he3.keepDisk hd3 kp1
                  have hg5 := kp1 _ _ ne1 hg
                  simp only [go_sem, ↓reduceIte, Nat.reduceLT, Nat.reduceEqDiff, Nat.reduceAdd, Nat.reduceLeDiff, Nat.reduceMul, Nat.reduceSub, Int.natCast_zero, Int.ofNat_zero, Int.natCast_one, Int.cast_ofNat_Int, bne_self_eq_false, beq_self_eq_true, Int.reduceBEq, Int.reduceBNe, Bool.not_true, Bool.not_false, r1, r5, r7, r9, hg5]
                  refine (rboot_ok d ha id2 gb q.a q.b he5).mono fun r gc ⟨he6, kp2⟩ => ?_
                  have hd6 := hd5.keepRef he5 kp2
                  have ok6 := D.boot_ok ha q.a q.b
                  generalize d.boot q.a q.b = D1 at hd6 he6 ok6
                  simp only [go_sem, ↓reduceIte, Nat.reduceLT, Nat.reduceEqDiff, Nat.reduceAdd, Nat.reduceLeDiff, Nat.reduceMul, Nat.reduceSub, Int.natCast_zero, Int.ofNat_zero, Int.natCast_one, Int.cast_ofNat_Int, bne_self_eq_false, beq_self_eq_true, Int.reduceBEq, Int.reduceBNe, Bool.not_true, Bool.not_false, r1, r5, r7, r9]
                  obtain ⟨y, hy0, hy2⟩ := he6
                  have hy1 := hy0
                  simp only [D.cells] at hy1
                  have wF : IntKind.i64.wrap ((D1.q : Int) - (D1.b.length : Int)) = ((D1.q - D1.b.length : Nat) : Int) := by have := ok6.1; have := ok6.2.1; rw [wrap64 _ (by omega)]; omega
                  refine .quiet (by kernel_rfl) ?_
                  simp only [go_sem, ↓reduceIte, Nat.reduceLT, Nat.reduceEqDiff, Nat.reduceAdd, Nat.reduceLeDiff, Nat.reduceMul, Nat.reduceSub, Int.natCast_zero, Int.ofNat_zero, Int.natCast_one, Int.cast_ofNat_Int, bne_self_eq_false, beq_self_eq_true, Int.reduceBEq, Int.reduceBNe, Bool.not_true, Bool.not_false, r1, r5, r7, r9, hy1]
                  refine ⟨_, read_ok' D1 ok6 id gc hd6, ?_⟩
                  simp only [go_sem, ↓reduceIte, Nat.reduceLT, Nat.reduceEqDiff, Nat.reduceAdd, Nat.reduceLeDiff, Nat.reduceMul, Nat.reduceSub, Int.natCast_zero, Int.ofNat_zero, Int.natCast_one, Int.cast_ofNat_Int, bne_self_eq_false, beq_self_eq_true, Int.reduceBEq, Int.reduceBNe, Bool.not_true, Bool.not_false, r1, r5, r7, r9, hy1, decide_true]
                  refine ⟨_, same_ok _ y D1.b D1.b gc (.sl _ _) hy2 (by have := ok6.1; have := ok6.2.1; omega), ?_⟩
                  simp only [go_sem, ↓reduceIte, Nat.reduceLT, Nat.reduceEqDiff, Nat.reduceAdd, Nat.reduceLeDiff, Nat.reduceMul, Nat.reduceSub, Int.natCast_zero, Int.ofNat_zero, Int.natCast_one, Int.cast_ofNat_Int, bne_self_eq_false, beq_self_eq_true, Int.reduceBEq, Int.reduceBNe, Bool.not_true, Bool.not_false, r1, r5, r7, r9, hy1, decide_true]
                  refine ⟨_, len_ok' D1 id gc hd6, ?_⟩
                  simp only [go_sem, ↓reduceIte, Nat.reduceLT, Nat.reduceEqDiff, Nat.reduceAdd, Nat.reduceLeDiff, Nat.reduceMul, Nat.reduceSub, Int.natCast_zero, Int.ofNat_zero, Int.natCast_one, Int.cast_ofNat_Int, bne_self_eq_false, beq_self_eq_true, Int.reduceBEq, Int.reduceBNe, Bool.not_true, Bool.not_false, r1, r5, r7, r9, hy1, hy2.len]
                  refine ⟨_, free_ok' D1 ok6 id gc hd6, ?_⟩
                  simp only [go_sem, ↓reduceIte, Nat.reduceLT, Nat.reduceEqDiff, Nat.reduceAdd, Nat.reduceLeDiff, Nat.reduceMul, Nat.reduceSub, Int.natCast_zero, Int.ofNat_zero, Int.natCast_one, Int.cast_ofNat_Int, bne_self_eq_false, beq_self_eq_true, Int.reduceBEq, Int.reduceBNe, Bool.not_true, Bool.not_false, r1, r5, r7, r9, hy1, hy2.len, wF]
                  refine ⟨_, off_ok' D1 id gc hd6, ?_⟩
                  simp only [go_sem, ↓reduceIte, Nat.reduceLT, Nat.reduceEqDiff, Nat.reduceAdd, Nat.reduceLeDiff, Nat.reduceMul, Nat.reduceSub, Int.natCast_zero, Int.ofNat_zero, Int.natCast_one, Int.cast_ofNat_Int, bne_self_eq_false, beq_self_eq_true, Int.reduceBEq, Int.reduceBNe, Bool.not_true, Bool.not_false, r1, r5, r7, r9, hy1, hy2.len, w1]
                  refine ⟨_, ?_, i + 1, D1, hd6, ⟨y, hy0, hy2⟩, ok6, by omega, by omega, rfl, ?_, ?_, ?_, ?_⟩
                  · omega
                  all_goals simp only [go_sem, ↓reduceIte, Nat.reduceLT, Nat.reduceEqDiff, Nat.reduceAdd, Nat.reduceLeDiff, Nat.reduceMul, Nat.reduceSub, Int.natCast_zero, Int.ofNat_zero, Int.natCast_one, Int.cast_ofNat_Int, bne_self_eq_false, beq_self_eq_true, Int.reduceBEq, Int.reduceBNe, Bool.not_true, Bool.not_false, r1, r5, r7, r9, hy1, w1]
                · have t5 : (q.kind == 5) = false := by simp [k5]
                  simp only [go_sem, ↓reduceIte, Nat.reduceLT, Nat.reduceEqDiff, Nat.reduceAdd, Nat.reduceLeDiff, Nat.reduceMul, Nat.reduceSub, Int.natCast_zero, Int.ofNat_zero, Int.natCast_one, Int.cast_ofNat_Int, bne_self_eq_false, beq_self_eq_true, Int.reduceBEq, Int.reduceBNe, Bool.not_true, Bool.not_false, r1, r5, r7, r9, hg, t1, t2, t3, t4, t5]
                  obtain ⟨y, hy0, hy2⟩ := he3
                  have hy1 := hy0
                  simp only [D.cells] at hy1
                  have wF : IntKind.i64.wrap ((d.q : Int) - (d.b.length : Int)) = ((d.q - d.b.length : Nat) : Int) := by have := ha.1; have := ha.2.1; rw [wrap64 _ (by omega)]; omega
                  refine .quiet (by kernel_rfl) ?_
                  simp only [go_sem, ↓reduceIte, Nat.reduceLT, Nat.reduceEqDiff, Nat.reduceAdd, Nat.reduceLeDiff, Nat.reduceMul, Nat.reduceSub, Int.natCast_zero, Int.ofNat_zero, Int.natCast_one, Int.cast_ofNat_Int, bne_self_eq_false, beq_self_eq_true, Int.reduceBEq, Int.reduceBNe, Bool.not_true, Bool.not_false, r1, r5, r7, r9, hy1]
                  refine ⟨_, read_ok' d ha id g hd3, ?_⟩
                  simp only [go_sem, ↓reduceIte, Nat.reduceLT, Nat.reduceEqDiff, Nat.reduceAdd, Nat.reduceLeDiff, Nat.reduceMul, Nat.reduceSub, Int.natCast_zero, Int.ofNat_zero, Int.natCast_one, Int.cast_ofNat_Int, bne_self_eq_false, beq_self_eq_true, Int.reduceBEq, Int.reduceBNe, Bool.not_true, Bool.not_false, r1, r5, r7, r9, hy1, decide_true]
                  refine ⟨_, same_ok _ y d.b d.b g (.sl _ _) hy2 (by have := ha.1; have := ha.2.1; omega), ?_⟩
                  simp only [go_sem, ↓reduceIte, Nat.reduceLT, Nat.reduceEqDiff, Nat.reduceAdd, Nat.reduceLeDiff, Nat.reduceMul, Nat.reduceSub, Int.natCast_zero, Int.ofNat_zero, Int.natCast_one, Int.cast_ofNat_Int, bne_self_eq_false, beq_self_eq_true, Int.reduceBEq, Int.reduceBNe, Bool.not_true, Bool.not_false, r1, r5, r7, r9, hy1, decide_true]
                  refine ⟨_, len_ok' d id g hd3, ?_⟩
                  simp only [go_sem, ↓reduceIte, Nat.reduceLT, Nat.reduceEqDiff, Nat.reduceAdd, Nat.reduceLeDiff, Nat.reduceMul, Nat.reduceSub, Int.natCast_zero, Int.ofNat_zero, Int.natCast_one, Int.cast_ofNat_Int, bne_self_eq_false, beq_self_eq_true, Int.reduceBEq, Int.reduceBNe, Bool.not_true, Bool.not_false, r1, r5, r7, r9, hy1, hy2.len]
                  refine ⟨_, free_ok' d ha id g hd3, ?_⟩
                  simp only [go_sem, ↓reduceIte, Nat.reduceLT, Nat.reduceEqDiff, Nat.reduceAdd, Nat.reduceLeDiff, Nat.reduceMul, Nat.reduceSub, Int.natCast_zero, Int.ofNat_zero, Int.natCast_one, Int.cast_ofNat_Int, bne_self_eq_false, beq_self_eq_true, Int.reduceBEq, Int.reduceBNe, Bool.not_true, Bool.not_false, r1, r5, r7, r9, hy1, hy2.len, wF]
                  refine ⟨_, off_ok' d id g hd3, ?_⟩
                  simp only [go_sem, ↓reduceIte, Nat.reduceLT, Nat.reduceEqDiff, Nat.reduceAdd, Nat.reduceLeDiff, Nat.reduceMul, Nat.reduceSub, Int.natCast_zero, Int.ofNat_zero, Int.natCast_one, Int.cast_ofNat_Int, bne_self_eq_false, beq_self_eq_true, Int.reduceBEq, Int.reduceBNe, Bool.not_true, Bool.not_false, r1, r5, r7, r9, hy1, hy2.len, w1]
                  refine ⟨_, ?_, i + 1, d, hd3, ⟨y, hy0, hy2⟩, ha, by omega, by omega, rfl, ?_, ?_, ?_, ?_⟩
                  · omega
                  all_goals simp only [go_sem, ↓reduceIte, Nat.reduceLT, Nat.reduceEqDiff, Nat.reduceAdd, Nat.reduceLeDiff, Nat.reduceMul, Nat.reduceSub, Int.natCast_zero, Int.ofNat_zero, Int.natCast_one, Int.cast_ofNat_Int, bne_self_eq_false, beq_self_eq_true, Int.reduceBEq, Int.reduceBNe, Bool.not_true, Bool.not_false, r1, r5, r7, r9, hy1, w1]
      · have exit : (decide ((i : Int) < (l.length : Int)) = false) ∨ (decide ((i : Int) < (l.length : Int)) = true ∧ decide ((i : Int) < 60) = false) := by
          by_cases h1 : i < l.length
          · exact .inr ⟨decide_eq_true (by omega), decide_eq_false (by omega)⟩
          · exact .inl (decide_eq_false (by omega))
        rcases exit with d1 | ⟨d1, d2⟩
        · simp only [go_sem, ↓reduceIte, Nat.reduceLT, Nat.reduceEqDiff, Nat.reduceAdd, Nat.reduceLeDiff, Nat.reduceMul, Nat.reduceSub, Int.natCast_zero, Int.ofNat_zero, Int.natCast_one, Int.cast_ofNat_Int, bne_self_eq_false, beq_self_eq_true, Int.reduceBEq, Int.reduceBNe, Bool.not_true, Bool.not_false, r1, r5, r7, r9, List.length_map, d1]
          refine (diskRuns_ok _).sthen fun h6 _ => ?_
          simp only [go_sem, ↓reduceIte, Nat.reduceLT, Nat.reduceEqDiff, Nat.reduceAdd, Nat.reduceLeDiff, Nat.reduceMul, Nat.reduceSub]
          exact .same (.refl _) rfl
        · simp only [go_sem, ↓reduceIte, Nat.reduceLT, Nat.reduceEqDiff, Nat.reduceAdd, Nat.reduceLeDiff, Nat.reduceMul, Nat.reduceSub, Int.natCast_zero, Int.ofNat_zero, Int.natCast_one, Int.cast_ofNat_Int, bne_self_eq_false, beq_self_eq_true, Int.reduceBEq, Int.reduceBNe, Bool.not_true, Bool.not_false, r1, r5, r7, r9, List.length_map, d1, d2]
          refine (diskRuns_ok _).sthen fun h6 _ => ?_
          simp only [go_sem, ↓reduceIte, Nat.reduceLT, Nat.reduceEqDiff, Nat.reduceAdd, Nat.reduceLeDiff, Nat.reduceMul, Nat.reduceSub]
          exact .same (.refl _) rfl
end Go.Proofs.Ytidpcjblciompaa
