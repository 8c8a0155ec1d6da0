/- The law DiskArms. -/
import Derived.Test.YtidpcjblciompaaCA
set_option linter.unusedSimpArgs false
set_option linter.unusedVariables false
namespace Go.Proofs.Ytidpcjblciompaa
open Go Go.Ab

structure ArmInv (n i : Nat) (d : D) : Prop where
  q : d.q = 5000
  ok : d.ok
  f : d.f = n - i
  o : d.off = decide (0 < n ∧ n ≤ i)
  b : d.b.length ≤ 3 * i

theorem ArmInv.burn {n i : Nat} {d : D} (h : ArmInv n i d) (ho : d.off = false) : d.burn.f = n - (i + 1) ∧ d.burn.off = decide (0 < n ∧ n ≤ i + 1) := by
  have h1 := h.f
  have h2 := h.o
  rw [ho] at h2
  have h2 := of_decide_eq_false h2.symm
  unfold D.burn
  by_cases hf : 0 < d.f
  · rw [if_pos hf]
    refine ⟨by show d.f - 1 = _; omega, ?_⟩
    show decide (d.f = 1) = _
    congr 1
    apply propext; omega
  · rw [if_neg hf, ho]
    refine ⟨by omega, ?_⟩
    exact (decide_eq_false (by omega)).symm

theorem ArmInv.off {n i : Nat} {d : D} (h : ArmInv n i d) (ho : d.off = true) : ArmInv n (i + 1) d ∧ decide (0 < n ∧ n ≤ i + 1) = true := by
  have h1 := h.f
  have h2 := h.o
  rw [ho] at h2
  have h2 := of_decide_eq_true h2.symm
  have h3 := h.b
  exact ⟨⟨h.q, h.ok, by omega, by rw [ho, decide_eq_true (by omega)], by omega⟩, decide_eq_true (by omega)⟩

theorem ArmInv.append {n i : Nat} {d : D} (h : ArmInv n i d) (hi : i < 20) : ArmInv n (i + 1) (d.append [1, 2, 3]).1 ∧ (d.append [1, 2, 3]).2 = (if decide (0 < n ∧ n ≤ i + 1) = true then 9 else 0) ∧ (d.off = true → (d.append [1, 2, 3]).1 = d) := by
  cases ho : d.off with
  | true =>
    obtain ⟨h1, h2⟩ := h.off ho
    have e : d.append [1, 2, 3] = (d, 9) := by unfold D.append; rw [if_pos ho]
    rw [e]
    exact ⟨h1, by rw [if_pos h2], fun _ => rfl⟩
  | false =>
    have hb := h.b
    have e := append_room (b := [1, 2, 3]) ho (by rw [h.q]; simp; omega)
    have hk := D.append_ok h.ok [1, 2, 3]
    rw [e] at hk ⊢
    have h' : ArmInv n i { d with b := d.b ++ [1, 2, 3] } → _ := fun h => h.burn ho
    have hd : ArmInv n i { d with b := d.b ++ [1, 2, 3] } ∨ True := .inr trivial
    have b1 : (D.burn { d with b := d.b ++ [1, 2, 3] }).f = d.burn.f := by unfold D.burn; split <;> simp_all
    have b2 : (D.burn { d with b := d.b ++ [1, 2, 3] }).off = d.burn.off := by unfold D.burn; split <;> simp_all
    obtain ⟨b3, b4⟩ := h.burn ho
    refine ⟨⟨by simp only [D.burn_q]; exact h.q, hk, by rw [b1, b3], by rw [b2, b4], ?_⟩, by simp only [b2, b4], fun hh => by cases hh⟩
    simp only [D.burn_b]
    simp; omega

theorem ArmInv.sync {n i : Nat} {d : D} (h : ArmInv n i d) : ArmInv n (i + 1) d.sync.1 ∧ d.sync.2 = (if decide (0 < n ∧ n ≤ i + 1) = true then 9 else 0) ∧ (d.off = true → d.sync.1 = d) := by
  cases ho : d.off with
  | true =>
    obtain ⟨h1, h2⟩ := h.off ho
    have e : d.sync = (d, 9) := by unfold D.sync; rw [if_pos ho]
    rw [e]
    exact ⟨h1, by rw [if_pos h2], fun _ => rfl⟩
  | false =>
    have hb := h.b
    have hk := D.sync_ok h.ok
    obtain ⟨b3, b4⟩ := h.burn ho
    cases hc : d.burn.off with
    | true =>
      have e : d.sync = (d.burn, 9) := by unfold D.sync; rw [if_neg (by simp [ho]), if_pos hc]
      rw [e] at hk ⊢
      refine ⟨⟨by simp only [D.burn_q]; exact h.q, hk, b3, b4, by simp only [D.burn_b]; omega⟩, by rw [if_pos (by rw [← b4, hc])], fun hh => by cases hh⟩
    | false =>
      have e : d.sync = ({ d.burn with sy := d.b.length }, 0) := by unfold D.sync; rw [if_neg (by simp [ho]), if_neg (by simp [hc])]
      rw [e] at hk ⊢
      refine ⟨⟨by show d.burn.q = _; simp only [D.burn_q]; exact h.q, hk, b3, b4, by show d.burn.b.length ≤ _; simp only [D.burn_b]; omega⟩, by rw [if_neg (by rw [← b4, hc]; simp)], fun hh => by cases hh⟩

theorem ArmInv.cut {n i : Nat} {d : D} (h : ArmInv n i d) : ArmInv n (i + 1) (d.cut d.b.length).1 ∧ (d.cut d.b.length).2 = (if decide (0 < n ∧ n ≤ i + 1) = true then 9 else 0) ∧ (d.off = true → (d.cut d.b.length).1 = d) := by
  cases ho : d.off with
  | true =>
    obtain ⟨h1, h2⟩ := h.off ho
    have e : d.cut d.b.length = (d, 9) := by unfold D.cut; rw [if_pos ho]
    rw [e]
    exact ⟨h1, by rw [if_pos h2], fun _ => rfl⟩
  | false =>
    have hb := h.b
    have hk := D.cut_ok h.ok d.b.length
    obtain ⟨b3, b4⟩ := h.burn ho
    cases hc : d.burn.off with
    | true =>
      have e : d.cut d.b.length = (d.burn, 9) := by unfold D.cut; rw [if_neg (by simp [ho]), if_neg (by omega), if_pos hc]
      rw [e] at hk ⊢
      refine ⟨⟨by simp only [D.burn_q]; exact h.q, hk, b3, b4, by simp only [D.burn_b]; omega⟩, by rw [if_pos (by rw [← b4, hc])], fun hh => by cases hh⟩
    | false =>
      have e : d.cut d.b.length = ({ d.burn with b := d.b, sy := min d.sy d.b.length }, 0) := by unfold D.cut; rw [if_neg (by simp [ho]), if_neg (by omega), if_neg (by simp [hc])]; simp
      rw [e] at hk ⊢
      refine ⟨⟨by show d.burn.q = _; simp only [D.burn_q]; exact h.q, hk, b3, b4, by show d.b.length ≤ _; omega⟩, by rw [if_neg (by rw [← b4, hc]; simp)], fun hh => by cases hh⟩

set_option maxHeartbeats 4000000 in
set_option maxRecDepth 20000 in
theorem diskArms_ok (fu : Int) (ns : List Int) (hl : ns.length ≤ maxLen) (b1 : -9223372036854775808 ≤ fu ∧ fu ≤ 9223372036854775807) (b2 : ∀ n ∈ ns, -9223372036854775808 ≤ n ∧ n ≤ 9223372036854775807) (h : Heap) :
    FnOK Try.prog 10 [iA fu, .sl (ns.map iA) .no] h fun r _ => r = .v (.bool true) := by
  unfold maxLen at hl
  refine FnOK.body hU hm Try.func10 rfl (by kernel_rfl) 105 rfl [.tmp 4] rfl (Nat.le_of_ble_eq_true rfl) (fun hwf => ?_)
  simp only [go_sem, ↓reduceIte, Nat.reduceLT, Nat.reduceEqDiff, Nat.reduceAdd, Nat.reduceLeDiff, Nat.reduceMul, Nat.reduceSub]
  refine (new_ok 5000 (by omega) h).mono fun r h1 ⟨id, hid, e1, hd0, hs0⟩ => ?_
  subst e1
  simp only [go_sem, ↓reduceIte, Nat.reduceLT, Nat.reduceEqDiff, Nat.reduceAdd, Nat.reduceLeDiff, Nat.reduceMul, Nat.reduceSub, Int.natCast_zero, Int.ofNat_zero, Int.natCast_one, Int.cast_ofNat_Int, bne_self_eq_false, beq_self_eq_true, Int.reduceBEq, Int.reduceBNe, Bool.not_true, Bool.not_false]
  have k0 : D.ok ⟨5000, [], 0, 0, false⟩ := ⟨by decide, by decide, by decide, by decide⟩
  refine (within_ok fu 0 12 h1 b1 (by omega) (by omega) (by omega)).mono fun r h2 ⟨e1, n, n1, n2, e2⟩ => ?_
  subst e1; subst e2
  obtain ⟨n, rfl⟩ := Int.eq_ofNat_of_zero_le n1
  simp only [go_sem, ↓reduceIte, Nat.reduceLT, Nat.reduceEqDiff, Nat.reduceAdd, Nat.reduceLeDiff, Nat.reduceMul, Nat.reduceSub, Int.natCast_zero, Int.ofNat_zero, Int.natCast_one, Int.cast_ofNat_Int, bne_self_eq_false, beq_self_eq_true, Int.reduceBEq, Int.reduceBNe, Bool.not_true, Bool.not_false]
  refine (arm_ok' _ n id _ hd0).mono fun r h3 ⟨hd1, _⟩ => ?_
  have a0 : ArmInv n 0 ⟨5000, [], 0, n, false⟩ := ⟨rfl, ⟨by show 0 ≤ 5000; decide, by show 5000 ≤ 1048576; decide, by show 0 ≤ 0; decide, by show n < _; omega⟩, by simp, by simp; omega, by simp⟩
  simp only [go_sem, ↓reduceIte, Nat.reduceLT, Nat.reduceEqDiff, Nat.reduceAdd, Nat.reduceLeDiff, Nat.reduceMul, Nat.reduceSub, Int.natCast_zero, Int.ofNat_zero, Int.natCast_one, Int.cast_ofNat_Int, bne_self_eq_false, beq_self_eq_true, Int.reduceBEq, Int.reduceBNe, Bool.not_true, Bool.not_false]
  refine .intro (fun m ρ h' => ∃ (i : Nat) (d : D), DiskAt h' id d ∧ ArmInv n i d ∧ i ≤ 20 ∧ i ≤ ns.length ∧ m = ns.length - i ∧ lk ρ 1 = some (.sl (ns.map iA) .no) ∧ lk ρ 5 = some (.ptr id 0) ∧ lk ρ 7 = some (.v (.int .i64 n)) ∧ lk ρ 8 = some (.v (.int .i64 i))) ns.length ?_ ?_
  · refine ⟨0, _, hd1, a0, by omega, by omega, rfl, ?_, ?_, ?_, ?_⟩ <;> simp only [go_sem, ↓reduceIte, Nat.reduceLT, Nat.reduceEqDiff, Nat.reduceAdd, Nat.reduceLeDiff, Nat.reduceMul, Nat.reduceSub, Int.natCast_zero, Int.ofNat_zero, Int.natCast_one, Int.cast_ofNat_Int, bne_self_eq_false, beq_self_eq_true, Int.reduceBEq, Int.reduceBNe, Bool.not_true, Bool.not_false]
  · rintro m ρ h' ⟨i, d, hd, ha, hi1, hi2, rfl, r1, r5, r7, r8⟩
    by_cases hc : i < ns.length ∧ i < 20
    · obtain ⟨hc1, hc2⟩ := hc
      have d1 : decide ((i : Int) < (ns.length : Int)) = true := decide_eq_true (by omega)
      have d2 : decide ((i : Int) < 20) = true := decide_eq_true (by omega)
      simp only [go_sem, ↓reduceIte, Nat.reduceLT, Nat.reduceEqDiff, Nat.reduceAdd, Nat.reduceLeDiff, Nat.reduceMul, Nat.reduceSub, Int.natCast_zero, Int.ofNat_zero, Int.natCast_one, Int.cast_ofNat_Int, bne_self_eq_false, beq_self_eq_true, Int.reduceBEq, Int.reduceBNe, Bool.not_true, Bool.not_false, r1, r5, r7, r8, List.length_map, d1, d2]
      refine (len_ok' d id h' hd).pthen ?_
      simp only [go_sem, ↓reduceIte, Nat.reduceLT, Nat.reduceEqDiff, Nat.reduceAdd, Nat.reduceLeDiff, Nat.reduceMul, Nat.reduceSub, Int.natCast_zero, Int.ofNat_zero, Int.natCast_one, Int.cast_ofNat_Int, bne_self_eq_false, beq_self_eq_true, Int.reduceBEq, Int.reduceBNe, Bool.not_true, Bool.not_false, r1, r5, r7, r8, List.length_map]
      refine .at i (by simpa using hc1) (by simp [iA, AV.cells]) ?_
      simp only [go_sem, ↓reduceIte, Nat.reduceLT, Nat.reduceEqDiff, Nat.reduceAdd, Nat.reduceLeDiff, Nat.reduceMul, Nat.reduceSub, Int.natCast_zero, Int.ofNat_zero, Int.natCast_one, Int.cast_ofNat_Int, bne_self_eq_false, beq_self_eq_true, Int.reduceBEq, Int.reduceBNe, Bool.not_true, Bool.not_false, r1, r5, r7, r8, List.getElem_map]
      refine (within_ok ns[i] 0 2 h' (b2 _ (List.getElem_mem hc1)) (by omega) (by omega) (by omega)).mono fun r h4 ⟨e1, k, k1, k2, e2⟩ => ?_
      subst e1; subst e2
      have w1 : IntKind.i64.wrap ((i : Int) + 1) = ((i + 1 : Nat) : Int) := by rw [wrap64 _ (by omega)]; omega
      have hk : k = 0 ∨ k = 1 ∨ k = 2 := by omega
      have off4 : n = 0 ∨ (0 < n ∧ n < i + 1) ∨ n = i + 1 ∨ i + 1 < n := by omega
      rcases hk with rfl | rfl | rfl
      · simp only [go_sem, ↓reduceIte, Nat.reduceLT, Nat.reduceEqDiff, Nat.reduceAdd, Nat.reduceLeDiff, Nat.reduceMul, Nat.reduceSub, Int.natCast_zero, Int.ofNat_zero, Int.natCast_one, Int.cast_ofNat_Int, bne_self_eq_false, beq_self_eq_true, Int.reduceBEq, Int.reduceBNe, Bool.not_true, Bool.not_false, r1, r5, r7, r8]
        refine dthen (append_ok d ha.ok id h4 _ [1, 2, 3] hd (.inl ⟨.full, rfl⟩) (by decide)) fun h5 hd' _ => ?_
        obtain ⟨i1, i2, i3⟩ := ha.append hc2
        generalize d.append [1, 2, 3] = D0 at hd' i1 i2 i3 ⊢
        obtain ⟨D1, c1⟩ := D0
        simp only at hd' i1 i2 i3 ⊢
        have hf9 := i1.o
        rcases off4 with hn | hn | hn | hn
        · have d3 : decide ((0 : Int) < (n : Int)) = false := decide_eq_false (by omega)
          have d6 : decide (0 < n ∧ n ≤ i + 1) = false := decide_eq_false (by omega)
          rw [d6] at hf9 i2
          rw [if_neg (by simp)] at i2
          rw [i2]
          simp only [go_sem, ↓reduceIte, Nat.reduceLT, Nat.reduceEqDiff, Nat.reduceAdd, Nat.reduceLeDiff, Nat.reduceMul, Nat.reduceSub, Int.natCast_zero, Int.ofNat_zero, Int.natCast_one, Int.cast_ofNat_Int, bne_self_eq_false, beq_self_eq_true, Int.reduceBEq, Int.reduceBNe, Bool.not_true, Bool.not_false, r1, r5, r7, r8, d3]
          refine (off_ok' D1 id h5 hd').pthen ?_
          rw [hf9]
          simp only [go_sem, ↓reduceIte, Nat.reduceLT, Nat.reduceEqDiff, Nat.reduceAdd, Nat.reduceLeDiff, Nat.reduceMul, Nat.reduceSub, Int.natCast_zero, Int.ofNat_zero, Int.natCast_one, Int.cast_ofNat_Int, bne_self_eq_false, beq_self_eq_true, Int.reduceBEq, Int.reduceBNe, Bool.not_true, Bool.not_false, r1, r5, r7, r8, d3, w1]
          refine ⟨_, ?_, i + 1, D1, hd', i1, by omega, by omega, rfl, ?_, ?_, ?_, ?_⟩
          · omega
          all_goals simp only [go_sem, ↓reduceIte, Nat.reduceLT, Nat.reduceEqDiff, Nat.reduceAdd, Nat.reduceLeDiff, Nat.reduceMul, Nat.reduceSub, Int.natCast_zero, Int.ofNat_zero, Int.natCast_one, Int.cast_ofNat_Int, bne_self_eq_false, beq_self_eq_true, Int.reduceBEq, Int.reduceBNe, Bool.not_true, Bool.not_false, r1, r5, r7, r8, w1]
        · have d3 : decide ((0 : Int) < (n : Int)) = true := decide_eq_true (by omega)
          have d4 : decide ((n : Int) ≤ ((i + 1 : Nat) : Int)) = true := decide_eq_true (by omega)
          have d5 : decide ((n : Int) < ((i + 1 : Nat) : Int)) = true := decide_eq_true (by omega)
          have d6 : decide (0 < n ∧ n ≤ i + 1) = true := decide_eq_true (by omega)
          have d7 : d.off = true := by rw [ha.o]; exact decide_eq_true (by omega)
          have d8 := i3 d7
          rw [d6] at hf9 i2
          rw [if_pos rfl] at i2
          rw [i2]
          simp only [go_sem, ↓reduceIte, Nat.reduceLT, Nat.reduceEqDiff, Nat.reduceAdd, Nat.reduceLeDiff, Nat.reduceMul, Nat.reduceSub, Int.natCast_zero, Int.ofNat_zero, Int.natCast_one, Int.cast_ofNat_Int, bne_self_eq_false, beq_self_eq_true, Int.reduceBEq, Int.reduceBNe, Bool.not_true, Bool.not_false, r1, r5, r7, r8, d3, d4, d5, w1]
          refine (off_ok' D1 id h5 hd').pthen ?_
          rw [hf9]
          simp only [go_sem, ↓reduceIte, Nat.reduceLT, Nat.reduceEqDiff, Nat.reduceAdd, Nat.reduceLeDiff, Nat.reduceMul, Nat.reduceSub, Int.natCast_zero, Int.ofNat_zero, Int.natCast_one, Int.cast_ofNat_Int, bne_self_eq_false, beq_self_eq_true, Int.reduceBEq, Int.reduceBNe, Bool.not_true, Bool.not_false, r1, r5, r7, r8, d3, d4, d5, w1]
          refine (len_ok' D1 id h5 hd').pthen ?_
          rw [show D1.b.length = d.b.length by rw [d8]]
          simp only [go_sem, ↓reduceIte, Nat.reduceLT, Nat.reduceEqDiff, Nat.reduceAdd, Nat.reduceLeDiff, Nat.reduceMul, Nat.reduceSub, Int.natCast_zero, Int.ofNat_zero, Int.natCast_one, Int.cast_ofNat_Int, bne_self_eq_false, beq_self_eq_true, Int.reduceBEq, Int.reduceBNe, Bool.not_true, Bool.not_false, r1, r5, r7, r8, d3, d4, d5, w1]
          refine ⟨_, ?_, i + 1, D1, hd', i1, by omega, by omega, rfl, ?_, ?_, ?_, ?_⟩
          · omega
          all_goals simp only [go_sem, ↓reduceIte, Nat.reduceLT, Nat.reduceEqDiff, Nat.reduceAdd, Nat.reduceLeDiff, Nat.reduceMul, Nat.reduceSub, Int.natCast_zero, Int.ofNat_zero, Int.natCast_one, Int.cast_ofNat_Int, bne_self_eq_false, beq_self_eq_true, Int.reduceBEq, Int.reduceBNe, Bool.not_true, Bool.not_false, r1, r5, r7, r8, w1]
        · have d3 : decide ((0 : Int) < (n : Int)) = true := decide_eq_true (by omega)
          have d4 : decide ((n : Int) ≤ ((i + 1 : Nat) : Int)) = true := decide_eq_true (by omega)
          have d5 : decide ((n : Int) < ((i + 1 : Nat) : Int)) = false := decide_eq_false (by omega)
          have d6 : decide (0 < n ∧ n ≤ i + 1) = true := decide_eq_true (by omega)
          rw [d6] at hf9 i2
          rw [if_pos rfl] at i2
          rw [i2]
          simp only [go_sem, ↓reduceIte, Nat.reduceLT, Nat.reduceEqDiff, Nat.reduceAdd, Nat.reduceLeDiff, Nat.reduceMul, Nat.reduceSub, Int.natCast_zero, Int.ofNat_zero, Int.natCast_one, Int.cast_ofNat_Int, bne_self_eq_false, beq_self_eq_true, Int.reduceBEq, Int.reduceBNe, Bool.not_true, Bool.not_false, r1, r5, r7, r8, d3, d4, d5, w1]
          refine (off_ok' D1 id h5 hd').pthen ?_
          rw [hf9]
          simp only [go_sem, ↓reduceIte, Nat.reduceLT, Nat.reduceEqDiff, Nat.reduceAdd, Nat.reduceLeDiff, Nat.reduceMul, Nat.reduceSub, Int.natCast_zero, Int.ofNat_zero, Int.natCast_one, Int.cast_ofNat_Int, bne_self_eq_false, beq_self_eq_true, Int.reduceBEq, Int.reduceBNe, Bool.not_true, Bool.not_false, r1, r5, r7, r8, d3, d4, d5, w1]
          refine ⟨_, ?_, i + 1, D1, hd', i1, by omega, by omega, rfl, ?_, ?_, ?_, ?_⟩
          · omega
          all_goals simp only [go_sem, ↓reduceIte, Nat.reduceLT, Nat.reduceEqDiff, Nat.reduceAdd, Nat.reduceLeDiff, Nat.reduceMul, Nat.reduceSub, Int.natCast_zero, Int.ofNat_zero, Int.natCast_one, Int.cast_ofNat_Int, bne_self_eq_false, beq_self_eq_true, Int.reduceBEq, Int.reduceBNe, Bool.not_true, Bool.not_false, r1, r5, r7, r8, w1]
        · have d3 : decide ((0 : Int) < (n : Int)) = true := decide_eq_true (by omega)
          have d4 : decide ((n : Int) ≤ ((i + 1 : Nat) : Int)) = false := decide_eq_false (by omega)
          have d6 : decide (0 < n ∧ n ≤ i + 1) = false := decide_eq_false (by omega)
          rw [d6] at hf9 i2
          rw [if_neg (by simp)] at i2
          rw [i2]
          simp only [go_sem, ↓reduceIte, Nat.reduceLT, Nat.reduceEqDiff, Nat.reduceAdd, Nat.reduceLeDiff, Nat.reduceMul, Nat.reduceSub, Int.natCast_zero, Int.ofNat_zero, Int.natCast_one, Int.cast_ofNat_Int, bne_self_eq_false, beq_self_eq_true, Int.reduceBEq, Int.reduceBNe, Bool.not_true, Bool.not_false, r1, r5, r7, r8, d3, d4, w1]
          refine (off_ok' D1 id h5 hd').pthen ?_
          rw [hf9]
          simp only [go_sem, ↓reduceIte, Nat.reduceLT, Nat.reduceEqDiff, Nat.reduceAdd, Nat.reduceLeDiff, Nat.reduceMul, Nat.reduceSub, Int.natCast_zero, Int.ofNat_zero, Int.natCast_one, Int.cast_ofNat_Int, bne_self_eq_false, beq_self_eq_true, Int.reduceBEq, Int.reduceBNe, Bool.not_true, Bool.not_false, r1, r5, r7, r8, d3, d4, w1]
          refine ⟨_, ?_, i + 1, D1, hd', i1, by omega, by omega, rfl, ?_, ?_, ?_, ?_⟩
          · omega
          all_goals simp only [go_sem, ↓reduceIte, Nat.reduceLT, Nat.reduceEqDiff, Nat.reduceAdd, Nat.reduceLeDiff, Nat.reduceMul, Nat.reduceSub, Int.natCast_zero, Int.ofNat_zero, Int.natCast_one, Int.cast_ofNat_Int, bne_self_eq_false, beq_self_eq_true, Int.reduceBEq, Int.reduceBNe, Bool.not_true, Bool.not_false, r1, r5, r7, r8, w1]
      · simp only [go_sem, ↓reduceIte, Nat.reduceLT, Nat.reduceEqDiff, Nat.reduceAdd, Nat.reduceLeDiff, Nat.reduceMul, Nat.reduceSub, Int.natCast_zero, Int.ofNat_zero, Int.natCast_one, Int.cast_ofNat_Int, bne_self_eq_false, beq_self_eq_true, Int.reduceBEq, Int.reduceBNe, Bool.not_true, Bool.not_false, r1, r5, r7, r8]
        refine dthen (sync_ok d ha.ok id h4 hd) fun h5 hd' _ => ?_
        obtain ⟨i1, i2, i3⟩ := ha.sync
        generalize d.sync = D0 at hd' i1 i2 i3 ⊢
        obtain ⟨D1, c1⟩ := D0
        simp only at hd' i1 i2 i3 ⊢
        have hf9 := i1.o
        rcases off4 with hn | hn | hn | hn
        · have d3 : decide ((0 : Int) < (n : Int)) = false := decide_eq_false (by omega)
          have d6 : decide (0 < n ∧ n ≤ i + 1) = false := decide_eq_false (by omega)
          rw [d6] at hf9 i2
          rw [if_neg (by simp)] at i2
          rw [i2]
          simp only [go_sem, ↓reduceIte, Nat.reduceLT, Nat.reduceEqDiff, Nat.reduceAdd, Nat.reduceLeDiff, Nat.reduceMul, Nat.reduceSub, Int.natCast_zero, Int.ofNat_zero, Int.natCast_one, Int.cast_ofNat_Int, bne_self_eq_false, beq_self_eq_true, Int.reduceBEq, Int.reduceBNe, Bool.not_true, Bool.not_false, r1, r5, r7, r8, d3]
          refine (off_ok' D1 id h5 hd').pthen ?_
          rw [hf9]
          simp only [go_sem, ↓reduceIte, Nat.reduceLT, Nat.reduceEqDiff, Nat.reduceAdd, Nat.reduceLeDiff, Nat.reduceMul, Nat.reduceSub, Int.natCast_zero, Int.ofNat_zero, Int.natCast_one, Int.cast_ofNat_Int, bne_self_eq_false, beq_self_eq_true, Int.reduceBEq, Int.reduceBNe, Bool.not_true, Bool.not_false, r1, r5, r7, r8, d3, w1]
          refine ⟨_, ?_, i + 1, D1, hd', i1, by omega, by omega, rfl, ?_, ?_, ?_, ?_⟩
          · omega
          all_goals simp only [go_sem, ↓reduceIte, Nat.reduceLT, Nat.reduceEqDiff, Nat.reduceAdd, Nat.reduceLeDiff, Nat.reduceMul, Nat.reduceSub, Int.natCast_zero, Int.ofNat_zero, Int.natCast_one, Int.cast_ofNat_Int, bne_self_eq_false, beq_self_eq_true, Int.reduceBEq, Int.reduceBNe, Bool.not_true, Bool.not_false, r1, r5, r7, r8, w1]
        · have d3 : decide ((0 : Int) < (n : Int)) = true := decide_eq_true (by omega)
          have d4 : decide ((n : Int) ≤ ((i + 1 : Nat) : Int)) = true := decide_eq_true (by omega)
          have d5 : decide ((n : Int) < ((i + 1 : Nat) : Int)) = true := decide_eq_true (by omega)
          have d6 : decide (0 < n ∧ n ≤ i + 1) = true := decide_eq_true (by omega)
          have d7 : d.off = true := by rw [ha.o]; exact decide_eq_true (by omega)
          have d8 := i3 d7
          rw [d6] at hf9 i2
          rw [if_pos rfl] at i2
          rw [i2]
          simp only [go_sem, ↓reduceIte, Nat.reduceLT, Nat.reduceEqDiff, Nat.reduceAdd, Nat.reduceLeDiff, Nat.reduceMul, Nat.reduceSub, Int.natCast_zero, Int.ofNat_zero, Int.natCast_one, Int.cast_ofNat_Int, bne_self_eq_false, beq_self_eq_true, Int.reduceBEq, Int.reduceBNe, Bool.not_true, Bool.not_false, r1, r5, r7, r8, d3, d4, d5, w1]
          refine (off_ok' D1 id h5 hd').pthen ?_
          rw [hf9]
          simp only [go_sem, ↓reduceIte, Nat.reduceLT, Nat.reduceEqDiff, Nat.reduceAdd, Nat.reduceLeDiff, Nat.reduceMul, Nat.reduceSub, Int.natCast_zero, Int.ofNat_zero, Int.natCast_one, Int.cast_ofNat_Int, bne_self_eq_false, beq_self_eq_true, Int.reduceBEq, Int.reduceBNe, Bool.not_true, Bool.not_false, r1, r5, r7, r8, d3, d4, d5, w1]
          refine (len_ok' D1 id h5 hd').pthen ?_
          rw [show D1.b.length = d.b.length by rw [d8]]
          simp only [go_sem, ↓reduceIte, Nat.reduceLT, Nat.reduceEqDiff, Nat.reduceAdd, Nat.reduceLeDiff, Nat.reduceMul, Nat.reduceSub, Int.natCast_zero, Int.ofNat_zero, Int.natCast_one, Int.cast_ofNat_Int, bne_self_eq_false, beq_self_eq_true, Int.reduceBEq, Int.reduceBNe, Bool.not_true, Bool.not_false, r1, r5, r7, r8, d3, d4, d5, w1]
          refine ⟨_, ?_, i + 1, D1, hd', i1, by omega, by omega, rfl, ?_, ?_, ?_, ?_⟩
          · omega
          all_goals simp only [go_sem, ↓reduceIte, Nat.reduceLT, Nat.reduceEqDiff, Nat.reduceAdd, Nat.reduceLeDiff, Nat.reduceMul, Nat.reduceSub, Int.natCast_zero, Int.ofNat_zero, Int.natCast_one, Int.cast_ofNat_Int, bne_self_eq_false, beq_self_eq_true, Int.reduceBEq, Int.reduceBNe, Bool.not_true, Bool.not_false, r1, r5, r7, r8, w1]
        · have d3 : decide ((0 : Int) < (n : Int)) = true := decide_eq_true (by omega)
          have d4 : decide ((n : Int) ≤ ((i + 1 : Nat) : Int)) = true := decide_eq_true (by omega)
          have d5 : decide ((n : Int) < ((i + 1 : Nat) : Int)) = false := decide_eq_false (by omega)
          have d6 : decide (0 < n ∧ n ≤ i + 1) = true := decide_eq_true (by omega)
          rw [d6] at hf9 i2
          rw [if_pos rfl] at i2
          rw [i2]
          simp only [go_sem, ↓reduceIte, Nat.reduceLT, Nat.reduceEqDiff, Nat.reduceAdd, Nat.reduceLeDiff, Nat.reduceMul, Nat.reduceSub, Int.natCast_zero, Int.ofNat_zero, Int.natCast_one, Int.cast_ofNat_Int, bne_self_eq_false, beq_self_eq_true, Int.reduceBEq, Int.reduceBNe, Bool.not_true, Bool.not_false, r1, r5, r7, r8, d3, d4, d5, w1]
          refine (off_ok' D1 id h5 hd').pthen ?_
          rw [hf9]
          simp only [go_sem, ↓reduceIte, Nat.reduceLT, Nat.reduceEqDiff, Nat.reduceAdd, Nat.reduceLeDiff, Nat.reduceMul, Nat.reduceSub, Int.natCast_zero, Int.ofNat_zero, Int.natCast_one, Int.cast_ofNat_Int, bne_self_eq_false, beq_self_eq_true, Int.reduceBEq, Int.reduceBNe, Bool.not_true, Bool.not_false, r1, r5, r7, r8, d3, d4, d5, w1]
          refine ⟨_, ?_, i + 1, D1, hd', i1, by omega, by omega, rfl, ?_, ?_, ?_, ?_⟩
          · omega
          all_goals simp only [go_sem, ↓reduceIte, Nat.reduceLT, Nat.reduceEqDiff, Nat.reduceAdd, Nat.reduceLeDiff, Nat.reduceMul, Nat.reduceSub, Int.natCast_zero, Int.ofNat_zero, Int.natCast_one, Int.cast_ofNat_Int, bne_self_eq_false, beq_self_eq_true, Int.reduceBEq, Int.reduceBNe, Bool.not_true, Bool.not_false, r1, r5, r7, r8, w1]
        · have d3 : decide ((0 : Int) < (n : Int)) = true := decide_eq_true (by omega)
          have d4 : decide ((n : Int) ≤ ((i + 1 : Nat) : Int)) = false := decide_eq_false (by omega)
          have d6 : decide (0 < n ∧ n ≤ i + 1) = false := decide_eq_false (by omega)
          rw [d6] at hf9 i2
          rw [if_neg (by simp)] at i2
          rw [i2]
          simp only [go_sem, ↓reduceIte, Nat.reduceLT, Nat.reduceEqDiff, Nat.reduceAdd, Nat.reduceLeDiff, Nat.reduceMul, Nat.reduceSub, Int.natCast_zero, Int.ofNat_zero, Int.natCast_one, Int.cast_ofNat_Int, bne_self_eq_false, beq_self_eq_true, Int.reduceBEq, Int.reduceBNe, Bool.not_true, Bool.not_false, r1, r5, r7, r8, d3, d4, w1]
          refine (off_ok' D1 id h5 hd').pthen ?_
          rw [hf9]
          simp only [go_sem, ↓reduceIte, Nat.reduceLT, Nat.reduceEqDiff, Nat.reduceAdd, Nat.reduceLeDiff, Nat.reduceMul, Nat.reduceSub, Int.natCast_zero, Int.ofNat_zero, Int.natCast_one, Int.cast_ofNat_Int, bne_self_eq_false, beq_self_eq_true, Int.reduceBEq, Int.reduceBNe, Bool.not_true, Bool.not_false, r1, r5, r7, r8, d3, d4, w1]
          refine ⟨_, ?_, i + 1, D1, hd', i1, by omega, by omega, rfl, ?_, ?_, ?_, ?_⟩
          · omega
          all_goals simp only [go_sem, ↓reduceIte, Nat.reduceLT, Nat.reduceEqDiff, Nat.reduceAdd, Nat.reduceLeDiff, Nat.reduceMul, Nat.reduceSub, Int.natCast_zero, Int.ofNat_zero, Int.natCast_one, Int.cast_ofNat_Int, bne_self_eq_false, beq_self_eq_true, Int.reduceBEq, Int.reduceBNe, Bool.not_true, Bool.not_false, r1, r5, r7, r8, w1]
      · simp only [go_sem, ↓reduceIte, Nat.reduceLT, Nat.reduceEqDiff, Nat.reduceAdd, Nat.reduceLeDiff, Nat.reduceMul, Nat.reduceSub, Int.natCast_zero, Int.ofNat_zero, Int.natCast_one, Int.cast_ofNat_Int, bne_self_eq_false, beq_self_eq_true, Int.reduceBEq, Int.reduceBNe, Bool.not_true, Bool.not_false, r1, r5, r7, r8]
        refine (len_ok' d id h4 hd).pthen ?_
        simp only [go_sem, ↓reduceIte, Nat.reduceLT, Nat.reduceEqDiff, Nat.reduceAdd, Nat.reduceLeDiff, Nat.reduceMul, Nat.reduceSub, Int.natCast_zero, Int.ofNat_zero, Int.natCast_one, Int.cast_ofNat_Int, bne_self_eq_false, beq_self_eq_true, Int.reduceBEq, Int.reduceBNe, Bool.not_true, Bool.not_false, r1, r5, r7, r8]
        refine dthen (cut_ok d ha.ok id h4 d.b.length hd) fun h5 hd' _ => ?_
        obtain ⟨i1, i2, i3⟩ := ha.cut
        generalize d.cut d.b.length = D0 at hd' i1 i2 i3 ⊢
        obtain ⟨D1, c1⟩ := D0
        simp only at hd' i1 i2 i3 ⊢
        have hf9 := i1.o
        rcases off4 with hn | hn | hn | hn
        · have d3 : decide ((0 : Int) < (n : Int)) = false := decide_eq_false (by omega)
          have d6 : decide (0 < n ∧ n ≤ i + 1) = false := decide_eq_false (by omega)
          rw [d6] at hf9 i2
          rw [if_neg (by simp)] at i2
          rw [i2]
          simp only [go_sem, ↓reduceIte, Nat.reduceLT, Nat.reduceEqDiff, Nat.reduceAdd, Nat.reduceLeDiff, Nat.reduceMul, Nat.reduceSub, Int.natCast_zero, Int.ofNat_zero, Int.natCast_one, Int.cast_ofNat_Int, bne_self_eq_false, beq_self_eq_true, Int.reduceBEq, Int.reduceBNe, Bool.not_true, Bool.not_false, r1, r5, r7, r8, d3]
          refine (off_ok' D1 id h5 hd').pthen ?_
          rw [hf9]
          simp only [go_sem, ↓reduceIte, Nat.reduceLT, Nat.reduceEqDiff, Nat.reduceAdd, Nat.reduceLeDiff, Nat.reduceMul, Nat.reduceSub, Int.natCast_zero, Int.ofNat_zero, Int.natCast_one, Int.cast_ofNat_Int, bne_self_eq_false, beq_self_eq_true, Int.reduceBEq, Int.reduceBNe, Bool.not_true, Bool.not_false, r1, r5, r7, r8, d3, w1]
          refine ⟨_, ?_, i + 1, D1, hd', i1, by omega, by omega, rfl, ?_, ?_, ?_, ?_⟩
          · omega
          all_goals simp only [go_sem, ↓reduceIte, Nat.reduceLT, Nat.reduceEqDiff, Nat.reduceAdd, Nat.reduceLeDiff, Nat.reduceMul, Nat.reduceSub, Int.natCast_zero, Int.ofNat_zero, Int.natCast_one, Int.cast_ofNat_Int, bne_self_eq_false, beq_self_eq_true, Int.reduceBEq, Int.reduceBNe, Bool.not_true, Bool.not_false, r1, r5, r7, r8, w1]
        · have d3 : decide ((0 : Int) < (n : Int)) = true := decide_eq_true (by omega)
          have d4 : decide ((n : Int) ≤ ((i + 1 : Nat) : Int)) = true := decide_eq_true (by omega)
          have d5 : decide ((n : Int) < ((i + 1 : Nat) : Int)) = true := decide_eq_true (by omega)
          have d6 : decide (0 < n ∧ n ≤ i + 1) = true := decide_eq_true (by omega)
          have d7 : d.off = true := by rw [ha.o]; exact decide_eq_true (by omega)
          have d8 := i3 d7
          rw [d6] at hf9 i2
          rw [if_pos rfl] at i2
          rw [i2]
          simp only [go_sem, ↓reduceIte, Nat.reduceLT, Nat.reduceEqDiff, Nat.reduceAdd, Nat.reduceLeDiff, Nat.reduceMul, Nat.reduceSub, Int.natCast_zero, Int.ofNat_zero, Int.natCast_one, Int.cast_ofNat_Int, bne_self_eq_false, beq_self_eq_true, Int.reduceBEq, Int.reduceBNe, Bool.not_true, Bool.not_false, r1, r5, r7, r8, d3, d4, d5, w1]
          refine (off_ok' D1 id h5 hd').pthen ?_
          rw [hf9]
          simp only [go_sem, ↓reduceIte, Nat.reduceLT, Nat.reduceEqDiff, Nat.reduceAdd, Nat.reduceLeDiff, Nat.reduceMul, Nat.reduceSub, Int.natCast_zero, Int.ofNat_zero, Int.natCast_one, Int.cast_ofNat_Int, bne_self_eq_false, beq_self_eq_true, Int.reduceBEq, Int.reduceBNe, Bool.not_true, Bool.not_false, r1, r5, r7, r8, d3, d4, d5, w1]
          refine (len_ok' D1 id h5 hd').pthen ?_
          rw [show D1.b.length = d.b.length by rw [d8]]
          simp only [go_sem, ↓reduceIte, Nat.reduceLT, Nat.reduceEqDiff, Nat.reduceAdd, Nat.reduceLeDiff, Nat.reduceMul, Nat.reduceSub, Int.natCast_zero, Int.ofNat_zero, Int.natCast_one, Int.cast_ofNat_Int, bne_self_eq_false, beq_self_eq_true, Int.reduceBEq, Int.reduceBNe, Bool.not_true, Bool.not_false, r1, r5, r7, r8, d3, d4, d5, w1]
          refine ⟨_, ?_, i + 1, D1, hd', i1, by omega, by omega, rfl, ?_, ?_, ?_, ?_⟩
          · omega
          all_goals simp only [go_sem, ↓reduceIte, Nat.reduceLT, Nat.reduceEqDiff, Nat.reduceAdd, Nat.reduceLeDiff, Nat.reduceMul, Nat.reduceSub, Int.natCast_zero, Int.ofNat_zero, Int.natCast_one, Int.cast_ofNat_Int, bne_self_eq_false, beq_self_eq_true, Int.reduceBEq, Int.reduceBNe, Bool.not_true, Bool.not_false, r1, r5, r7, r8, w1]
        · have d3 : decide ((0 : Int) < (n : Int)) = true := decide_eq_true (by omega)
          have d4 : decide ((n : Int) ≤ ((i + 1 : Nat) : Int)) = true := decide_eq_true (by omega)
          have d5 : decide ((n : Int) < ((i + 1 : Nat) : Int)) = false := decide_eq_false (by omega)
          have d6 : decide (0 < n ∧ n ≤ i + 1) = true := decide_eq_true (by omega)
          rw [d6] at hf9 i2
          rw [if_pos rfl] at i2
          rw [i2]
          simp only [go_sem, ↓reduceIte, Nat.reduceLT, Nat.reduceEqDiff, Nat.reduceAdd, Nat.reduceLeDiff, Nat.reduceMul, Nat.reduceSub, Int.natCast_zero, Int.ofNat_zero, Int.natCast_one, Int.cast_ofNat_Int, bne_self_eq_false, beq_self_eq_true, Int.reduceBEq, Int.reduceBNe, Bool.not_true, Bool.not_false, r1, r5, r7, r8, d3, d4, d5, w1]
          refine (off_ok' D1 id h5 hd').pthen ?_
          rw [hf9]
          simp only [go_sem, ↓reduceIte, Nat.reduceLT, Nat.reduceEqDiff, Nat.reduceAdd, Nat.reduceLeDiff, Nat.reduceMul, Nat.reduceSub, Int.natCast_zero, Int.ofNat_zero, Int.natCast_one, Int.cast_ofNat_Int, bne_self_eq_false, beq_self_eq_true, Int.reduceBEq, Int.reduceBNe, Bool.not_true, Bool.not_false, r1, r5, r7, r8, d3, d4, d5, w1]
          refine ⟨_, ?_, i + 1, D1, hd', i1, by omega, by omega, rfl, ?_, ?_, ?_, ?_⟩
          · omega
          all_goals simp only [go_sem, ↓reduceIte, Nat.reduceLT, Nat.reduceEqDiff, Nat.reduceAdd, Nat.reduceLeDiff, Nat.reduceMul, Nat.reduceSub, Int.natCast_zero, Int.ofNat_zero, Int.natCast_one, Int.cast_ofNat_Int, bne_self_eq_false, beq_self_eq_true, Int.reduceBEq, Int.reduceBNe, Bool.not_true, Bool.not_false, r1, r5, r7, r8, w1]
        · have d3 : decide ((0 : Int) < (n : Int)) = true := decide_eq_true (by omega)
          have d4 : decide ((n : Int) ≤ ((i + 1 : Nat) : Int)) = false := decide_eq_false (by omega)
          have d6 : decide (0 < n ∧ n ≤ i + 1) = false := decide_eq_false (by omega)
          rw [d6] at hf9 i2
          rw [if_neg (by simp)] at i2
          rw [i2]
          simp only [go_sem, ↓reduceIte, Nat.reduceLT, Nat.reduceEqDiff, Nat.reduceAdd, Nat.reduceLeDiff, Nat.reduceMul, Nat.reduceSub, Int.natCast_zero, Int.ofNat_zero, Int.natCast_one, Int.cast_ofNat_Int, bne_self_eq_false, beq_self_eq_true, Int.reduceBEq, Int.reduceBNe, Bool.not_true, Bool.not_false, r1, r5, r7, r8, d3, d4, w1]
          refine (off_ok' D1 id h5 hd').pthen ?_
          rw [hf9]
          simp only [go_sem, ↓reduceIte, Nat.reduceLT, Nat.reduceEqDiff, Nat.reduceAdd, Nat.reduceLeDiff, Nat.reduceMul, Nat.reduceSub, Int.natCast_zero, Int.ofNat_zero, Int.natCast_one, Int.cast_ofNat_Int, bne_self_eq_false, beq_self_eq_true, Int.reduceBEq, Int.reduceBNe, Bool.not_true, Bool.not_false, r1, r5, r7, r8, d3, d4, w1]
          refine ⟨_, ?_, i + 1, D1, hd', i1, by omega, by omega, rfl, ?_, ?_, ?_, ?_⟩
          · omega
          all_goals simp only [go_sem, ↓reduceIte, Nat.reduceLT, Nat.reduceEqDiff, Nat.reduceAdd, Nat.reduceLeDiff, Nat.reduceMul, Nat.reduceSub, Int.natCast_zero, Int.ofNat_zero, Int.natCast_one, Int.cast_ofNat_Int, bne_self_eq_false, beq_self_eq_true, Int.reduceBEq, Int.reduceBNe, Bool.not_true, Bool.not_false, r1, r5, r7, r8, w1]
    · have exit : (decide ((i : Int) < (ns.length : Int)) = false) ∨ (decide ((i : Int) < (ns.length : Int)) = true ∧ decide ((i : Int) < 20) = false) := by
        by_cases h1 : i < ns.length
        · exact .inr ⟨decide_eq_true (by omega), decide_eq_false (by omega)⟩
        · exact .inl (decide_eq_false (by omega))
      have hb : d.boot 0 0 = ⟨d.q, (d.boot 0 0).b, (d.boot 0 0).sy, 0, false⟩ := rfl
      have hbk := D.boot_ok ha.ok 0 0
      rcases exit with d1 | ⟨d1, d2⟩
      · simp only [go_sem, ↓reduceIte, Nat.reduceLT, Nat.reduceEqDiff, Nat.reduceAdd, Nat.reduceLeDiff, Nat.reduceMul, Nat.reduceSub, Int.natCast_zero, Int.ofNat_zero, Int.natCast_one, Int.cast_ofNat_Int, bne_self_eq_false, beq_self_eq_true, Int.reduceBEq, Int.reduceBNe, Bool.not_true, Bool.not_false, r1, r5, r7, r8, List.length_map, d1]
        refine (boot_ok d ha.ok id h' 0 0 hd).mono fun r h4 ⟨hd1, _⟩ => ?_
        simp only [go_sem, ↓reduceIte, Nat.reduceLT, Nat.reduceEqDiff, Nat.reduceAdd, Nat.reduceLeDiff, Nat.reduceMul, Nat.reduceSub, Int.natCast_zero, Int.ofNat_zero, Int.natCast_one, Int.cast_ofNat_Int, bne_self_eq_false, beq_self_eq_true, Int.reduceBEq, Int.reduceBNe, Bool.not_true, Bool.not_false, r1, r5, r7, r8, List.length_map, d1]
        refine (off_ok' _ id h4 hd1).pthen ?_
        rw [show (d.boot 0 0).off = false from rfl]
        simp only [go_sem, ↓reduceIte, Nat.reduceLT, Nat.reduceEqDiff, Nat.reduceAdd, Nat.reduceLeDiff, Nat.reduceMul, Nat.reduceSub, Int.natCast_zero, Int.ofNat_zero, Int.natCast_one, Int.cast_ofNat_Int, bne_self_eq_false, beq_self_eq_true, Int.reduceBEq, Int.reduceBNe, Bool.not_true, Bool.not_false, r1, r5, r7, r8, List.length_map, d1]
        refine dthen (sync_ok _ hbk id h4 hd1) fun h5 hd2 _ => ?_
        rw [show (d.boot 0 0).sync.2 = 0 from rfl]
        simp only [go_sem, ↓reduceIte, Nat.reduceLT, Nat.reduceEqDiff, Nat.reduceAdd, Nat.reduceLeDiff, Nat.reduceMul, Nat.reduceSub, Int.natCast_zero, Int.ofNat_zero, Int.natCast_one, Int.cast_ofNat_Int, bne_self_eq_false, beq_self_eq_true, Int.reduceBEq, Int.reduceBNe, Bool.not_true, Bool.not_false, r1, r5, r7, r8, List.length_map, d1]
        refine (diskRuns_ok _).sthen fun h6 _ => ?_
        simp only [go_sem, ↓reduceIte, Nat.reduceLT, Nat.reduceEqDiff, Nat.reduceAdd, Nat.reduceLeDiff, Nat.reduceMul, Nat.reduceSub]
        exact .same (.refl _) rfl
      · simp only [go_sem, ↓reduceIte, Nat.reduceLT, Nat.reduceEqDiff, Nat.reduceAdd, Nat.reduceLeDiff, Nat.reduceMul, Nat.reduceSub, Int.natCast_zero, Int.ofNat_zero, Int.natCast_one, Int.cast_ofNat_Int, bne_self_eq_false, beq_self_eq_true, Int.reduceBEq, Int.reduceBNe, Bool.not_true, Bool.not_false, r1, r5, r7, r8, List.length_map, d1, d2]
        refine (boot_ok d ha.ok id h' 0 0 hd).mono fun r h4 ⟨hd1, _⟩ => ?_
        simp only [go_sem, ↓reduceIte, Nat.reduceLT, Nat.reduceEqDiff, Nat.reduceAdd, Nat.reduceLeDiff, Nat.reduceMul, Nat.reduceSub, Int.natCast_zero, Int.ofNat_zero, Int.natCast_one, Int.cast_ofNat_Int, bne_self_eq_false, beq_self_eq_true, Int.reduceBEq, Int.reduceBNe, Bool.not_true, Bool.not_false, r1, r5, r7, r8, List.length_map, d1]
        refine (off_ok' _ id h4 hd1).pthen ?_
        rw [show (d.boot 0 0).off = false from rfl]
        simp only [go_sem, ↓reduceIte, Nat.reduceLT, Nat.reduceEqDiff, Nat.reduceAdd, Nat.reduceLeDiff, Nat.reduceMul, Nat.reduceSub, Int.natCast_zero, Int.ofNat_zero, Int.natCast_one, Int.cast_ofNat_Int, bne_self_eq_false, beq_self_eq_true, Int.reduceBEq, Int.reduceBNe, Bool.not_true, Bool.not_false, r1, r5, r7, r8, List.length_map, d1]
        refine dthen (sync_ok _ hbk id h4 hd1) fun h5 hd2 _ => ?_
        rw [show (d.boot 0 0).sync.2 = 0 from rfl]
        simp only [go_sem, ↓reduceIte, Nat.reduceLT, Nat.reduceEqDiff, Nat.reduceAdd, Nat.reduceLeDiff, Nat.reduceMul, Nat.reduceSub, Int.natCast_zero, Int.ofNat_zero, Int.natCast_one, Int.cast_ofNat_Int, bne_self_eq_false, beq_self_eq_true, Int.reduceBEq, Int.reduceBNe, Bool.not_true, Bool.not_false, r1, r5, r7, r8, List.length_map, d1]
        refine (diskRuns_ok _).sthen fun h6 _ => ?_
        simp only [go_sem, ↓reduceIte, Nat.reduceLT, Nat.reduceEqDiff, Nat.reduceAdd, Nat.reduceLeDiff, Nat.reduceMul, Nat.reduceSub]
        exact .same (.refl _) rfl

theorem diskArms_law (x0 x1 : AV) (d0 : Dat U 3 x0) (d1 : Dat U 57 x1) : FnOK Try.prog 10 [x0, x1] noHeap fun r _ => r = .v (.bool true) := by
  obtain ⟨n, rfl, hn⟩ := d0.i64 rfl
  obtain ⟨l, rfl, h1, h2⟩ := d1.ints rfl rfl
  exact diskArms_ok n l h1 hn h2 noHeap
end Go.Proofs.Ytidpcjblciompaa
