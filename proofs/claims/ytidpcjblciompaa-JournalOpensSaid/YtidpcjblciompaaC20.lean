/- Scan, rows. -/
import Derived.Test.YtidpcjblciompaaC19
set_option linter.unusedSimpArgs false
set_option linter.unusedVariables false
namespace Go.Proofs.Ytidpcjblciompaa
open Go Go.Ab

theorem u27b : (U 27).bytes = 24 := by simp only [go_sem]
def rowA (p : List UInt8) : AV := .sl (p.map byteA) .no
theorem rowA_cells (p : List UInt8) : (rowA p).cells = [rowA p] := rfl
theorem rows_of (ps : List (List UInt8)) (h : Heap) : Ab.Rows 5 h (ps.map rowA) ps := ⟨by simp, fun i h1 h2 => by simp only [List.getElem_map]; exact .sl _ _⟩
theorem rowA_sized (ps : List (List UInt8)) : Sized 1 (ps.map rowA) := (rows_of ps noHeap).sized

/-- A slice that may grow. -/
def GrowAt (h : Heap) (y : AV) (xs : List AV) (sp : List Nat) : Prop := (y = .sl xs .full ∧ sp = []) ∨ ∃ k, y = .sl xs (.own k) ∧ h k = some (.spare xs.length 1) ∧ sp = [k]

theorem scan_drop {l : List UInt8} {at_ : Nat} {ps : List (List UInt8)} {p : List UInt8} (h : scan l = (ps ++ (scan (l.drop at_)).1, at_ + (scan (l.drop at_)).2)) (hp : beginsL (l.drop at_) = some p) :
    scan l = ((ps ++ [p]) ++ (scan (l.drop (at_ + (8 + p.length)))).1, (at_ + (8 + p.length)) + (scan (l.drop (at_ + (8 + p.length)))).2) := by
  rw [h, scan_some hp, List.drop_drop]
  simp [Nat.add_assoc]

theorem scan_ok (y : AV) (l : List UInt8) (h : Heap) (hb : By h y l) (hl : l.length ≤ 2000000) :
    FnOK Try.prog 26 [y] h fun r h' => ∃ z sp, r = .tup [z, .v (.int .i64 ((scan l).2 : Nat))] ∧ GrowAt h' z ((scan l).1.map rowA) sp ∧ Sub h h' ∧ ∀ i ∈ sp, h i = none := by
  refine FnOK.body hU hm Try.func26 rfl (by kernel_rfl) 29 rfl [.tmp 2, .tmp 3] rfl (Nat.le_of_ble_eq_true rfl) (fun hwf => ?_)
  simp -implicitDefEqProofs only [go_sem, ↓reduceIte, Nat.reduceLT, Nat.reduceEqDiff, Nat.reduceAdd, Nat.reduceLeDiff, Nat.reduceMul, Nat.reduceSub, Int.natCast_zero, Int.ofNat_zero, Int.natCast_one, Int.cast_ofNat_Int, bne_self_eq_false, beq_self_eq_true, Int.reduceBEq, Int.reduceBNe, Bool.not_true, Bool.not_false]
  refine .intro (fun m ρ h' => ∃ (i : Nat) (ps : List (List UInt8)) (z : AV), Acc U 27 h h' z (ps.map rowA) ∧ KeepObj h h' ∧ ps.length ≤ i ∧ i ≤ l.length ∧ m = l.length - i ∧ scan l = (ps ++ (scan (l.drop i)).1, i + (scan (l.drop i)).2) ∧
    lk ρ 0 = some y ∧ lk ρ 4 = some z ∧ lk ρ 5 = some (.v (.int .i64 (i : Nat)))) l.length ?_ ?_
  · refine ⟨0, [], _, .full (.refl h), .refl h, by simp, by omega, rfl, by simp, ?_, ?_, ?_⟩ <;> simp -implicitDefEqProofs only [go_sem, ↓reduceIte, Nat.reduceLT, Nat.reduceEqDiff, Nat.reduceAdd, Nat.reduceLeDiff, Nat.reduceMul, Nat.reduceSub, Int.natCast_zero, Int.ofNat_zero, Int.natCast_one, Int.cast_ofNat_Int, bne_self_eq_false, beq_self_eq_true, Int.reduceBEq, Int.reduceBNe, Bool.not_true, Bool.not_false]
  · rintro m ρ h' ⟨i, ps, z, ha, hk, hpi, hi, rfl, hsc, r0, r4, r5⟩
    have hb' := hb.keepObj hk
    simp -implicitDefEqProofs only [go_sem, ↓reduceIte, Nat.reduceLT, Nat.reduceEqDiff, Nat.reduceAdd, Nat.reduceLeDiff, Nat.reduceMul, Nat.reduceSub, Int.natCast_zero, Int.ofNat_zero, Int.natCast_one, Int.cast_ofNat_Int, bne_self_eq_false, beq_self_eq_true, Int.reduceBEq, Int.reduceBNe, Bool.not_true, Bool.not_false, r0, r4, r5]
    refine hb'.from (m := i) (x := .i64) i ?_ rfl hi u5 fun y2 hy2 => ?_
    · simp -implicitDefEqProofs only [go_sem, ↓reduceIte, Nat.reduceLT, Nat.reduceEqDiff, Nat.reduceAdd, Nat.reduceLeDiff, Nat.reduceMul, Nat.reduceSub, Int.natCast_zero, Int.ofNat_zero, Int.natCast_one, Int.cast_ofNat_Int, bne_self_eq_false, beq_self_eq_true, Int.reduceBEq, Int.reduceBNe, Bool.not_true, Bool.not_false, r0, r4, r5]
    simp -implicitDefEqProofs only [go_sem, ↓reduceIte, Nat.reduceLT, Nat.reduceEqDiff, Nat.reduceAdd, Nat.reduceLeDiff, Nat.reduceMul, Nat.reduceSub, Int.natCast_zero, Int.ofNat_zero, Int.natCast_one, Int.cast_ofNat_Int, bne_self_eq_false, beq_self_eq_true, Int.reduceBEq, Int.reduceBNe, Bool.not_true, Bool.not_false, r0, r4, r5]
    refine (begins_ok y2 (l.drop i) h' hy2 (by rw [List.length_drop]; omega)).mono fun r h2 ⟨⟨P, p, b, e1, hP, hbg⟩, e2⟩ => ?_
    subst e1; subst e2
    cases b with
    | false =>
      rw [if_neg (by simp)] at hbg
      rw [scan_none hbg] at hsc
      simp -implicitDefEqProofs only [go_sem, ↓reduceIte, Nat.reduceLT, Nat.reduceEqDiff, Nat.reduceAdd, Nat.reduceLeDiff, Nat.reduceMul, Nat.reduceSub, Int.natCast_zero, Int.ofNat_zero, Int.natCast_one, Int.cast_ofNat_Int, bne_self_eq_false, beq_self_eq_true, Int.reduceBEq, Int.reduceBNe, Bool.not_true, Bool.not_false, r0, r4, r5]
      have hs := ha.1
      rw [hsc]
      rcases ha.2 with rfl | ⟨k, k1, rfl, k2⟩
      · exact .same (.refl _) ⟨_, [], rfl, .inl ⟨by simp, rfl⟩, hs, by simp⟩
      · rw [u27] at k2
        exact .same (.refl _) ⟨_, [k], rfl, .inr ⟨k, by simp, by simpa using k2, rfl⟩, hs, by simpa using k1⟩
    | true =>
      rw [if_pos rfl] at hbg
      have hpl := beginsL_len hbg
      rw [List.length_drop] at hpl
      have hsc' := scan_drop hsc hbg
      have w1 : IntKind.i64.wrap ((8 : Int) + (p.length : Int)) = ((8 + p.length : Nat) : Int) := by rw [wrap64 _ (by omega)]; omega
      have w2 : IntKind.i64.wrap ((i : Int) + ((8 + p.length : Nat) : Int)) = ((i + (8 + p.length) : Nat) : Int) := by rw [wrap64 _ (by omega)]; omega
      simp -implicitDefEqProofs only [go_sem, ↓reduceIte, Nat.reduceLT, Nat.reduceEqDiff, Nat.reduceAdd, Nat.reduceLeDiff, Nat.reduceMul, Nat.reduceSub, Int.natCast_zero, Int.ofNat_zero, Int.natCast_one, Int.cast_ofNat_Int, bne_self_eq_false, beq_self_eq_true, Int.reduceBEq, Int.reduceBNe, Bool.not_true, Bool.not_false, r0, r4, r5]
      refine (clone_sl P p h2 hP (by omega)).pthen' ?_
      simp -implicitDefEqProofs only [go_sem, ↓reduceIte, Nat.reduceLT, Nat.reduceEqDiff, Nat.reduceAdd, Nat.reduceLeDiff, Nat.reduceMul, Nat.reduceSub, Int.natCast_zero, Int.ofNat_zero, Int.natCast_one, Int.cast_ofNat_Int, bne_self_eq_false, beq_self_eq_true, Int.reduceBEq, Int.reduceBNe, Bool.not_true, Bool.not_false, r0, r4, r5]
      refine ha.app (zs := [rowA p]) (by rw [u27]; decide) (by rw [u27b]; decide) (fun k hk => hk) (by rw [u27]; exact rowA_sized ps) (by rw [u27]; simp [Sized, rowA, AV.cells]) (by rw [u27b]; simp; omega) fun z' h3 ha' hk' => ?_
      rw [show ps.map rowA ++ [rowA p] = (ps ++ [p]).map rowA by simp] at ha'
      have hP3 := hP.keepObj hk'
      simp -implicitDefEqProofs only [go_sem, ↓reduceIte, Nat.reduceLT, Nat.reduceEqDiff, Nat.reduceAdd, Nat.reduceLeDiff, Nat.reduceMul, Nat.reduceSub, Int.natCast_zero, Int.ofNat_zero, Int.natCast_one, Int.cast_ofNat_Int, bne_self_eq_false, beq_self_eq_true, Int.reduceBEq, Int.reduceBNe, Bool.not_true, Bool.not_false, r0, r4, r5, hP3.len, w1, w2]
      refine ⟨_, ?_, i + (8 + p.length), ps ++ [p], z', ha', hk.trans hk', by simp; omega, by omega, rfl, hsc', ?_, ?_, ?_⟩
      · omega
      all_goals simp -implicitDefEqProofs only [go_sem, ↓reduceIte, Nat.reduceLT, Nat.reduceEqDiff, Nat.reduceAdd, Nat.reduceLeDiff, Nat.reduceMul, Nat.reduceSub, Int.natCast_zero, Int.ofNat_zero, Int.natCast_one, Int.cast_ofNat_Int, bne_self_eq_false, beq_self_eq_true, Int.reduceBEq, Int.reduceBNe, Bool.not_true, Bool.not_false, r0, r4, r5, hP3.len, w1, w2]

theorem rows_ok (x y : AV) (xs ys : List AV) (q0 q1 : Perm) (a b : List (List UInt8)) (h : Heap) (hx : Ab.Rows 5 h xs a) (hy : Ab.Rows 5 h ys b) (ha : a.length ≤ 1000000000) (hp : ∀ p ∈ a, p.length ≤ 1000000) :
    FnOK Try.prog 27 [.sl xs q0, .sl ys q1] h fun r h' => r = .v (.bool (decide (a = b))) ∧ h' = h := by
  refine FnOK.body hU hm Try.func27 rfl (by kernel_rfl) 27 rfl [.tmp 4] rfl (Nat.le_of_ble_eq_true rfl) (fun hwf => ?_)
  have h1 := hx.1
  have h2 := hy.1
  simp -implicitDefEqProofs only [go_sem, ↓reduceIte, Nat.reduceLT, Nat.reduceEqDiff, Nat.reduceAdd, Nat.reduceLeDiff, Nat.reduceMul, Nat.reduceSub, Int.natCast_zero, Int.ofNat_zero, Int.natCast_one, Int.cast_ofNat_Int, bne_self_eq_false, beq_self_eq_true, Int.reduceBEq, Int.reduceBNe, Bool.not_true, Bool.not_false]
  refine .intro (fun e => ?_) (fun e => ?_)
  · simp -implicitDefEqProofs only [go_sem, ↓reduceIte, Nat.reduceLT, Nat.reduceEqDiff, Nat.reduceAdd, Nat.reduceLeDiff, Nat.reduceMul, Nat.reduceSub, Int.natCast_zero, Int.ofNat_zero, Int.natCast_one, Int.cast_ofNat_Int, bne_self_eq_false, beq_self_eq_true, Int.reduceBEq, Int.reduceBNe, Bool.not_true, Bool.not_false]
    refine .same (.refl _) ⟨?_, rfl⟩
    have : a ≠ b := fun hh => by subst hh; simp [h1, h2] at e
    simp [this, oneOr]
  · have hl : xs.length = ys.length := by simpa [Int.natCast_inj] using e
    simp -implicitDefEqProofs only [go_sem, ↓reduceIte, Nat.reduceLT, Nat.reduceEqDiff, Nat.reduceAdd, Nat.reduceLeDiff, Nat.reduceMul, Nat.reduceSub, Int.natCast_zero, Int.ofNat_zero, Int.natCast_one, Int.cast_ofNat_Int, bne_self_eq_false, beq_self_eq_true, Int.reduceBEq, Int.reduceBNe, Bool.not_true, Bool.not_false]
    refine .intro (fun m ρ h' => h' = h ∧ ∃ i : Nat, i ≤ a.length ∧ m = a.length - i ∧ a.take i = b.take i ∧ lk ρ 0 = some (.sl xs q0) ∧ lk ρ 1 = some (.sl ys q1) ∧ lk ρ 12 = some (.v (.int .i64 xs.length)) ∧ lk ρ 13 = some (.v (.int .i64 i))) a.length ?_ ?_
    · refine ⟨rfl, 0, Nat.zero_le _, rfl, rfl, ?_, ?_, ?_, ?_⟩ <;> simp -implicitDefEqProofs only [go_sem, ↓reduceIte, Nat.reduceLT, Nat.reduceEqDiff, Nat.reduceAdd, Nat.reduceLeDiff, Nat.reduceMul, Nat.reduceSub, Int.natCast_zero, Int.ofNat_zero, Int.natCast_one, Int.cast_ofNat_Int, bne_self_eq_false, beq_self_eq_true, Int.reduceBEq, Int.reduceBNe, Bool.not_true, Bool.not_false]
    · rintro m ρ h' ⟨rfl, i, hi, rfl, hab, r0, r1, r12, r13⟩
      simp -implicitDefEqProofs only [go_sem, ↓reduceIte, Nat.reduceLT, Nat.reduceEqDiff, Nat.reduceAdd, Nat.reduceLeDiff, Nat.reduceMul, Nat.reduceSub, Int.natCast_zero, Int.ofNat_zero, Int.natCast_one, Int.cast_ofNat_Int, bne_self_eq_false, beq_self_eq_true, Int.reduceBEq, Int.reduceBNe, Bool.not_true, Bool.not_false, r0, r1, r12, r13]
      refine .intro (fun e => ?_) (fun e => ?_)
      · have hlt : i < xs.length := Int.ofNat_lt.1 (of_decide_eq_true e)
        have hlty : i < ys.length := by omega
        have hlta : i < a.length := by omega
        have hltb : i < b.length := by omega
        have bx := hx.2 i hlt hlta
        have by' := hy.2 i hlty hltb
        have w1 : IntKind.i64.wrap ((i : Int) + 1) = ((i + 1 : Nat) : Int) := by rw [wrap64 _ (by omega)]; omega
        simp -implicitDefEqProofs only [go_sem, ↓reduceIte, Nat.reduceLT, Nat.reduceEqDiff, Nat.reduceAdd, Nat.reduceLeDiff, Nat.reduceMul, Nat.reduceSub, Int.natCast_zero, Int.ofNat_zero, Int.natCast_one, Int.cast_ofNat_Int, bne_self_eq_false, beq_self_eq_true, Int.reduceBEq, Int.reduceBNe, Bool.not_true, Bool.not_false, r0, r1, r12, r13]
        refine .quiet (by kernel_rfl) ?_
        simp -implicitDefEqProofs only [go_sem, ↓reduceIte, Nat.reduceLT, Nat.reduceEqDiff, Nat.reduceAdd, Nat.reduceLeDiff, Nat.reduceMul, Nat.reduceSub, Int.natCast_zero, Int.ofNat_zero, Int.natCast_one, Int.cast_ofNat_Int, bne_self_eq_false, beq_self_eq_true, Int.reduceBEq, Int.reduceBNe, Bool.not_true, Bool.not_false, r0, r1, r12, r13]
        refine .at i hlt (by rw [bx.cells]; rfl) ?_
        simp -implicitDefEqProofs only [go_sem, ↓reduceIte, Nat.reduceLT, Nat.reduceEqDiff, Nat.reduceAdd, Nat.reduceLeDiff, Nat.reduceMul, Nat.reduceSub, Int.natCast_zero, Int.ofNat_zero, Int.natCast_one, Int.cast_ofNat_Int, bne_self_eq_false, beq_self_eq_true, Int.reduceBEq, Int.reduceBNe, Bool.not_true, Bool.not_false, r0, r1, r12, r13, bx.cells, bx.noAgg, and_self]
        refine .at i hlty (by rw [by'.cells]; rfl) ?_
        simp -implicitDefEqProofs only [go_sem, ↓reduceIte, Nat.reduceLT, Nat.reduceEqDiff, Nat.reduceAdd, Nat.reduceLeDiff, Nat.reduceMul, Nat.reduceSub, Int.natCast_zero, Int.ofNat_zero, Int.natCast_one, Int.cast_ofNat_Int, bne_self_eq_false, beq_self_eq_true, Int.reduceBEq, Int.reduceBNe, Bool.not_true, Bool.not_false, r0, r1, r12, r13, by'.cells, by'.noAgg, and_self]
        refine ⟨_, same_ok _ _ a[i] b[i] h' bx by' (by have := hp _ (List.getElem_mem hlta); omega), ?_⟩
        by_cases hc : a[i] = b[i]
        · simp -implicitDefEqProofs only [go_sem, ↓reduceIte, Nat.reduceLT, Nat.reduceEqDiff, Nat.reduceAdd, Nat.reduceLeDiff, Nat.reduceMul, Nat.reduceSub, Int.natCast_zero, Int.ofNat_zero, Int.natCast_one, Int.cast_ofNat_Int, bne_self_eq_false, beq_self_eq_true, Int.reduceBEq, Int.reduceBNe, Bool.not_true, Bool.not_false, r0, r1, r12, r13, decide_eq_true hc, w1]
          refine ⟨_, ?_, rfl, i + 1, by omega, rfl, ?_, ?_, ?_, ?_, ?_⟩
          · omega
          · rw [List.take_succ_eq_append_getElem hlta, List.take_succ_eq_append_getElem hltb, hab, hc]
          all_goals simp -implicitDefEqProofs only [go_sem, ↓reduceIte, Nat.reduceLT, Nat.reduceEqDiff, Nat.reduceAdd, Nat.reduceLeDiff, Nat.reduceMul, Nat.reduceSub, Int.natCast_zero, Int.ofNat_zero, Int.natCast_one, Int.cast_ofNat_Int, bne_self_eq_false, beq_self_eq_true, Int.reduceBEq, Int.reduceBNe, Bool.not_true, Bool.not_false, r0, r1, r12, r13, w1]
        · simp -implicitDefEqProofs only [go_sem, ↓reduceIte, Nat.reduceLT, Nat.reduceEqDiff, Nat.reduceAdd, Nat.reduceLeDiff, Nat.reduceMul, Nat.reduceSub, Int.natCast_zero, Int.ofNat_zero, Int.natCast_one, Int.cast_ofNat_Int, bne_self_eq_false, beq_self_eq_true, Int.reduceBEq, Int.reduceBNe, Bool.not_true, Bool.not_false, r0, r1, r12, r13, decide_eq_false hc]
          refine .same (.refl _) ⟨?_, rfl⟩
          have : a ≠ b := fun hh => hc (by subst hh; rfl)
          simp [this, oneOr]
      · have hge : i = a.length := by have := of_decide_eq_false e; omega
        subst hge
        simp -implicitDefEqProofs only [go_sem, ↓reduceIte, Nat.reduceLT, Nat.reduceEqDiff, Nat.reduceAdd, Nat.reduceLeDiff, Nat.reduceMul, Nat.reduceSub, Int.natCast_zero, Int.ofNat_zero, Int.natCast_one, Int.cast_ofNat_Int, bne_self_eq_false, beq_self_eq_true, Int.reduceBEq, Int.reduceBNe, Bool.not_true, Bool.not_false, r0, r1, r12, r13]
        refine .same (.refl _) ⟨?_, rfl⟩
        have : a = b := by
          rw [List.take_length] at hab
          rw [hab, show a.length = b.length by omega, List.take_length]
        simp [this, oneOr]
end Go.Proofs.Ytidpcjblciompaa
