/- The law ShowRuns: pack 4 of its texts. -/
import Derived.Shelf.Strings.BuilderK
import Derived.Test.YtdcchpbncckhlaaDoorProg
import Derived.KernelRfl
import Derived.Test.YtdcchpbncckhlaaDoorChecked
import Derived.WalkKit
import Derived.BigCall
import Derived.StillTailTactics
import Derived.Test.YtdcchpbncckhlaaDoorQ1
import Derived.Test.YtdcchpbncckhlaaDoorQ2
import Derived.Test.YtdcchpbncckhlaaDoorQ3
/- Expressions: one step of the stack. -/
set_option linter.unusedSimpArgs false
set_option linter.unusedVariables false
namespace Go.Proofs.YtdcchpbncckhlaaDoor
open Go Go.Ab Go.Bf

theorem u4 : (U 4).sz = 1 := by simp only [go_sem]
theorem u4a : (U 4).k.agg = false := by simp only [go_sem]
theorem u4b : (U 4).bytes = 1 := by simp only [go_sem]
theorem u4f : fit (U 4).zero 1 := by simp only [go_sem]
theorem u4n : isAggA (U 4).zero = false := by simp only [go_sem]
theorem b_one (l : List Bool) : One (l.map boolA) := One.map (fun _ => rfl) l

theorem step_ok (y : AV) (st : List Bool) (n : NodeD) (h0 h : Heap) (hy : WrA 4 h0 h y (st.map boolA)) (hl : st.length ≤ 1000000) :
    FnOK Tryd.prog 66 [y, nodeA n] h fun r h' => ∃ z, r = .tup [z, .v (.bool (stepD st n).isSome)] ∧ match stepD st n with
      | none => Ab.Sub h0 h'
      | some st' => WrA 4 h0 h' z (st'.map boolA) := by
  refine FnOK.body hU hm Tryd.func66 rfl (by kernel_rfl) 60 rfl [.tmp 4, .tmp 5] rfl (Nat.le_of_ble_eq_true rfl) (fun hwf => ?_)
  simp -implicitDefEqProofs only [go_sem, ↓reduceIte, Nat.reduceLT, Nat.reduceEqDiff, Nat.reduceAdd, Nat.reduceLeDiff, Nat.reduceMul, Nat.reduceSub, Int.natCast_zero, Int.ofNat_zero, Int.natCast_one, Int.cast_ofNat_Int, bne_self_eq_false, beq_self_eq_true, Int.reduceBEq, Int.reduceBNe, Bool.not_true, Bool.not_false, nodeA]
  intro id hid
  simp -implicitDefEqProofs only [go_sem, ↓reduceIte, Nat.reduceLT, Nat.reduceEqDiff, Nat.reduceAdd, Nat.reduceLeDiff, Nat.reduceMul, Nat.reduceSub, Int.natCast_zero, Int.ofNat_zero, Int.natCast_one, Int.cast_ofNat_Int, bne_self_eq_false, beq_self_eq_true, Int.reduceBEq, Int.reduceBNe, Bool.not_true, Bool.not_false]
  have hyb := hy.base hid (some (.obj [.v (.int .i64 n.op), .v (.int .i64 n.val.kind), .v (.int .i64 n.val.n), .s n.val.s, .v (.int .i64 n.attr.cat), .s n.attr.name, .v (.bool n.attr.must)] 33))
  have hw := wants_ok n.op (upd h id (some (.obj [.v (.int .i64 n.op), .v (.int .i64 n.val.kind), .v (.int .i64 n.val.n), .s n.val.s, .v (.int .i64 n.attr.cat), .s n.attr.name, .v (.bool n.attr.must)] 33)))
  cases hwd : wantsD n.op with
  | none =>
    rw [hwd] at hw
    have hst : stepD st n = none := by simp [stepD, hwd]
    refine hw.pthen ?_
    simp -implicitDefEqProofs only [go_sem, ↓reduceIte, Nat.reduceLT, Nat.reduceEqDiff, Nat.reduceAdd, Nat.reduceLeDiff, Nat.reduceMul, Nat.reduceSub, Int.natCast_zero, Int.ofNat_zero, Int.natCast_one, Int.cast_ofNat_Int, bne_self_eq_false, beq_self_eq_true, Int.reduceBEq, Int.reduceBNe, Bool.not_true, Bool.not_false]
    exact .mk _ (.refl _) (.upd_new hid) ⟨_, by rw [hst]; rfl, by rw [hst]; exact hy.1⟩
  | some w =>
    rw [hwd] at hw
    have hwl : w.length ≤ 2 := by
      unfold wantsD at hwd
      repeat' split at hwd
      all_goals first | (cases hwd; simp; done) | (cases hwd)
    refine hw.pthen ?_
    simp -implicitDefEqProofs only [go_sem, ↓reduceIte, Nat.reduceLT, Nat.reduceEqDiff, Nat.reduceAdd, Nat.reduceLeDiff, Nat.reduceMul, Nat.reduceSub, Int.natCast_zero, Int.ofNat_zero, Int.natCast_one, Int.cast_ofNat_Int, bne_self_eq_false, beq_self_eq_true, Int.reduceBEq, Int.reduceBNe, Bool.not_true, Bool.not_false]
    refine (fields_ok n _).pthen ?_
    cases d1 : fieldsOK n
    · have hst : stepD st n = none := by simp [stepD, hwd, d1]
      simp -implicitDefEqProofs only [go_sem, ↓reduceIte, Nat.reduceLT, Nat.reduceEqDiff, Nat.reduceAdd, Nat.reduceLeDiff, Nat.reduceMul, Nat.reduceSub, Int.natCast_zero, Int.ofNat_zero, Int.natCast_one, Int.cast_ofNat_Int, bne_self_eq_false, beq_self_eq_true, Int.reduceBEq, Int.reduceBNe, Bool.not_true, Bool.not_false, d1]
      exact .mk _ (.refl _) (.upd_new hid) ⟨_, by rw [hst]; rfl, by rw [hst]; exact hy.1⟩
    cases d2 : decide ((st.length : Int) < (w.length : Int))
    case true =>
      have e2 : ¬ w.length ≤ st.length := by have := of_decide_eq_true d2; omega
      have hst : stepD st n = none := by simp [stepD, hwd, d1, e2]
      simp -implicitDefEqProofs only [go_sem, ↓reduceIte, Nat.reduceLT, Nat.reduceEqDiff, Nat.reduceAdd, Nat.reduceLeDiff, Nat.reduceMul, Nat.reduceSub, Int.natCast_zero, Int.ofNat_zero, Int.natCast_one, Int.cast_ofNat_Int, bne_self_eq_false, beq_self_eq_true, Int.reduceBEq, Int.reduceBNe, Bool.not_true, Bool.not_false, d1, hyb.len, List.length_map, d2]
      exact .mk _ (.refl _) (.upd_new hid) ⟨_, by rw [hst]; rfl, by rw [hst]; exact hy.1⟩
    have e2 : w.length ≤ st.length := by have := of_decide_eq_false d2; omega
    have w1 : IntKind.i64.wrap ((st.length : Int) - (w.length : Int)) = ((st.length - w.length : Nat) : Int) := by rw [wr64 _ (by omega)]; omega
    obtain ⟨hb, ehb⟩ : ∃ hb, upd h id (some (.obj [.v (.int .i64 n.op), .v (.int .i64 n.val.kind), .v (.int .i64 n.val.n), .s n.val.s, .v (.int .i64 n.attr.cat), .s n.attr.name, .v (.bool n.attr.must)] 33)) = hb := ⟨_, rfl⟩
    have hbid : hb id = some (.obj [.v (.int .i64 n.op), .v (.int .i64 n.val.kind), .v (.int .i64 n.val.n), .s n.val.s, .v (.int .i64 n.attr.cat), .s n.attr.name, .v (.bool n.attr.must)] 33) := by rw [← ehb]; exact upd_same ..
    have hsub : Ab.Sub h hb := by rw [← ehb]; exact .upd_new hid
    rw [ehb] at hyb ⊢
    simp -implicitDefEqProofs only [go_sem, ↓reduceIte, Nat.reduceLT, Nat.reduceEqDiff, Nat.reduceAdd, Nat.reduceLeDiff, Nat.reduceMul, Nat.reduceSub, Int.natCast_zero, Int.ofNat_zero, Int.natCast_one, Int.cast_ofNat_Int, bne_self_eq_false, beq_self_eq_true, Int.reduceBEq, Int.reduceBNe, Bool.not_true, Bool.not_false, d1, hyb.len, List.length_map, d2, w1]
    refine .intro (fun m ρ h' => h' = hb ∧ ∃ i : Nat, i ≤ w.length ∧ m = w.length - i ∧ (∀ j, j < i → st[st.length - w.length + j]? = w[j]?) ∧ lk ρ 0 = some y ∧ lk ρ 3 = some (.ptr id 0) ∧ lk ρ 8 = some (.v (.int .i64 ((st.length - w.length : Nat) : Int))) ∧ lk ρ 36 = some (.sl (w.map boolA) .no) ∧ lk ρ 37 = some (.v (.int .i64 w.length)) ∧ lk ρ 38 = some (.v (.int .i64 i))) w.length ?_ ?_
    · refine ⟨rfl, 0, by omega, rfl, fun j hj => (by omega), ?_, ?_, ?_, ?_, ?_, ?_⟩ <;> simp -implicitDefEqProofs only [go_sem, ↓reduceIte, Nat.reduceLT, Nat.reduceEqDiff, Nat.reduceAdd, Nat.reduceLeDiff, Nat.reduceMul, Nat.reduceSub, Int.natCast_zero, Int.ofNat_zero, Int.natCast_one, Int.cast_ofNat_Int, bne_self_eq_false, beq_self_eq_true, Int.reduceBEq, Int.reduceBNe, Bool.not_true, Bool.not_false]
    · rintro m ρ h' ⟨rfl, i, hi, rfl, hc, r0, r3, r8, r36, r37, r38⟩
      simp -implicitDefEqProofs only [go_sem, ↓reduceIte, Nat.reduceLT, Nat.reduceEqDiff, Nat.reduceAdd, Nat.reduceLeDiff, Nat.reduceMul, Nat.reduceSub, Int.natCast_zero, Int.ofNat_zero, Int.natCast_one, Int.cast_ofNat_Int, bne_self_eq_false, beq_self_eq_true, Int.reduceBEq, Int.reduceBNe, Bool.not_true, Bool.not_false, r0, r3, r8, r36, r37, r38]
      refine .intro (fun e => ?_) (fun e => ?_)
      · have hlt : i < w.length := Int.ofNat_lt.1 (of_decide_eq_true e)
        have w2 : IntKind.i64.wrap ((i : Int) + 1) = ((i + 1 : Nat) : Int) := by rw [wr64 _ (by omega)]; omega
        have w3 : IntKind.i64.wrap (((st.length - w.length : Nat) : Int) + (i : Int)) = ((st.length - w.length + i : Nat) : Int) := by rw [wr64 _ (by omega)]; omega
        have hlt2 : st.length - w.length + i < st.length := by omega
        simp -implicitDefEqProofs only [go_sem, ↓reduceIte, Nat.reduceLT, Nat.reduceEqDiff, Nat.reduceAdd, Nat.reduceLeDiff, Nat.reduceMul, Nat.reduceSub, Int.natCast_zero, Int.ofNat_zero, Int.natCast_one, Int.cast_ofNat_Int, bne_self_eq_false, beq_self_eq_true, Int.reduceBEq, Int.reduceBNe, Bool.not_true, Bool.not_false, r0, r3, r8, r36, r37, r38]
        refine .at i (by simpa using hlt) (by rw [List.getElem_map]; rfl) ?_
        simp -implicitDefEqProofs only [go_sem, ↓reduceIte, Nat.reduceLT, Nat.reduceEqDiff, Nat.reduceAdd, Nat.reduceLeDiff, Nat.reduceMul, Nat.reduceSub, Int.natCast_zero, Int.ofNat_zero, Int.natCast_one, Int.cast_ofNat_Int, bne_self_eq_false, beq_self_eq_true, Int.reduceBEq, Int.reduceBNe, Bool.not_true, Bool.not_false, r0, r3, r8, r36, r37, r38, List.getElem_map, boolA, w3]
        refine hyb.idx (b_one st) (st.length - w.length + i) rfl (by simpa using hlt2) u4 u4a fun p hp => ?_
        simp -implicitDefEqProofs only [go_sem, ↓reduceIte, Nat.reduceLT, Nat.reduceEqDiff, Nat.reduceAdd, Nat.reduceLeDiff, Nat.reduceMul, Nat.reduceSub, Int.natCast_zero, Int.ofNat_zero, Int.natCast_one, Int.cast_ofNat_Int, bne_self_eq_false, beq_self_eq_true, Int.reduceBEq, Int.reduceBNe, Bool.not_true, Bool.not_false, r0, r3, r8, r36, r37, r38, hp _, List.getElem_map, boolA]
        cases d3 : (st[st.length - w.length + i] == w[i])
        · have hst : stepD st n = none := by
            have : st.drop (st.length - w.length) ≠ w := fun hh => by
              have := congrArg (fun q => q[i]?) hh
              simp only [List.getElem?_drop, List.getElem?_eq_getElem hlt, List.getElem?_eq_getElem hlt2, Option.some.injEq] at this
              rw [this] at d3; simp at d3
            simp [stepD, hwd, this]
          simp -implicitDefEqProofs only [go_sem, ↓reduceIte, Nat.reduceLT, Nat.reduceEqDiff, Nat.reduceAdd, Nat.reduceLeDiff, Nat.reduceMul, Nat.reduceSub, Int.natCast_zero, Int.ofNat_zero, Int.natCast_one, Int.cast_ofNat_Int, bne_self_eq_false, beq_self_eq_true, Int.reduceBEq, Int.reduceBNe, Bool.not_true, Bool.not_false, r0, r3, r8, r36, r37, r38, d3]
          exact .mk _ (.refl _) hsub ⟨_, by rw [hst]; rfl, by rw [hst]; exact hy.1⟩
        · simp -implicitDefEqProofs only [go_sem, ↓reduceIte, Nat.reduceLT, Nat.reduceEqDiff, Nat.reduceAdd, Nat.reduceLeDiff, Nat.reduceMul, Nat.reduceSub, Int.natCast_zero, Int.ofNat_zero, Int.natCast_one, Int.cast_ofNat_Int, bne_self_eq_false, beq_self_eq_true, Int.reduceBEq, Int.reduceBNe, Bool.not_true, Bool.not_false, r0, r3, r8, r36, r37, r38, d3, w2]
          refine ⟨_, ?_, rfl, i + 1, by omega, rfl, fun j hj => ?_, ?_, ?_, ?_, ?_, ?_, ?_⟩
          · omega
          · by_cases hji : j = i
            · subst hji
              rw [List.getElem?_eq_getElem hlt2, List.getElem?_eq_getElem hlt]
              simpa using d3
            · exact hc j (by omega)
          all_goals simp -implicitDefEqProofs only [go_sem, ↓reduceIte, Nat.reduceLT, Nat.reduceEqDiff, Nat.reduceAdd, Nat.reduceLeDiff, Nat.reduceMul, Nat.reduceSub, Int.natCast_zero, Int.ofNat_zero, Int.natCast_one, Int.cast_ofNat_Int, bne_self_eq_false, beq_self_eq_true, Int.reduceBEq, Int.reduceBNe, Bool.not_true, Bool.not_false, r0, r3, r8, r36, r37, r38, w2]
      · have hge : i = w.length := by have := of_decide_eq_false e; omega
        subst hge
        have hdrop : st.drop (st.length - w.length) = w := by
          apply List.ext_getElem?
          intro j
          rw [List.getElem?_drop]
          by_cases hj : j < w.length
          · exact hc j hj
          · rw [List.getElem?_eq_none (by omega), List.getElem?_eq_none (by omega)]
        have hst : stepD st n = some (st.take (st.length - w.length) ++ [n.op == 2]) := by
          simp [stepD, hwd, d1, e2, hdrop]
        simp -implicitDefEqProofs only [go_sem, ↓reduceIte, Nat.reduceLT, Nat.reduceEqDiff, Nat.reduceAdd, Nat.reduceLeDiff, Nat.reduceMul, Nat.reduceSub, Int.natCast_zero, Int.ofNat_zero, Int.natCast_one, Int.cast_ofNat_Int, bne_self_eq_false, beq_self_eq_true, Int.reduceBEq, Int.reduceBNe, Bool.not_true, Bool.not_false, r0, r3, r8, r36, r37, r38]
        refine .calls (hm1 id _) [0, 1, 2, 3, 4, 5, 6, 7, 8, 9] (.hm1 hbid) (by kernel_rfl) rfl ?_
        simp -implicitDefEqProofs only [go_sem, ↓reduceIte, Nat.reduceLT, Nat.reduceEqDiff, Nat.reduceAdd, Nat.reduceLeDiff, Nat.reduceMul, Nat.reduceSub, Int.natCast_zero, Int.ofNat_zero, Int.natCast_one, Int.cast_ofNat_Int, bne_self_eq_false, beq_self_eq_true, Int.reduceBEq, Int.reduceBNe, Bool.not_true, Bool.not_false, r0, r3, r8, r36, r37, r38]
        refine hyb.cut (x := .i64) (st.length - w.length) (by simp -implicitDefEqProofs only [go_sem, ↓reduceIte, Nat.reduceLT, Nat.reduceEqDiff, Nat.reduceAdd, Nat.reduceLeDiff, Nat.reduceMul, Nat.reduceSub, Int.natCast_zero, Int.ofNat_zero, Int.natCast_one, Int.cast_ofNat_Int, bne_self_eq_false, beq_self_eq_true, Int.reduceBEq, Int.reduceBNe, Bool.not_true, Bool.not_false, r0, r3, r8]) rfl (by simp) u4 fun z hz => ?_
        rw [← List.map_take] at hz
        simp -implicitDefEqProofs only [go_sem, ↓reduceIte, Nat.reduceLT, Nat.reduceEqDiff, Nat.reduceAdd, Nat.reduceLeDiff, Nat.reduceMul, Nat.reduceSub, Int.natCast_zero, Int.ofNat_zero, Int.natCast_one, Int.cast_ofNat_Int, bne_self_eq_false, beq_self_eq_true, Int.reduceBEq, Int.reduceBNe, Bool.not_true, Bool.not_false, r0, r3, r8, r36, r37, r38, hm1_same]
        refine hz.app (zs := [.v (.bool (n.op == 2))]) (b_one _) (b_one [n.op == 2]) u4 (by rw [u4b]; decide) u4f u4n (fun k hk => hk) (by rw [u4b]; simp; omega) fun z' h2 hz' => ?_
        refine ⟨fun j b hj => ((Sub.hm1 (upd_same ..)).trans hz'.1) j b hj, ?_⟩
        simp -implicitDefEqProofs only [go_sem, ↓reduceIte, Nat.reduceLT, Nat.reduceEqDiff, Nat.reduceAdd, Nat.reduceLeDiff, Nat.reduceMul, Nat.reduceSub, Int.natCast_zero, Int.ofNat_zero, Int.natCast_one, Int.cast_ofNat_Int, bne_self_eq_false, beq_self_eq_true, Int.reduceBEq, Int.reduceBNe, Bool.not_true, Bool.not_false, r0, r3, r8]
        have hz2 := hz'.less (Sub.upd_new (hy.1.none hid))
        refine .same (.refl _) ⟨z', by rw [hst]; rfl, ?_⟩
        rw [hst]
        simp only [List.map_append]
        exact hz2

theorem condE_none {l : List NodeD} (h : l.length ≤ 32) (hs : stepsD [] l = none) : exprE l = 1 := by
  simp [exprE, hs, Nat.not_lt.2 h]
theorem stepsD_split (st : List Bool) : ∀ (l : List NodeD) (i : Nat), stepsD st l = (match stepsD st (l.take i) with
    | none => none
    | some st' => stepsD st' (l.drop i))
  | [], i => by simp [stepsD]
  | n :: r, 0 => by simp [stepsD]
  | n :: r, i + 1 => by
    simp only [List.take_succ_cons, List.drop_succ_cons, stepsD]
    cases stepD st n with
    | none => rfl
    | some st' => simp only; exact stepsD_split st' r i
theorem stepsD_length (st st' : List Bool) (l : List NodeD) (h : stepsD st l = some st') : st'.length ≤ st.length + l.length := by
  induction l generalizing st with
  | nil => simp only [stepsD, Option.some.injEq] at h; subst h; simp
  | cons n r ih =>
    simp only [stepsD] at h
    cases hs : stepD st n with
    | none => rw [hs] at h; cases h
    | some s2 =>
      rw [hs] at h
      have := ih s2 h
      unfold stepD at hs
      split at hs
      · cases hs
      · split at hs
        · cases hs
          simp at this ⊢
          omega
        · cases hs

theorem expr_ok (l : List NodeD) (h : Heap) : FnOK Tryd.prog 38 [condA l] h fun r h' => r = .v (.int .i64 (exprE l)) ∧ h' = h := by
  refine FnOK.body hU hm Tryd.func38 rfl (by kernel_rfl) 38 rfl [.tmp 2] rfl (Nat.le_of_ble_eq_true rfl) (fun hwf => ?_)
  cases d1 : decide (32 < (l.length : Int))
  case true =>
    have e1 : 32 < l.length := by have := of_decide_eq_true d1; omega
    simp -implicitDefEqProofs only [go_sem, ↓reduceIte, Nat.reduceLT, Nat.reduceEqDiff, Nat.reduceAdd, Nat.reduceLeDiff, Nat.reduceMul, Nat.reduceSub, Int.natCast_zero, Int.ofNat_zero, Int.natCast_one, Int.cast_ofNat_Int, bne_self_eq_false, beq_self_eq_true, Int.reduceBEq, Int.reduceBNe, Bool.not_true, Bool.not_false, condA, List.length_map, d1]
    exact .same (.refl _) ⟨by simp [exprE, e1, oneOr], rfl⟩
  have e1 : l.length ≤ 32 := by have := of_decide_eq_false d1; omega
  simp -implicitDefEqProofs only [go_sem, ↓reduceIte, Nat.reduceLT, Nat.reduceEqDiff, Nat.reduceAdd, Nat.reduceLeDiff, Nat.reduceMul, Nat.reduceSub, Int.natCast_zero, Int.ofNat_zero, Int.natCast_one, Int.cast_ofNat_Int, bne_self_eq_false, beq_self_eq_true, Int.reduceBEq, Int.reduceBNe, Bool.not_true, Bool.not_false, condA, List.length_map, d1]
  refine .intro (fun m ρ h' => ∃ (i : Nat) (y : AV) (st : List Bool), WrA 4 h h' y (st.map boolA) ∧ stepsD [] (l.take i) = some st ∧ i ≤ l.length ∧ m = l.length - i ∧
    lk ρ 0 = some (condA l) ∧ lk ρ 3 = some y ∧ lk ρ 10 = some (condA l) ∧ lk ρ 11 = some (.v (.int .i64 l.length)) ∧ lk ρ 12 = some (.v (.int .i64 i))) l.length ?_ ?_
  · refine ⟨0, _, [], .nil (.refl _), rfl, by omega, rfl, ?_, ?_, ?_, ?_, ?_⟩ <;> simp -implicitDefEqProofs only [go_sem, ↓reduceIte, Nat.reduceLT, Nat.reduceEqDiff, Nat.reduceAdd, Nat.reduceLeDiff, Nat.reduceMul, Nat.reduceSub, Int.natCast_zero, Int.ofNat_zero, Int.natCast_one, Int.cast_ofNat_Int, bne_self_eq_false, beq_self_eq_true, Int.reduceBEq, Int.reduceBNe, Bool.not_true, Bool.not_false, condA]
  · rintro m ρ h' ⟨i, y, st, hy, hst, hi, rfl, r0, r3, r10, r11, r12⟩
    have hsl := stepsD_length _ _ _ hst
    have hsl : st.length ≤ i := by simpa [Nat.min_eq_left hi] using hsl
    simp -implicitDefEqProofs only [go_sem, ↓reduceIte, Nat.reduceLT, Nat.reduceEqDiff, Nat.reduceAdd, Nat.reduceLeDiff, Nat.reduceMul, Nat.reduceSub, Int.natCast_zero, Int.ofNat_zero, Int.natCast_one, Int.cast_ofNat_Int, bne_self_eq_false, beq_self_eq_true, Int.reduceBEq, Int.reduceBNe, Bool.not_true, Bool.not_false, r0, r3, r10, r11, r12]
    refine .intro (fun e => ?_) (fun e => ?_)
    · have hlt : i < l.length := Int.ofNat_lt.1 (of_decide_eq_true e)
      have w1 : IntKind.i64.wrap ((i : Int) + 1) = ((i + 1 : Nat) : Int) := by rw [wr64 _ (by omega)]; omega
      have hnx : stepsD [] (l.take (i + 1)) = stepD st l[i] := by
        rw [stepsD_split [] _ i, List.take_take, Nat.min_eq_left (by omega), hst, List.take_succ_eq_append_getElem hlt, List.drop_append_of_le_length (by simp; omega), List.drop_of_length_le (by simp; omega)]
        simp only [List.nil_append, stepsD]
        cases stepD st l[i] <;> rfl
      simp -implicitDefEqProofs only [go_sem, ↓reduceIte, Nat.reduceLT, Nat.reduceEqDiff, Nat.reduceAdd, Nat.reduceLeDiff, Nat.reduceMul, Nat.reduceSub, Int.natCast_zero, Int.ofNat_zero, Int.natCast_one, Int.cast_ofNat_Int, bne_self_eq_false, beq_self_eq_true, Int.reduceBEq, Int.reduceBNe, Bool.not_true, Bool.not_false, r0, r3, r10, r11, r12, condA]
      refine .at i (by simpa using hlt) (by rw [List.getElem_map]; rfl) ?_
      simp -implicitDefEqProofs only [go_sem, ↓reduceIte, Nat.reduceLT, Nat.reduceEqDiff, Nat.reduceAdd, Nat.reduceLeDiff, Nat.reduceMul, Nat.reduceSub, Int.natCast_zero, Int.ofNat_zero, Int.natCast_one, Int.cast_ofNat_Int, bne_self_eq_false, beq_self_eq_true, Int.reduceBEq, Int.reduceBNe, Bool.not_true, Bool.not_false, r0, r3, r10, r11, r12, List.getElem_map, nodeA]
      intro id hid
      simp -implicitDefEqProofs only [go_sem, ↓reduceIte, Nat.reduceLT, Nat.reduceEqDiff, Nat.reduceAdd, Nat.reduceLeDiff, Nat.reduceMul, Nat.reduceSub, Int.natCast_zero, Int.ofNat_zero, Int.natCast_one, Int.cast_ofNat_Int, bne_self_eq_false, beq_self_eq_true, Int.reduceBEq, Int.reduceBNe, Bool.not_true, Bool.not_false, r0, r3, r10, r11, r12]
      have hyb := hy.sub (Sub.upd_new (k := some (.obj [.v (.int .i64 l[i].op), .v (.int .i64 l[i].val.kind), .v (.int .i64 l[i].val.n), .s l[i].val.s, .v (.int .i64 l[i].attr.cat), .s l[i].attr.name, .v (.bool l[i].attr.must)] 33)) hid)
      refine (step_ok y st l[i] h _ hyb (by omega)).mono fun r h2 ⟨z, e2, hz⟩ => ?_
      subst e2
      cases hsd : stepD st l[i] with
      | none =>
        rw [hsd] at hz
        simp -implicitDefEqProofs only [go_sem, ↓reduceIte, Nat.reduceLT, Nat.reduceEqDiff, Nat.reduceAdd, Nat.reduceLeDiff, Nat.reduceMul, Nat.reduceSub, Int.natCast_zero, Int.ofNat_zero, Int.natCast_one, Int.cast_ofNat_Int, bne_self_eq_false, beq_self_eq_true, Int.reduceBEq, Int.reduceBNe, Bool.not_true, Bool.not_false, r0, r3, r10, r11, r12, Option.isSome_none]
        refine .mk _ (.refl _) hz ⟨?_, rfl⟩
        rw [condE_none e1 (by rw [stepsD_split [] l (i + 1), hnx, hsd])]; rfl
      | some st' =>
        rw [hsd] at hz hnx
        simp -implicitDefEqProofs only [go_sem, ↓reduceIte, Nat.reduceLT, Nat.reduceEqDiff, Nat.reduceAdd, Nat.reduceLeDiff, Nat.reduceMul, Nat.reduceSub, Int.natCast_zero, Int.ofNat_zero, Int.natCast_one, Int.cast_ofNat_Int, bne_self_eq_false, beq_self_eq_true, Int.reduceBEq, Int.reduceBNe, Bool.not_true, Bool.not_false, r0, r3, r10, r11, r12, Option.isSome_some, w1]
        refine ⟨_, ?_, i + 1, z, st', hz, hnx, by omega, rfl, ?_, ?_, ?_, ?_, ?_⟩
        · omega
        all_goals simp -implicitDefEqProofs only [go_sem, ↓reduceIte, Nat.reduceLT, Nat.reduceEqDiff, Nat.reduceAdd, Nat.reduceLeDiff, Nat.reduceMul, Nat.reduceSub, Int.natCast_zero, Int.ofNat_zero, Int.natCast_one, Int.cast_ofNat_Int, bne_self_eq_false, beq_self_eq_true, Int.reduceBEq, Int.reduceBNe, Bool.not_true, Bool.not_false, r0, r3, r10, r11, r12, w1, condA]
    · have hge : i = l.length := by have := of_decide_eq_false e; omega
      subst hge
      rw [List.take_length] at hst
      have he : exprE l = if l = [] ∨ st = [false] then 0 else 1 := by
        simp only [exprE, hst]
        rw [if_neg (by omega)]
      cases d2 : decide (0 < (l.length : Int))
      · have e2 : l = [] := by have := of_decide_eq_false d2; exact List.length_eq_zero_iff.1 (by omega)
        simp -implicitDefEqProofs only [go_sem, ↓reduceIte, Nat.reduceLT, Nat.reduceEqDiff, Nat.reduceAdd, Nat.reduceLeDiff, Nat.reduceMul, Nat.reduceSub, Int.natCast_zero, Int.ofNat_zero, Int.natCast_one, Int.cast_ofNat_Int, bne_self_eq_false, beq_self_eq_true, Int.reduceBEq, Int.reduceBNe, Bool.not_true, Bool.not_false, r0, r3, r10, r11, r12, condA, List.length_map, d2]
        exact .mk _ (.refl _) hy.1 ⟨by rw [he, if_pos (.inl e2)]; rfl, rfl⟩
      have e2 : l ≠ [] := by rintro rfl; simp at d2
      cases d3 : ((st.length : Int) != 1)
      case true =>
        have e3 : st ≠ [false] := by rintro rfl; simp at d3
        simp -implicitDefEqProofs only [go_sem, ↓reduceIte, Nat.reduceLT, Nat.reduceEqDiff, Nat.reduceAdd, Nat.reduceLeDiff, Nat.reduceMul, Nat.reduceSub, Int.natCast_zero, Int.ofNat_zero, Int.natCast_one, Int.cast_ofNat_Int, bne_self_eq_false, beq_self_eq_true, Int.reduceBEq, Int.reduceBNe, Bool.not_true, Bool.not_false, r0, r3, r10, r11, r12, condA, List.length_map, d2, hy.len, d3]
        exact .mk _ (.refl _) hy.1 ⟨by rw [he, if_neg (by simp [e2, e3])]; rfl, rfl⟩
      have e3 : st.length = 1 := by
        have : (st.length : Int) = 1 := by simpa using d3
        omega
      obtain ⟨b, rfl⟩ := List.length_eq_one_iff.1 e3
      simp -implicitDefEqProofs only [go_sem, ↓reduceIte, Nat.reduceLT, Nat.reduceEqDiff, Nat.reduceAdd, Nat.reduceLeDiff, Nat.reduceMul, Nat.reduceSub, Int.natCast_zero, Int.ofNat_zero, Int.natCast_one, Int.cast_ofNat_Int, bne_self_eq_false, beq_self_eq_true, Int.reduceBEq, Int.reduceBNe, Bool.not_true, Bool.not_false, r0, r3, r10, r11, r12, condA, List.length_map, d2, hy.len, d3]
      refine hy.idx (b_one [b]) 0 rfl (by simp) u4 u4a fun p hp => ?_
      simp -implicitDefEqProofs only [go_sem, ↓reduceIte, Nat.reduceLT, Nat.reduceEqDiff, Nat.reduceAdd, Nat.reduceLeDiff, Nat.reduceMul, Nat.reduceSub, Int.natCast_zero, Int.ofNat_zero, Int.natCast_one, Int.cast_ofNat_Int, bne_self_eq_false, beq_self_eq_true, Int.reduceBEq, Int.reduceBNe, Bool.not_true, Bool.not_false, r0, r3, r10, r11, r12, hp _, List.getElem_map, boolA, List.getElem_cons_zero]
      cases b
      · simp -implicitDefEqProofs only [go_sem, ↓reduceIte, Nat.reduceLT, Nat.reduceEqDiff, Nat.reduceAdd, Nat.reduceLeDiff, Nat.reduceMul, Nat.reduceSub, Int.natCast_zero, Int.ofNat_zero, Int.natCast_one, Int.cast_ofNat_Int, bne_self_eq_false, beq_self_eq_true, Int.reduceBEq, Int.reduceBNe, Bool.not_true, Bool.not_false, r0, r3, r10, r11, r12]
        exact .mk _ (.refl _) hy.1 ⟨by rw [he, if_pos (.inr rfl)]; rfl, rfl⟩
      · simp -implicitDefEqProofs only [go_sem, ↓reduceIte, Nat.reduceLT, Nat.reduceEqDiff, Nat.reduceAdd, Nat.reduceLeDiff, Nat.reduceMul, Nat.reduceSub, Int.natCast_zero, Int.ofNat_zero, Int.natCast_one, Int.cast_ofNat_Int, bne_self_eq_false, beq_self_eq_true, Int.reduceBEq, Int.reduceBNe, Bool.not_true, Bool.not_false, r0, r3, r10, r11, r12]
        exact .mk _ (.refl _) hy.1 ⟨by rw [he, if_neg (by simp [e2])]; rfl, rfl⟩
end Go.Proofs.YtdcchpbncckhlaaDoor

/- How long texts of right things may be. -/
set_option linter.unusedSimpArgs false
set_option linter.unusedVariables false
namespace Go.Bf
open Go Go.Ab

theorem lens_le (xs : List Txt) (B : Nat) (h : ∀ x ∈ xs, x.length ≤ B) : Lib.lens xs ≤ xs.length * B := by
  induction xs with
  | nil => simp [Lib.lens]
  | cons x r ih =>
    have h1 := h x (by simp)
    have h2 := ih fun y hy => h y (by simp [hy])
    simp only [Lib.lens, List.map_cons, List.sum_cons, List.length_cons, Nat.add_mul, Nat.one_mul] at h2 ⊢
    omega
theorem join_length (xs : List Txt) (sep : Txt) : (Lib.join xs sep).length ≤ Lib.lens xs + xs.length * sep.length := by
  cases xs with
  | nil => simp [Lib.join_nil]
  | cons x r =>
    rw [Lib.join_cons, List.length_append, Lib.joinTail_length]
    simp only [Lib.lens, List.map_cons, List.sum_cons, List.length_cons, Nat.add_mul, Nat.one_mul, Nat.mul_comm sep.length]
    omega
theorem join_le (xs : List Txt) (sep : Txt) (n B : Nat) (hn : xs.length ≤ n) (h : ∀ x ∈ xs, x.length ≤ B) : (Lib.join xs sep).length ≤ n * (B + sep.length) := by
  have h1 := join_length xs sep
  have h2 := lens_le xs B h
  have h3 : xs.length * (B + sep.length) ≤ n * (B + sep.length) := Nat.mul_le_mul_right _ hn
  rw [Nat.mul_add] at h3
  omega
theorem flatten_le (xs : List Txt) (n B : Nat) (hn : xs.length ≤ n) (h : ∀ x ∈ xs, x.length ≤ B) : xs.flatten.length ≤ n * B := by
  have h2 := lens_le xs B h
  have h3 : xs.length * B ≤ n * B := Nat.mul_le_mul_right _ hn
  have h4 : xs.flatten.length = Lib.lens xs := by rw [List.length_flatten]; rfl
  omega
theorem nameOK_le {s : Txt} (h : nameOK s = true) : s.length ≤ 16 := by
  simp [nameOK] at h; exact h.2
theorem catW_le (n : Int) : (catW n).length ≤ 7 := by
  unfold catW; repeat' split
  all_goals decide
theorem opW_le (n : Int) : (opW n).length = 1 := by
  unfold opW; repeat' split
  all_goals rfl
theorem fnW_le (n : Int) : (fnW n).length ≤ 4 := by
  unfold fnW; repeat' split
  all_goals decide
theorem onW_le (n : Int) : (onW n).length ≤ 6 := by
  unfold onW; split <;> decide
theorem dutyW_le (n : Int) : (dutyW n).length ≤ 6 := by
  unfold dutyW; repeat' split
  all_goals decide
theorem algW_le (n : Int) : (algW n).length ≤ 12 := by
  unfold algW; repeat' split
  all_goals decide
theorem attrT_le {a : AttrD} (h : attrOK a = true) : (attrT a).length ≤ 25 := by
  simp only [attrOK, Bool.and_eq_true] at h
  have h1 := nameOK_le h.2
  have h2 := catW_le a.cat
  unfold attrT
  simp only [List.length_append, List.length_cons, List.length_nil]
  split <;> simp <;> omega
theorem quoteT_le (l : Txt) (h : l.length ≤ 64) : (quoteT l).length ≤ 194 := by
  have := flatten_le (l.map quoteB) 64 3 (by simpa using h) fun x hx => by
    obtain ⟨c, _, rfl⟩ := List.mem_map.1 hx
    unfold quoteB; split <;> simp
  unfold quoteT
  simp only [List.length_append, List.length_cons, List.length_nil]
  omega
theorem valT_le {v : ValD} (h : valOK v = true) (h1 : -9223372036854775808 ≤ v.n) (h2 : v.n ≤ 9223372036854775807) : (valT v).length ≤ 194 := by
  have hi := Lib.itoa_length_le v.n h1 h2
  unfold valT
  unfold valOK at h
  split
  · cases (v.n == 1) <;> decide
  split
  · simp only [List.length_append, List.length_cons, List.length_nil]; omega
  split
  · rename_i k5
    simp only [k5] at h
    simp at h
    have := nameOK_le h.2
    simp only [List.length_append, List.length_cons, List.length_nil]; omega
  split
  · rename_i k3
    simp only [k3] at h
    simp at h
    exact quoteT_le _ h.2
  · omega
theorem matchT_le {m : MatchD} (h : attrOK m.attr = true) (hv : (valT m.val).length ≤ 194) : (matchT m).length ≤ 222 := by
  have h1 := attrT_le h
  have h2 := opW_le m.op
  unfold matchT
  simp only [List.length_append, List.length_cons, List.length_nil]
  omega
theorem oblT_le {o : OblD} (h : oblOK o = true) : (oblT o).length ≤ 34 := by
  simp only [oblOK, Bool.and_eq_true] at h
  have h1 := nameOK_le h.2
  have h2 := onW_le o.on
  have h3 := dutyW_le o.kind
  unfold oblT
  simp only [List.length_append, List.length_cons, List.length_nil]
  omega
theorem oblsE_zero {l : List OblD} (h : oblsE l = 0) : l.length ≤ 8 ∧ ∀ o ∈ l, oblOK o = true := by
  unfold oblsE at h
  split at h
  · cases h
  · rename_i h8
    split at h
    · rename_i ha; exact ⟨by omega, fun o ho => List.all_eq_true.1 ha o ho⟩
    · cases h
theorem oblsT_le {l : List OblD} (h : oblsE l = 0) : (oblsT l).length ≤ 272 := by
  obtain ⟨h1, h2⟩ := oblsE_zero h
  exact flatten_le (l.map oblT) 8 34 (by simpa using h1) fun x hx => by
    obtain ⟨o, ho, rfl⟩ := List.mem_map.1 hx
    exact oblT_le (h2 o ho)
theorem manyE_zero {n : Nat} (h : manyE n = 0) : 0 < n ∧ n ≤ 8 := by
  unfold manyE at h
  split at h
  · cases h
  · split at h
    · cases h
    · omega
theorem firstE_zero {α : Type} {f : α → Int} {l : List α} (h : firstE f l = 0) : ∀ x ∈ l, f x = 0 := by
  induction l with
  | nil => intro x hx; cases hx
  | cons y r ih =>
    simp only [firstE] at h
    split at h
    · rename_i hy
      intro x hx
      rcases List.mem_cons.1 hx with rfl | hx
      · exact hy
      · exact ih h x hx
    · rename_i hy; exact (hy h).elim
theorem allE_zero {l : List MatchD} (h : allE l = 0) : 0 < l.length ∧ l.length ≤ 8 ∧ ∀ m ∈ l, matchOK m = true := by
  unfold allE at h
  split at h
  · rename_i hm
    have := manyE_zero hm
    split at h
    · rename_i ha; exact ⟨this.1, this.2, fun o ho => List.all_eq_true.1 ha o ho⟩
    · cases h
  · rename_i hm; exact (hm h).elim
theorem anyE_zero {l : List (List MatchD)} (h : anyE l = 0) : 0 < l.length ∧ l.length ≤ 8 ∧ ∀ m ∈ l, allE m = 0 := by
  unfold anyE at h
  split at h
  · rename_i hm
    have := manyE_zero hm
    exact ⟨this.1, this.2, firstE_zero h⟩
  · rename_i hm; exact (hm h).elim
theorem tgtE_zero {l : TgtD} (h : tgtE l = 0) : l.length ≤ 8 ∧ ∀ m ∈ l, anyE m = 0 := by
  unfold tgtE at h
  split at h
  · cases h
  · exact ⟨by omega, firstE_zero h⟩
theorem matchOK_cases {m : MatchD} (h : matchOK m = true) : attrOK m.attr = true ∧ 1 ≤ m.op ∧ m.op ≤ 3 ∧ valOK m.val = true := by
  simp only [matchOK, Bool.and_eq_true, decide_eq_true_eq] at h
  exact ⟨h.1.1.1, h.1.1.2, h.1.2, h.2⟩
/-- The stack of texts: so long in all, a mark behind each. -/
def tot (st : List Txt) : Nat := Lib.lens st + st.length
theorem tot_append (a b : List Txt) : tot (a ++ b) = tot a + tot b := by
  simp [tot, Lib.lens]; omega
theorem tot_one (s : Txt) : tot [s] = s.length + 1 := by simp [tot, Lib.lens]
theorem mem_tot {st : List Txt} {s : Txt} (h : s ∈ st) : s.length ≤ tot st := by
  induction st with
  | nil => cases h
  | cons x r ih =>
    have : tot (x :: r) = tot [x] + tot r := tot_append [x] r
    rw [this, tot_one]
    rcases List.mem_cons.1 h with rfl | h
    · omega
    · have := ih h; omega
theorem fn_tot (st : List Txt) (k : Nat) (w : Txt) (hw : w.length ≤ 4) : tot (st.take k ++ [[40] ++ w ++ [32] ++ Lib.join (st.drop k) [32] ++ [41]]) ≤ tot st + 9 := by
  have e : tot st = tot (st.take k) + tot (st.drop k) := by rw [← tot_append, List.take_append_drop]
  have hj := join_length (st.drop k) [32]
  rw [tot_append, tot_one, e]
  simp only [List.length_append, List.length_cons, List.length_nil, tot] at hj ⊢
  omega
/-- What a node that may stand there is, and does. -/
theorem stepD_some {bs bs' : List Bool} {n : NodeD} (h : stepD bs n = some bs') :
    (n.op = 1 ∧ valOK n.val = true ∧ bs' = bs ++ [false]) ∨ (n.op = 2 ∧ attrOK n.attr = true ∧ bs' = bs ++ [true]) ∨
    (3 ≤ n.op ∧ n.op ≤ 13 ∧ arity n.op ≤ bs.length ∧ bs'.length = bs.length - arity n.op + 1) := by
  unfold stepD at h
  split at h
  · cases h
  rename_i w hw
  split at h
  case isFalse => cases h
  rename_i hc
  obtain ⟨hf, hl, hd⟩ := hc
  cases h
  unfold wantsD at hw
  unfold fieldsOK at hf
  split at hw
  · rename_i h12
    cases hw
    rcases h12 with h1 | h2
    · rw [if_pos h1, Bool.and_eq_true] at hf
      exact .inl ⟨h1, hf.1, by simp [h1]⟩
    · rw [if_neg (by omega), if_pos h2, Bool.and_eq_true] at hf
      exact .inr (.inl ⟨h2, hf.1, by simp [h2]⟩)
  · rename_i h12
    have ha : 3 ≤ n.op ∧ n.op ≤ 13 ∧ w.length = arity n.op := by
      unfold arity
      split at hw
      · rename_i h3; cases hw; rw [if_pos (by omega)]; exact ⟨by omega, by omega, rfl⟩
      split at hw
      · rename_i h3; cases hw; rw [if_neg (by omega)]; exact ⟨by omega, by omega, rfl⟩
      split at hw
      · rename_i h3; cases hw; rw [if_pos (by omega)]; exact ⟨by omega, by omega, rfl⟩
      split at hw
      · rename_i h3; cases hw; rw [if_neg (by omega)]; exact ⟨by omega, by omega, rfl⟩
      · cases hw
    refine .inr (.inr ⟨ha.1, ha.2.1, by omega, ?_⟩)
    rw [List.length_append, List.length_take, ha.2.2]
    simp only [List.length_singleton]
    omega
theorem stepT_length {bs bs' : List Bool} {st : List Txt} {n : NodeD} (h : stepD bs n = some bs') (hl : st.length = bs.length) : (stepT st n).length = bs'.length := by
  unfold stepT
  rcases stepD_some h with ⟨h1, _, rfl⟩ | ⟨h1, _, rfl⟩ | ⟨h1, h2, h3, h4⟩
  · rw [if_pos h1]; simp [hl]
  · rw [if_neg (by omega), if_pos h1]; simp [hl]
  · rw [if_neg (by omega), if_neg (by omega), h4]; simp [hl]
end Go.Bf

/- Words, attributes, values as texts. -/
set_option linter.unusedSimpArgs false
set_option linter.unusedVariables false
namespace Go.Proofs.YtdcchpbncckhlaaDoor
open Go Go.Ab Go.Bf

theorem word_ok (n : Int) (i : Nat) (y : AV) (ws : List Txt) (h : Heap) (hy : SeqA 9 h y (ws.map AV.s)) (hn : n = i + 1) (hi : i < ws.length) (hl : i < 1000) :
    FnOK Tryd.prog 43 [.v (.int .i64 n), y] h fun r h' => r = .s ws[i] ∧ h' = h := by
  refine FnOK.body hU hm Tryd.func43 rfl (by kernel_rfl) 10 rfl [.tmp 4] rfl (Nat.le_of_ble_eq_true rfl) (fun hwf => ?_)
  have w1 : IntKind.i64.wrap (n - 1) = ((i : Nat) : Int) := by rw [wr64 _ (by omega)]; omega
  simp -implicitDefEqProofs only [go_sem, ↓reduceIte, Nat.reduceLT, Nat.reduceEqDiff, Nat.reduceAdd, Nat.reduceLeDiff, Nat.reduceMul, Nat.reduceSub, Int.natCast_zero, Int.ofNat_zero, Int.natCast_one, Int.cast_ofNat_Int, bne_self_eq_false, beq_self_eq_true, Int.reduceBEq, Int.reduceBNe, Bool.not_true, Bool.not_false, w1]
  refine hy.idx (s_cells ws) i rfl (by simpa using hi) u9 u9a fun p hp => ?_
  simp -implicitDefEqProofs only [go_sem, ↓reduceIte, Nat.reduceLT, Nat.reduceEqDiff, Nat.reduceAdd, Nat.reduceLeDiff, Nat.reduceMul, Nat.reduceSub, Int.natCast_zero, Int.ofNat_zero, Int.natCast_one, Int.cast_ofNat_Int, bne_self_eq_false, beq_self_eq_true, Int.reduceBEq, Int.reduceBNe, Bool.not_true, Bool.not_false, hp _, List.getElem_map]
  exact .same (.refl _) ⟨rfl, rfl⟩

theorem words_cat (n : Int) (h1 : 1 ≤ n) (h4 : n ≤ 4) : ∃ i : Nat, n = i + 1 ∧ ∃ hi : i < [[115, 117, 98, 106, 101, 99, 116], [97, 99, 116, 105, 111, 110], [99, 97, 115, 101], [101, 110, 118]].length, ([[115, 117, 98, 106, 101, 99, 116], [97, 99, 116, 105, 111, 110], [99, 97, 115, 101], [101, 110, 118]] : List Txt)[i]'hi = catW n := by
  rcases (by omega : n = 1 ∨ n = 2 ∨ n = 3 ∨ n = 4) with rfl | rfl | rfl | rfl
  · exact ⟨0, rfl, by decide, rfl⟩
  · exact ⟨1, rfl, by decide, rfl⟩
  · exact ⟨2, rfl, by decide, rfl⟩
  · exact ⟨3, rfl, by decide, rfl⟩

def attrS (a : AttrD) : Txt := if attrOK a then attrT a else []
theorem sattr_ok (a : AttrD) (h : Heap) : FnOK Tryd.prog 22 [attrA a] h fun r h' => r = .s (attrS a) ∧ h' = h := by
  refine FnOK.body hU hm Tryd.func22 rfl (by kernel_rfl) 20 rfl [.tmp 2] rfl (Nat.le_of_ble_eq_true rfl) (fun hwf => ?_)
  simp -implicitDefEqProofs only [go_sem, ↓reduceIte, Nat.reduceLT, Nat.reduceEqDiff, Nat.reduceAdd, Nat.reduceLeDiff, Nat.reduceMul, Nat.reduceSub, Int.natCast_zero, Int.ofNat_zero, Int.natCast_one, Int.cast_ofNat_Int, bne_self_eq_false, beq_self_eq_true, Int.reduceBEq, Int.reduceBNe, Bool.not_true, Bool.not_false, attrA]
  intro id hid
  simp -implicitDefEqProofs only [go_sem, ↓reduceIte, Nat.reduceLT, Nat.reduceEqDiff, Nat.reduceAdd, Nat.reduceLeDiff, Nat.reduceMul, Nat.reduceSub, Int.natCast_zero, Int.ofNat_zero, Int.natCast_one, Int.cast_ofNat_Int, bne_self_eq_false, beq_self_eq_true, Int.reduceBEq, Int.reduceBNe, Bool.not_true, Bool.not_false]
  refine (attr_ok a _).pthen ?_
  cases d1 : attrOK a
  · simp -implicitDefEqProofs only [go_sem, ↓reduceIte, Nat.reduceLT, Nat.reduceEqDiff, Nat.reduceAdd, Nat.reduceLeDiff, Nat.reduceMul, Nat.reduceSub, Int.natCast_zero, Int.ofNat_zero, Int.natCast_one, Int.cast_ofNat_Int, bne_self_eq_false, beq_self_eq_true, Int.reduceBEq, Int.reduceBNe, Bool.not_true, Bool.not_false, d1]
    exact .mk _ (.refl _) (.upd_new hid) ⟨by simp [attrS, d1, oneOr], rfl⟩
  have hle := attrT_le d1
  have hc : 1 ≤ a.cat ∧ a.cat ≤ 4 := by simp [attrOK] at d1; exact d1.1
  obtain ⟨i, hn, hi, hw⟩ := words_cat a.cat hc.1 hc.2
  simp -implicitDefEqProofs only [go_sem, ↓reduceIte, Nat.reduceLT, Nat.reduceEqDiff, Nat.reduceAdd, Nat.reduceLeDiff, Nat.reduceMul, Nat.reduceSub, Int.natCast_zero, Int.ofNat_zero, Int.natCast_one, Int.cast_ofNat_Int, bne_self_eq_false, beq_self_eq_true, Int.reduceBEq, Int.reduceBNe, Bool.not_true, Bool.not_false, d1]
  refine .quiet (by kernel_rfl) ?_
  simp -implicitDefEqProofs only [go_sem, ↓reduceIte, Nat.reduceLT, Nat.reduceEqDiff, Nat.reduceAdd, Nat.reduceLeDiff, Nat.reduceMul, Nat.reduceSub, Int.natCast_zero, Int.ofNat_zero, Int.natCast_one, Int.cast_ofNat_Int, bne_self_eq_false, beq_self_eq_true, Int.reduceBEq, Int.reduceBNe, Bool.not_true, Bool.not_false]
  refine ⟨_, word_ok a.cat i _ [[115, 117, 98, 106, 101, 99, 116], [97, 99, 116, 105, 111, 110], [99, 97, 115, 101], [101, 110, 118]] _ (.sl _ _) hn hi (by simp at hi; omega), ?_⟩
  rw [hw]
  have hl : lim = 9223372036854775808 := rfl
  have e0 : (attrT a).length ≤ 25 := hle
  unfold attrT at hle
  simp only [List.length_append, List.length_cons, List.length_nil] at hle
  have c1 : (catW a.cat).length + (0 + 1) < lim := by omega
  have c2 : (catW a.cat ++ [46]).length + a.name.length < lim := by simp only [List.length_append, List.length_cons, List.length_nil]; omega
  cases d2 : a.must
  · simp -implicitDefEqProofs only [go_sem, ↓reduceIte, Nat.reduceLT, Nat.reduceEqDiff, Nat.reduceAdd, Nat.reduceLeDiff, Nat.reduceMul, Nat.reduceSub, Int.natCast_zero, Int.ofNat_zero, Int.natCast_one, Int.cast_ofNat_Int, bne_self_eq_false, beq_self_eq_true, Int.reduceBEq, Int.reduceBNe, Bool.not_true, Bool.not_false, c1, c2, d2]
    exact .mk _ (.refl _) (.upd_new hid) ⟨by simp [attrS, attrT, d1, d2, oneOr], rfl⟩
  · have c3 : (catW a.cat ++ [46] ++ a.name).length + (0 + 1) < lim := by simp only [List.length_append, List.length_cons, List.length_nil]; omega
    simp -implicitDefEqProofs only [go_sem, ↓reduceIte, Nat.reduceLT, Nat.reduceEqDiff, Nat.reduceAdd, Nat.reduceLeDiff, Nat.reduceMul, Nat.reduceSub, Int.natCast_zero, Int.ofNat_zero, Int.natCast_one, Int.cast_ofNat_Int, bne_self_eq_false, beq_self_eq_true, Int.reduceBEq, Int.reduceBNe, Bool.not_true, Bool.not_false, c1, c2, c3, d2]
    exact .mk _ (.refl _) (.upd_new hid) ⟨by simp [attrS, attrT, d1, d2, oneOr], rfl⟩
end Go.Proofs.YtdcchpbncckhlaaDoor

/- How long texts of right policies may be. -/
set_option linter.unusedSimpArgs false
set_option linter.unusedVariables false
namespace Go.Bf
open Go Go.Ab

def inV (v : ValD) : Prop := -9223372036854775808 ≤ v.n ∧ v.n ≤ 9223372036854775807
def inA (l : List MatchD) : Prop := ∀ m ∈ l, inV m.val
def inY (l : List (List MatchD)) : Prop := ∀ a ∈ l, inA a
def inT (t : TgtD) : Prop := ∀ a ∈ t, inY a
def inL (l : List NodeD) : Prop := ∀ n ∈ l, inV n.val
def inR (r : RuleD) : Prop := inT r.tgt ∧ inL r.cond
mutual
def inP : PolD → Prop
  | .mk id set alg tgt rules kids obls => inT tgt ∧ (∀ r ∈ rules, inR r) ∧ inK kids
def inK : List PolD → Prop
  | [] => True
  | k :: r => inP k ∧ inK r
end
theorem inK_eq : ∀ l : List PolD, inK l ↔ ∀ k ∈ l, inP k
  | [] => by simp [inK]
  | k :: r => by simp [inK, inK_eq r]

theorem allT_le {l : List MatchD} (h : allE l = 0) (hi : inA l) : (allT l).length ≤ 1792 := by
  obtain ⟨_, h1, h2⟩ := allE_zero h
  exact join_le (l.map matchT) [44, 32] 8 222 (by simpa using h1) fun x hx => by
    obtain ⟨m, hm, rfl⟩ := List.mem_map.1 hx
    have := matchOK_cases (h2 m hm)
    exact matchT_le this.1 (valT_le this.2.2.2 (hi m hm).1 (hi m hm).2)
theorem anyT_le {l : List (List MatchD)} (h : anyE l = 0) (hi : inY l) : (anyT l).length ≤ 14370 := by
  obtain ⟨_, h1, h2⟩ := anyE_zero h
  have := join_le (l.map allT) [32, 111, 114, 32] 8 1792 (by simpa using h1) fun x hx => by
    obtain ⟨m, hm, rfl⟩ := List.mem_map.1 hx
    exact allT_le (h2 m hm) (hi m hm)
  unfold anyT
  simp only [List.length_append, List.length_cons, List.length_nil] at this ⊢
  omega
theorem tgtT_le {t : TgtD} (h : tgtE t = 0) (hi : inT t) : (tgtT t).length ≤ 115006 := by
  obtain ⟨h1, h2⟩ := tgtE_zero h
  have := join_le (t.map anyT) [32, 97, 110, 100, 32] 8 14370 (by simpa using h1) fun x hx => by
    obtain ⟨m, hm, rfl⟩ := List.mem_map.1 hx
    exact anyT_le (h2 m hm) (hi m hm)
  unfold tgtT
  split
  · simp
  · simp only [List.length_append, List.length_cons, List.length_nil] at this ⊢
    omega
theorem stepT_tot {bs bs' : List Bool} {st : List Txt} {n : NodeD} (h : stepD bs n = some bs') (hi : inV n.val) : tot (stepT st n) ≤ tot st + 195 := by
  unfold stepT
  rcases stepD_some h with ⟨h1, h2, rfl⟩ | ⟨h1, h2, rfl⟩ | ⟨h1, h2, h3, h4⟩
  · have := valT_le h2 hi.1 hi.2
    rw [if_pos h1, tot_append, tot_one]; omega
  · have := attrT_le h2
    rw [if_neg (by omega), if_pos h1, tot_append, tot_one]; omega
  · have := fn_tot st (st.length - arity n.op) (fnW n.op) (fnW_le _)
    rw [if_neg (by omega), if_neg (by omega)]; omega
theorem stepsT_tot : ∀ (l : List NodeD) (bs bs' : List Bool) (st : List Txt), stepsD bs l = some bs' → inL l → st.length = bs.length → (l.foldl stepT st).length = bs'.length ∧ tot (l.foldl stepT st) ≤ tot st + 195 * l.length
  | [], bs, bs', st, h, hi, hl => by
    simp only [stepsD, Option.some.injEq] at h; subst h
    simp [hl]
  | n :: r, bs, bs', st, h, hi, hl => by
    simp only [stepsD] at h
    cases hs : stepD bs n with
    | none => rw [hs] at h; cases h
    | some b2 =>
      rw [hs] at h
      have h1 := stepT_tot (st := st) hs (hi n (by simp))
      have h2 := stepsT_tot r b2 bs' (stepT st n) h (fun x hx => hi x (by simp [hx])) (stepT_length hs hl)
      simp only [List.foldl_cons, List.length_cons]
      omega
theorem exprE_zero {l : List NodeD} (h : exprE l = 0) (hn : l ≠ []) : l.length ≤ 32 ∧ stepsD [] l = some [false] := by
  unfold exprE at h
  split at h
  · cases h
  · split at h
    · cases h
    · rename_i st hst
      split at h
      · rename_i hx
        rcases hx with hx | hx
        · exact (hn hx).elim
        · subst hx; exact ⟨by omega, hst⟩
      · cases h
theorem exprE_take {l : List NodeD} (h : exprE l = 0) (i : Nat) : ∃ bs, stepsD [] (l.take i) = some bs := by
  by_cases hn : l = []
  · subst hn; exact ⟨[], by simp [stepsD]⟩
  · have h2 := (exprE_zero h hn).2
    have : ∀ (l : List NodeD) (bs : List Bool) (b : List Bool) (i : Nat), stepsD bs l = some b → ∃ bs', stepsD bs (l.take i) = some bs' := by
      intro l
      induction l with
      | nil => intro bs b i _; exact ⟨bs, by simp [stepsD]⟩
      | cons n r ih =>
        intro bs b i hh
        cases i with
        | zero => exact ⟨bs, by simp [stepsD]⟩
        | succ i =>
          simp only [List.take_succ_cons, stepsD] at hh ⊢
          cases hs : stepD bs n with
          | none => rw [hs] at hh; cases hh
          | some b2 => rw [hs] at hh; exact ih b2 b i hh
    exact this l [] _ i h2
theorem exprT_le {l : List NodeD} (h : exprE l = 0) (hi : inL l) : (exprT l).length ≤ 6240 := by
  by_cases hn : l = []
  · subst hn; simp [exprT]
  obtain ⟨h1, h2⟩ := exprE_zero h hn
  obtain ⟨h3, h4⟩ := stepsT_tot l [] [false] [] h2 hi rfl
  unfold exprT
  cases hx : l.foldl stepT [] with
  | nil => simp
  | cons s r =>
    have := mem_tot (st := l.foldl stepT []) (s := s) (by rw [hx]; simp)
    simp only [tot, Lib.lens] at h4
    simp only [List.headD_cons]
    simp only [tot, Lib.lens] at this
    simp at h4
    omega
def ruleE (r : RuleD) : Prop := nameOK r.id = true ∧ tgtE r.tgt = 0 ∧ exprE r.cond = 0 ∧ oblsE r.obls = 0
theorem ruleT_le {r : RuleD} (h : ruleE r) (hi : inR r) : (ruleT r).length ≤ 122000 := by
  have h1 := nameOK_le h.1
  have h2 := tgtT_le h.2.1 hi.1
  have h3 := exprT_le h.2.2.1 hi.2
  have h4 := oblsT_le h.2.2.2
  unfold ruleT
  cases r.deny <;> simp only [List.length_append, List.length_cons, List.length_nil, if_true, Bool.false_eq_true, if_false] <;> split <;> simp <;> omega
mutual
/-- What a right policy of a depth is made of. -/
def polE (d : Nat) : PolD → Prop
  | .mk id set alg tgt rules kids obls => d ≤ 4 ∧ nameOK id = true ∧ 1 ≤ alg ∧ alg ≤ 6 ∧ (set = true → rules = []) ∧ (set = false → kids = [] ∧ alg ≠ 4) ∧ tgtE tgt = 0 ∧ oblsE obls = 0 ∧ rules.length ≤ 16 ∧ kids.length ≤ 16 ∧ (∀ r ∈ rules, ruleE r) ∧ kidsE (d + 1) kids
def kidsE (d : Nat) : List PolD → Prop
  | [] => True
  | k :: r => polE d k ∧ kidsE d r
end
theorem kidsE_eq (d : Nat) : ∀ l : List PolD, kidsE d l ↔ ∀ k ∈ l, polE d k
  | [] => by simp [kidsE]
  | k :: r => by simp [kidsE, kidsE_eq d r]
theorem kidsT_eq : ∀ l : List PolD, kidsT l = (l.map fun k => [32] ++ polT k).flatten
  | [] => by simp [kidsT]
  | k :: r => by simp [kidsT, kidsT_eq r]
def polB : Nat → Nat
  | 0 => 0
  | n + 1 => 3000000 + 16 * (1 + polB n)
theorem polT_le : ∀ (n d : Nat) (p : PolD), d + n = 5 → polE d p → inP p → (polT p).length ≤ polB n
  | 0, d, .mk id set alg tgt rules kids obls, hd, h, hi => by simp only [polE] at h; omega
  | n + 1, d, .mk id set alg tgt rules kids obls, hd, h, hi => by
    simp only [polE] at h
    simp only [inP] at hi
    obtain ⟨_, g1, _, _, _, _, g2, g3, g4, g5, g6, g7⟩ := h
    obtain ⟨i1, i2, i3⟩ := hi
    have h1 := nameOK_le g1
    have h2 := tgtT_le g2 i1
    have h4 := oblsT_le g3
    have h5 := algW_le alg
    have h6 := flatten_le (rules.map ruleT) 16 122000 (by simpa using g4) fun x hx => by
      obtain ⟨r, hr, rfl⟩ := List.mem_map.1 hx
      exact ruleT_le (g6 r hr) (i2 r hr)
    have h7 := flatten_le (kids.map fun k => [32] ++ polT k) 16 (1 + polB n) (by simpa using g5) fun x hx => by
      obtain ⟨k, hk, rfl⟩ := List.mem_map.1 hx
      have := polT_le n (d + 1) k (by omega) ((kidsE_eq _ _).1 g7 k hk) ((inK_eq _).1 i3 k hk)
      simp only [List.length_append, List.length_cons, List.length_nil]; omega
    simp only [polT, polB, kidsT_eq]
    cases set <;> simp only [List.length_append, List.length_cons, List.length_nil, if_true, Bool.false_eq_true, if_false] <;> omega
theorem polB_le : polB 4 ≤ 1000000000000 := by decide
/-- What may be is made of right things. -/
theorem meetD_name {m m' : MetD} {s : Txt} (h : meetD m s = some m') : nameOK s = true := by
  unfold meetD at h
  split at h
  · rename_i hc; exact hc.2
  · cases h
theorem need_ok' {e : Int} {w : Went} {m : MetD} (h : need e w = .ok m) : e = 0 ∧ w = .ok m := by
  unfold need at h
  split at h
  · exact ⟨by assumption, h⟩
  · cases h
theorem ruleW_ok {m m' : MetD} {r : RuleD} (h : ruleW m r = .ok m') : ruleE r := by
  unfold ruleW at h
  split at h
  · cases h
  · rename_i m1 hm
    split at h
    · cases h
    · obtain ⟨h1, h⟩ := need_ok' h
      obtain ⟨h2, h⟩ := need_ok' h
      obtain ⟨h3, h⟩ := need_ok' h
      exact ⟨meetD_name hm, h1, h2, h3⟩
theorem rulesW_ok : ∀ (l : List RuleD) (m m' : MetD), rulesW m l = .ok m' → ∀ r ∈ l, ruleE r
  | [], _, _, _, r, hr => by cases hr
  | x :: l, m, m', h, r, hr => by
    simp only [rulesW] at h
    cases hx : ruleW m x with
    | bad e => rw [hx] at h; cases h
    | ok m1 =>
      rw [hx] at h
      rcases List.mem_cons.1 hr with rfl | hr
      · exact ruleW_ok hx
      · exact rulesW_ok l m1 m' h r hr
theorem headW_ok' {m m1 : MetD} {id : Txt} {set : Bool} {alg : Int} {tgt : TgtD} {nr nk : Nat} {obls : List OblD} (h : headW m id set alg tgt nr nk obls = .ok m1) :
    meetD m id = some m1 ∧ 1 ≤ alg ∧ alg ≤ 6 ∧ (set = true → nr = 0) ∧ (set = false → nk = 0 ∧ alg ≠ 4) ∧ tgtE tgt = 0 ∧ oblsE obls = 0 ∧ nr ≤ 16 ∧ nk ≤ 16 := by
  unfold headW at h
  split at h
  · cases h
  rename_i m2 hm
  split at h
  · cases h
  split at h
  · cases h
  rename_i h1 h2
  obtain ⟨h3, h⟩ := need_ok' h
  obtain ⟨h4, h⟩ := need_ok' h
  split at h
  · cases h
  cases h
  have h5 : (set = true → nr = 0) ∧ (set = false → nk = 0 ∧ alg ≠ 4) := by
    cases set <;> simp at h2 ⊢ <;> omega
  exact ⟨hm, by omega, by omega, h5.1, h5.2, h3, h4, by omega, by omega⟩
mutual
theorem polW_ok : ∀ (p : PolD) (d : Nat) (m m' : MetD), polW m d p = .ok m' → polE d p
  | .mk id set alg tgt rules kids obls, d, m, m', h => by
    simp only [polW] at h
    split at h
    · cases h
    rename_i hd
    split at h
    · cases h
    rename_i m1 h1
    split at h
    · cases h
    rename_i m2 h2
    obtain ⟨g1, g2, g3, g4, g5, g6, g7, g8, g9⟩ := headW_ok' h1
    simp only [polE]
    exact ⟨by omega, meetD_name g1, g2, g3, fun e => List.length_eq_zero_iff.1 (g4 e), fun e => ⟨List.length_eq_zero_iff.1 (g5 e).1, (g5 e).2⟩, g6, g7, g8, g9, rulesW_ok _ _ _ h2, kidsW_ok kids (d + 1) m2 m' h⟩
theorem kidsW_ok : ∀ (l : List PolD) (d : Nat) (m m' : MetD), kidsW m d l = .ok m' → kidsE d l
  | [], _, _, _, _ => by simp [kidsE]
  | k :: r, d, m, m', h => by
    simp only [kidsW] at h
    split at h
    · cases h
    rename_i m1 h1
    simp only [kidsE]
    exact ⟨polW_ok k d m m1 h1, kidsW_ok r d m1 m' h⟩
end
end Go.Bf

/- Values, matches, targets, duties as texts. -/
set_option linter.unusedSimpArgs false
set_option linter.unusedVariables false
namespace Go.Proofs.YtdcchpbncckhlaaDoor
open Go Go.Ab Go.Bf

def Quoted : Prop := ∀ (s : Txt) (h : Heap), s.length ≤ 64 → FnOK Tryd.prog 70 [.s s] h fun r h' => r = .s (quoteT s) ∧ h' = h
def valS (v : ValD) : Txt := if valOK v then Bf.valT v else []
theorem vtext_ok (Q : Quoted) (v : ValD) (hi : inV v) (h : Heap) (ht : PowT h) : FnOK Tryd.prog 39 [valA v] h fun r h' => r = .s (valS v) ∧ h' = h := by
  refine FnOK.body hU hm Tryd.func39 rfl (by kernel_rfl) 33 rfl [.tmp 2] rfl (Nat.le_of_ble_eq_true rfl) (fun hwf => ?_)
  simp -implicitDefEqProofs only [go_sem, ↓reduceIte, Nat.reduceLT, Nat.reduceEqDiff, Nat.reduceAdd, Nat.reduceLeDiff, Nat.reduceMul, Nat.reduceSub, Int.natCast_zero, Int.ofNat_zero, Int.natCast_one, Int.cast_ofNat_Int, bne_self_eq_false, beq_self_eq_true, Int.reduceBEq, Int.reduceBNe, Bool.not_true, Bool.not_false, valA]
  intro id hid
  have ht2 : PowT (upd h id (some (.obj [.v (.int .i64 v.kind), .v (.int .i64 v.n), .s v.s] 25))) := ht.sub (.upd_new hid)
  simp -implicitDefEqProofs only [go_sem, ↓reduceIte, Nat.reduceLT, Nat.reduceEqDiff, Nat.reduceAdd, Nat.reduceLeDiff, Nat.reduceMul, Nat.reduceSub, Int.natCast_zero, Int.ofNat_zero, Int.natCast_one, Int.cast_ofNat_Int, bne_self_eq_false, beq_self_eq_true, Int.reduceBEq, Int.reduceBNe, Bool.not_true, Bool.not_false]
  refine (valRight_ok v _).pthen ?_
  cases d1 : valOK v
  · simp -implicitDefEqProofs only [go_sem, ↓reduceIte, Nat.reduceLT, Nat.reduceEqDiff, Nat.reduceAdd, Nat.reduceLeDiff, Nat.reduceMul, Nat.reduceSub, Int.natCast_zero, Int.ofNat_zero, Int.natCast_one, Int.cast_ofNat_Int, bne_self_eq_false, beq_self_eq_true, Int.reduceBEq, Int.reduceBNe, Bool.not_true, Bool.not_false, d1]
    exact .mk _ (.refl _) (.upd_new hid) ⟨by simp [valS, d1, oneOr], rfl⟩
  have hl : lim = 9223372036854775808 := rfl
  have hil := Lib.itoa_length_le v.n hi.1 hi.2
  cases k1 : (v.kind == 1)
  case true =>
    have e1 : v.kind = 1 := by simpa using k1
    simp -implicitDefEqProofs only [go_sem, ↓reduceIte, Nat.reduceLT, Nat.reduceEqDiff, Nat.reduceAdd, Nat.reduceLeDiff, Nat.reduceMul, Nat.reduceSub, Int.natCast_zero, Int.ofNat_zero, Int.natCast_one, Int.cast_ofNat_Int, bne_self_eq_false, beq_self_eq_true, Int.reduceBEq, Int.reduceBNe, Bool.not_true, Bool.not_false, d1, k1]
    refine (fbool_ok _ _).pthen ?_
    simp -implicitDefEqProofs only [go_sem, ↓reduceIte, Nat.reduceLT, Nat.reduceEqDiff, Nat.reduceAdd, Nat.reduceLeDiff, Nat.reduceMul, Nat.reduceSub, Int.natCast_zero, Int.ofNat_zero, Int.natCast_one, Int.cast_ofNat_Int, bne_self_eq_false, beq_self_eq_true, Int.reduceBEq, Int.reduceBNe, Bool.not_true, Bool.not_false]
    exact .mk _ (.refl _) (.upd_new hid) ⟨by simp [valS, d1, Bf.valT, e1, oneOr], rfl⟩
  have e1 : v.kind ≠ 1 := by simpa using k1
  cases k4 : (v.kind == 4)
  case true =>
    have e4 : v.kind = 4 := by simpa using k4
    simp -implicitDefEqProofs only [go_sem, ↓reduceIte, Nat.reduceLT, Nat.reduceEqDiff, Nat.reduceAdd, Nat.reduceLeDiff, Nat.reduceMul, Nat.reduceSub, Int.natCast_zero, Int.ofNat_zero, Int.natCast_one, Int.cast_ofNat_Int, bne_self_eq_false, beq_self_eq_true, Int.reduceBEq, Int.reduceBNe, Bool.not_true, Bool.not_false, d1, k1, k4]
    refine (itoa_ok _ _ hi ht2).pthen ?_
    have c1 : 0 + 1 + (Lib.itoa v.n).length < lim := by omega
    simp -implicitDefEqProofs only [go_sem, ↓reduceIte, Nat.reduceLT, Nat.reduceEqDiff, Nat.reduceAdd, Nat.reduceLeDiff, Nat.reduceMul, Nat.reduceSub, Int.natCast_zero, Int.ofNat_zero, Int.natCast_one, Int.cast_ofNat_Int, bne_self_eq_false, beq_self_eq_true, Int.reduceBEq, Int.reduceBNe, Bool.not_true, Bool.not_false, c1]
    exact .mk _ (.refl _) (.upd_new hid) ⟨by simp [valS, d1, Bf.valT, e4, oneOr], rfl⟩
  have e4 : v.kind ≠ 4 := by simpa using k4
  cases k5 : (v.kind == 5)
  case true =>
    have e5 : v.kind = 5 := by simpa using k5
    have hn : v.s.length ≤ 16 := by
      have := d1; unfold valOK at this; simp [e5] at this; exact nameOK_le this.2
    have c1 : 0 + 1 + v.s.length < lim := by omega
    simp -implicitDefEqProofs only [go_sem, ↓reduceIte, Nat.reduceLT, Nat.reduceEqDiff, Nat.reduceAdd, Nat.reduceLeDiff, Nat.reduceMul, Nat.reduceSub, Int.natCast_zero, Int.ofNat_zero, Int.natCast_one, Int.cast_ofNat_Int, bne_self_eq_false, beq_self_eq_true, Int.reduceBEq, Int.reduceBNe, Bool.not_true, Bool.not_false, d1, k1, k4, k5, c1]
    exact .mk _ (.refl _) (.upd_new hid) ⟨by simp [valS, d1, Bf.valT, e5, oneOr], rfl⟩
  have e5 : v.kind ≠ 5 := by simpa using k5
  cases k3 : (v.kind == 3)
  case true =>
    have e3 : v.kind = 3 := by simpa using k3
    have hn : v.s.length ≤ 64 := by
      have := d1; unfold valOK at this; simp [e3] at this; exact this.2
    simp -implicitDefEqProofs only [go_sem, ↓reduceIte, Nat.reduceLT, Nat.reduceEqDiff, Nat.reduceAdd, Nat.reduceLeDiff, Nat.reduceMul, Nat.reduceSub, Int.natCast_zero, Int.ofNat_zero, Int.natCast_one, Int.cast_ofNat_Int, bne_self_eq_false, beq_self_eq_true, Int.reduceBEq, Int.reduceBNe, Bool.not_true, Bool.not_false, d1, k1, k4, k5, k3]
    refine (Q _ _ hn).pthen ?_
    simp -implicitDefEqProofs only [go_sem, ↓reduceIte, Nat.reduceLT, Nat.reduceEqDiff, Nat.reduceAdd, Nat.reduceLeDiff, Nat.reduceMul, Nat.reduceSub, Int.natCast_zero, Int.ofNat_zero, Int.natCast_one, Int.cast_ofNat_Int, bne_self_eq_false, beq_self_eq_true, Int.reduceBEq, Int.reduceBNe, Bool.not_true, Bool.not_false]
    exact .mk _ (.refl _) (.upd_new hid) ⟨by simp [valS, d1, Bf.valT, e3, oneOr], rfl⟩
  have e3 : v.kind ≠ 3 := by simpa using k3
  simp -implicitDefEqProofs only [go_sem, ↓reduceIte, Nat.reduceLT, Nat.reduceEqDiff, Nat.reduceAdd, Nat.reduceLeDiff, Nat.reduceMul, Nat.reduceSub, Int.natCast_zero, Int.ofNat_zero, Int.natCast_one, Int.cast_ofNat_Int, bne_self_eq_false, beq_self_eq_true, Int.reduceBEq, Int.reduceBNe, Bool.not_true, Bool.not_false, d1, k1, k4, k5, k3]
  refine (itoa_ok _ _ hi ht2).pthen ?_
  simp -implicitDefEqProofs only [go_sem, ↓reduceIte, Nat.reduceLT, Nat.reduceEqDiff, Nat.reduceAdd, Nat.reduceLeDiff, Nat.reduceMul, Nat.reduceSub, Int.natCast_zero, Int.ofNat_zero, Int.natCast_one, Int.cast_ofNat_Int, bne_self_eq_false, beq_self_eq_true, Int.reduceBEq, Int.reduceBNe, Bool.not_true, Bool.not_false]
  exact .mk _ (.refl _) (.upd_new hid) ⟨by simp [valS, d1, Bf.valT, e1, e4, e5, e3, oneOr], rfl⟩

theorem words_op (n : Int) (h1 : 1 ≤ n) (h4 : n ≤ 3) : ∃ i : Nat, n = i + 1 ∧ ∃ hi : i < [[61], [60], [62]].length, ([[61], [60], [62]] : List Txt)[i]'hi = opW n := by
  rcases (by omega : n = 1 ∨ n = 2 ∨ n = 3) with rfl | rfl | rfl
  · exact ⟨0, rfl, by decide, rfl⟩
  · exact ⟨1, rfl, by decide, rfl⟩
  · exact ⟨2, rfl, by decide, rfl⟩

theorem all_ok (Q : Quoted) (l : List MatchD) (he : allE l = 0) (hi : inA l) (h : Heap) (ht : PowT h) : FnOK Tryd.prog 86 [allA l] h fun r h' => r = .s (allT l) ∧ h' = h := by
  refine FnOK.body hU hm Tryd.func86 rfl (by kernel_rfl) 32 rfl [.tmp 2] rfl (Nat.le_of_ble_eq_true rfl) (fun hwf => ?_)
  obtain ⟨_, hl8, hok⟩ := allE_zero he
  simp -implicitDefEqProofs only [go_sem, ↓reduceIte, Nat.reduceLT, Nat.reduceEqDiff, Nat.reduceAdd, Nat.reduceLeDiff, Nat.reduceMul, Nat.reduceSub, Int.natCast_zero, Int.ofNat_zero, Int.natCast_one, Int.cast_ofNat_Int, bne_self_eq_false, beq_self_eq_true, Int.reduceBEq, Int.reduceBNe, Bool.not_true, Bool.not_false, allA, List.length_map]
  refine .intro (fun m ρ h' => ∃ (i : Nat) (y : AV), WrA 9 h h' y (((l.take i).map matchT).map AV.s) ∧ i ≤ l.length ∧ m = l.length - i ∧ lk ρ 3 = some y ∧ lk ρ 6 = some (.sl (l.map matchA) .no) ∧ lk ρ 7 = some (.v (.int .i64 l.length)) ∧ lk ρ 8 = some (.v (.int .i64 i))) l.length ?_ ?_
  · refine ⟨0, _, .nil (.refl _), by omega, rfl, ?_, ?_, ?_, ?_⟩ <;> simp -implicitDefEqProofs only [go_sem, ↓reduceIte, Nat.reduceLT, Nat.reduceEqDiff, Nat.reduceAdd, Nat.reduceLeDiff, Nat.reduceMul, Nat.reduceSub, Int.natCast_zero, Int.ofNat_zero, Int.natCast_one, Int.cast_ofNat_Int, bne_self_eq_false, beq_self_eq_true, Int.reduceBEq, Int.reduceBNe, Bool.not_true, Bool.not_false]
  · rintro m ρ h' ⟨i, y, hy, hil, rfl, r3, r6, r7, r8⟩
    simp -implicitDefEqProofs only [go_sem, ↓reduceIte, Nat.reduceLT, Nat.reduceEqDiff, Nat.reduceAdd, Nat.reduceLeDiff, Nat.reduceMul, Nat.reduceSub, Int.natCast_zero, Int.ofNat_zero, Int.natCast_one, Int.cast_ofNat_Int, bne_self_eq_false, beq_self_eq_true, Int.reduceBEq, Int.reduceBNe, Bool.not_true, Bool.not_false, r3, r6, r7, r8]
    refine .intro (fun e => ?_) (fun e => ?_)
    · have hlt : i < l.length := Int.ofNat_lt.1 (of_decide_eq_true e)
      have w1 : IntKind.i64.wrap ((i : Int) + 1) = ((i + 1 : Nat) : Int) := by rw [wr64 _ (by omega)]; omega
      have hmk := matchOK_cases (hok l[i] (List.getElem_mem hlt))
      have hin := hi l[i] (List.getElem_mem hlt)
      obtain ⟨j, hn, hj, hw⟩ := words_op l[i].op hmk.2.1 hmk.2.2.1
      have ha := attrT_le hmk.1
      have hv := valT_le hmk.2.2.2 hin.1 hin.2
      have ho := opW_le l[i].op
      have hlim : lim = 9223372036854775808 := rfl
      simp -implicitDefEqProofs only [go_sem, ↓reduceIte, Nat.reduceLT, Nat.reduceEqDiff, Nat.reduceAdd, Nat.reduceLeDiff, Nat.reduceMul, Nat.reduceSub, Int.natCast_zero, Int.ofNat_zero, Int.natCast_one, Int.cast_ofNat_Int, bne_self_eq_false, beq_self_eq_true, Int.reduceBEq, Int.reduceBNe, Bool.not_true, Bool.not_false, r3, r6, r7, r8]
      refine .at i (by simpa using hlt) (by rw [List.getElem_map]; rfl) ?_
      simp -implicitDefEqProofs only [go_sem, ↓reduceIte, Nat.reduceLT, Nat.reduceEqDiff, Nat.reduceAdd, Nat.reduceLeDiff, Nat.reduceMul, Nat.reduceSub, Int.natCast_zero, Int.ofNat_zero, Int.natCast_one, Int.cast_ofNat_Int, bne_self_eq_false, beq_self_eq_true, Int.reduceBEq, Int.reduceBNe, Bool.not_true, Bool.not_false, r3, r6, r7, r8, List.getElem_map, matchA]
      intro id hid
      have hyb := hy.base hid (some (.obj [.v (.int .i64 l[i].attr.cat), .s l[i].attr.name, .v (.bool l[i].attr.must), .v (.int .i64 l[i].op), .v (.int .i64 l[i].val.kind), .v (.int .i64 l[i].val.n), .s l[i].val.s] 27))
      simp -implicitDefEqProofs only [go_sem, ↓reduceIte, Nat.reduceLT, Nat.reduceEqDiff, Nat.reduceAdd, Nat.reduceLeDiff, Nat.reduceMul, Nat.reduceSub, Int.natCast_zero, Int.ofNat_zero, Int.natCast_one, Int.cast_ofNat_Int, bne_self_eq_false, beq_self_eq_true, Int.reduceBEq, Int.reduceBNe, Bool.not_true, Bool.not_false, r3, r6, r7, r8]
      obtain ⟨hb, ehb⟩ : ∃ hb, upd h' id (some (.obj [.v (.int .i64 l[i].attr.cat), .s l[i].attr.name, .v (.bool l[i].attr.must), .v (.int .i64 l[i].op), .v (.int .i64 l[i].val.kind), .v (.int .i64 l[i].val.n), .s l[i].val.s] 27)) = hb := ⟨_, rfl⟩
      have hbid : hb id = some (.obj [.v (.int .i64 l[i].attr.cat), .s l[i].attr.name, .v (.bool l[i].attr.must), .v (.int .i64 l[i].op), .v (.int .i64 l[i].val.kind), .v (.int .i64 l[i].val.n), .s l[i].val.s] 27) := by rw [← ehb]; exact upd_same ..
      rw [ehb] at hyb ⊢
      have htb : PowT hb := (ht.sub (Sub.upd_new (hy.1.none hid))).sub hyb.1
      refine .calls (hm1 id _) [0, 1, 2, 5, 6, 7, 11, 12, 3, 4, 8, 9, 10, 13, 14, 15, 16, 17] (.hm1 hbid) (by kernel_rfl) rfl ?_
      simp -implicitDefEqProofs only [go_sem, ↓reduceIte, Nat.reduceLT, Nat.reduceEqDiff, Nat.reduceAdd, Nat.reduceLeDiff, Nat.reduceMul, Nat.reduceSub, Int.natCast_zero, Int.ofNat_zero, Int.natCast_one, Int.cast_ofNat_Int, bne_self_eq_false, beq_self_eq_true, Int.reduceBEq, Int.reduceBNe, Bool.not_true, Bool.not_false, r3, r6, r7, r8, hm1_same]
      have e1 : attrS l[i].attr = attrT l[i].attr := by simp [attrS, hmk.1]
      have e2 : valS l[i].val = Bf.valT l[i].val := by simp [valS, hmk.2.2.2]
      have hsa := sattr_ok l[i].attr hb
      rw [e1] at hsa
      have hsv := vtext_ok Q l[i].val hin hb htb
      rw [e2] at hsv
      have hsw := word_ok l[i].op j (.sl [.s [61], .s [60], .s [62]] .full) [[61], [60], [62]] hb (.sl _ _) hn hj (by simp at hj; omega)
      rw [hw] at hsw
      refine hsa.pthen ?_
      refine ⟨.hm1 hbid, ?_⟩
      have c1 : (attrT l[i].attr).length + (0 + 1) < lim := by omega
      simp -implicitDefEqProofs only [go_sem, ↓reduceIte, Nat.reduceLT, Nat.reduceEqDiff, Nat.reduceAdd, Nat.reduceLeDiff, Nat.reduceMul, Nat.reduceSub, Int.natCast_zero, Int.ofNat_zero, Int.natCast_one, Int.cast_ofNat_Int, bne_self_eq_false, beq_self_eq_true, Int.reduceBEq, Int.reduceBNe, Bool.not_true, Bool.not_false, r3, r6, r7, r8, hm1_same, c1]
      refine hsw.pthen ?_
      refine ⟨.hm1 hbid, ?_⟩
      have c2 : (attrT l[i].attr ++ [32]).length + (opW l[i].op).length < lim := by simp only [List.length_append, List.length_cons, List.length_nil]; omega
      have c3 : (attrT l[i].attr ++ [32] ++ opW l[i].op).length + (0 + 1) < lim := by simp only [List.length_append, List.length_cons, List.length_nil]; omega
      have c4 : (attrT l[i].attr ++ [32] ++ opW l[i].op ++ [32]).length + (Bf.valT l[i].val).length < lim := by simp only [List.length_append, List.length_cons, List.length_nil]; omega
      simp -implicitDefEqProofs only [go_sem, ↓reduceIte, Nat.reduceLT, Nat.reduceEqDiff, Nat.reduceAdd, Nat.reduceLeDiff, Nat.reduceMul, Nat.reduceSub, Int.natCast_zero, Int.ofNat_zero, Int.natCast_one, Int.cast_ofNat_Int, bne_self_eq_false, beq_self_eq_true, Int.reduceBEq, Int.reduceBNe, Bool.not_true, Bool.not_false, r3, r6, r7, r8, hm1_same, c2, c3]
      refine hsv.pthen ?_
      refine ⟨.hm1 hbid, ?_⟩
      simp -implicitDefEqProofs only [go_sem, ↓reduceIte, Nat.reduceLT, Nat.reduceEqDiff, Nat.reduceAdd, Nat.reduceLeDiff, Nat.reduceMul, Nat.reduceSub, Int.natCast_zero, Int.ofNat_zero, Int.natCast_one, Int.cast_ofNat_Int, bne_self_eq_false, beq_self_eq_true, Int.reduceBEq, Int.reduceBNe, Bool.not_true, Bool.not_false, r3, r6, r7, r8, hm1_same, c4]
      refine hyb.app (zs := [.s (matchT l[i])]) (s_cells _) (s_cells [matchT l[i]]) u9 (by rw [u9b]; decide) u9f u9n (fun k hk => hk) (by rw [u9b]; simp; omega) fun z' h2 hz' => ?_
      refine ⟨fun j b hj => ((Sub.hm1 (upd_same ..)).trans hz'.1) j b hj, ?_⟩
      simp -implicitDefEqProofs only [go_sem, ↓reduceIte, Nat.reduceLT, Nat.reduceEqDiff, Nat.reduceAdd, Nat.reduceLeDiff, Nat.reduceMul, Nat.reduceSub, Int.natCast_zero, Int.ofNat_zero, Int.natCast_one, Int.cast_ofNat_Int, bne_self_eq_false, beq_self_eq_true, Int.reduceBEq, Int.reduceBNe, Bool.not_true, Bool.not_false, r3, r6, r7, r8, w1]
      refine ⟨_, ?_, i + 1, z', ?_, by omega, rfl, ?_, ?_, ?_, ?_⟩
      · omega
      · rw [List.take_succ_eq_append_getElem hlt, List.map_append, List.map_append]
        exact hz'.less (Sub.upd_new (hy.1.none hid))
      all_goals simp -implicitDefEqProofs only [go_sem, ↓reduceIte, Nat.reduceLT, Nat.reduceEqDiff, Nat.reduceAdd, Nat.reduceLeDiff, Nat.reduceMul, Nat.reduceSub, Int.natCast_zero, Int.ofNat_zero, Int.natCast_one, Int.cast_ofNat_Int, bne_self_eq_false, beq_self_eq_true, Int.reduceBEq, Int.reduceBNe, Bool.not_true, Bool.not_false, r3, r6, r7, r8, w1]
    · have hge : i = l.length := by have := of_decide_eq_false e; omega
      subst hge
      rw [List.take_length] at hy
      have hj := join_le (l.map matchT) [44, 32] 8 222 (by simpa using hl8) fun x hx => by
        obtain ⟨m, hm, rfl⟩ := List.mem_map.1 hx
        have := matchOK_cases (hok m hm)
        exact matchT_le this.1 (valT_le this.2.2.2 (hi m hm).1 (hi m hm).2)
      simp only [List.length_cons, List.length_nil] at hj
      simp -implicitDefEqProofs only [go_sem, ↓reduceIte, Nat.reduceLT, Nat.reduceEqDiff, Nat.reduceAdd, Nat.reduceLeDiff, Nat.reduceMul, Nat.reduceSub, Int.natCast_zero, Int.ofNat_zero, Int.natCast_one, Int.cast_ofNat_Int, bne_self_eq_false, beq_self_eq_true, Int.reduceBEq, Int.reduceBNe, Bool.not_true, Bool.not_false, r3, r6, r7, r8]
      refine (join_ok y (l.map matchT) [44, 32] _ hy.seq (by omega) (by simp; omega)).pthen ?_
      simp -implicitDefEqProofs only [go_sem, ↓reduceIte, Nat.reduceLT, Nat.reduceEqDiff, Nat.reduceAdd, Nat.reduceLeDiff, Nat.reduceMul, Nat.reduceSub, Int.natCast_zero, Int.ofNat_zero, Int.natCast_one, Int.cast_ofNat_Int, bne_self_eq_false, beq_self_eq_true, Int.reduceBEq, Int.reduceBNe, Bool.not_true, Bool.not_false]
      exact .mk _ (.refl _) hy.1 ⟨rfl, rfl⟩
end Go.Proofs.YtdcchpbncckhlaaDoor

/- Targets, duties as texts. -/
set_option linter.unusedSimpArgs false
set_option linter.unusedVariables false
namespace Go.Proofs.YtdcchpbncckhlaaDoor
open Go Go.Ab Go.Bf

theorem starget_ok (Q : Quoted) (l : TgtD) (he : tgtE l = 0) (hi : inT l) (h : Heap) (ht : PowT h) : FnOK Tryd.prog 53 [tgtA l] h fun r h' => r = .s (tgtT l) ∧ h' = h := by
  refine FnOK.body hU hm Tryd.func53 rfl (by kernel_rfl) 41 rfl [.tmp 2] rfl (Nat.le_of_ble_eq_true rfl) (fun hwf => ?_)
  obtain ⟨hl8, hok⟩ := tgtE_zero he
  have hlim : lim = 9223372036854775808 := rfl
  cases d0 : ((l.length : Int) == 0)
  case true =>
    have e0 : l = [] := by have : (l.length : Int) = 0 := by simpa using d0
                           exact List.length_eq_zero_iff.1 (by omega)
    simp -implicitDefEqProofs only [go_sem, ↓reduceIte, Nat.reduceLT, Nat.reduceEqDiff, Nat.reduceAdd, Nat.reduceLeDiff, Nat.reduceMul, Nat.reduceSub, Int.natCast_zero, Int.ofNat_zero, Int.natCast_one, Int.cast_ofNat_Int, bne_self_eq_false, beq_self_eq_true, Int.reduceBEq, Int.reduceBNe, Bool.not_true, Bool.not_false, tgtA, List.length_map, d0]
    exact .same (.refl _) ⟨by simp [tgtT, e0, oneOr], rfl⟩
  have e0 : l ≠ [] := by rintro rfl; simp at d0
  simp -implicitDefEqProofs only [go_sem, ↓reduceIte, Nat.reduceLT, Nat.reduceEqDiff, Nat.reduceAdd, Nat.reduceLeDiff, Nat.reduceMul, Nat.reduceSub, Int.natCast_zero, Int.ofNat_zero, Int.natCast_one, Int.cast_ofNat_Int, bne_self_eq_false, beq_self_eq_true, Int.reduceBEq, Int.reduceBNe, Bool.not_true, Bool.not_false, tgtA, List.length_map, d0]
  refine .intro (fun m ρ h' => ∃ (i : Nat) (y : AV), WrA 9 h h' y (((l.take i).map anyT).map AV.s) ∧ i ≤ l.length ∧ m = l.length - i ∧ lk ρ 3 = some y ∧ lk ρ 12 = some (.sl (l.map anyA) .no) ∧ lk ρ 13 = some (.v (.int .i64 l.length)) ∧ lk ρ 14 = some (.v (.int .i64 i))) l.length ?_ ?_
  · refine ⟨0, _, .nil (.refl _), by omega, rfl, ?_, ?_, ?_, ?_⟩ <;> simp -implicitDefEqProofs only [go_sem, ↓reduceIte, Nat.reduceLT, Nat.reduceEqDiff, Nat.reduceAdd, Nat.reduceLeDiff, Nat.reduceMul, Nat.reduceSub, Int.natCast_zero, Int.ofNat_zero, Int.natCast_one, Int.cast_ofNat_Int, bne_self_eq_false, beq_self_eq_true, Int.reduceBEq, Int.reduceBNe, Bool.not_true, Bool.not_false]
  · rintro m ρ h' ⟨i, y, hy, hil, rfl, r3, r12, r13, r14⟩
    simp -implicitDefEqProofs only [go_sem, ↓reduceIte, Nat.reduceLT, Nat.reduceEqDiff, Nat.reduceAdd, Nat.reduceLeDiff, Nat.reduceMul, Nat.reduceSub, Int.natCast_zero, Int.ofNat_zero, Int.natCast_one, Int.cast_ofNat_Int, bne_self_eq_false, beq_self_eq_true, Int.reduceBEq, Int.reduceBNe, Bool.not_true, Bool.not_false, r3, r12, r13, r14]
    refine .intro (fun e => ?_) (fun e => ?_)
    · have hlt : i < l.length := Int.ofNat_lt.1 (of_decide_eq_true e)
      have w1 : IntKind.i64.wrap ((i : Int) + 1) = ((i + 1 : Nat) : Int) := by rw [wr64 _ (by omega)]; omega
      obtain ⟨x, ex⟩ : ∃ x, l[i] = x := ⟨_, rfl⟩
      have hax : anyE x = 0 := by rw [← ex]; exact hok _ (List.getElem_mem hlt)
      have hix : inY x := by rw [← ex]; exact hi _ (List.getElem_mem hlt)
      obtain ⟨_, hx8, hxo⟩ := anyE_zero hax
      simp -implicitDefEqProofs only [go_sem, ↓reduceIte, Nat.reduceLT, Nat.reduceEqDiff, Nat.reduceAdd, Nat.reduceLeDiff, Nat.reduceMul, Nat.reduceSub, Int.natCast_zero, Int.ofNat_zero, Int.natCast_one, Int.cast_ofNat_Int, bne_self_eq_false, beq_self_eq_true, Int.reduceBEq, Int.reduceBNe, Bool.not_true, Bool.not_false, r3, r12, r13, r14]
      refine .at i (by simpa using hlt) (by rw [List.getElem_map]; rfl) ?_
      simp -implicitDefEqProofs only [go_sem, ↓reduceIte, Nat.reduceLT, Nat.reduceEqDiff, Nat.reduceAdd, Nat.reduceLeDiff, Nat.reduceMul, Nat.reduceSub, Int.natCast_zero, Int.ofNat_zero, Int.natCast_one, Int.cast_ofNat_Int, bne_self_eq_false, beq_self_eq_true, Int.reduceBEq, Int.reduceBNe, Bool.not_true, Bool.not_false, r3, r12, r13, r14, List.getElem_map, ex, anyA, List.length_map]
      refine .intro (fun m ρ h2 => ∃ (k : Nat) (z : AV), WrA 9 h' h2 z (((x.take k).map allT).map AV.s) ∧ k ≤ x.length ∧ m = x.length - k ∧ lk ρ 6 = some z ∧ lk ρ 18 = some (.sl (x.map allA) .no) ∧ lk ρ 19 = some (.v (.int .i64 x.length)) ∧ lk ρ 20 = some (.v (.int .i64 k)) ∧
        lk ρ 3 = some y ∧ lk ρ 12 = some (.sl (l.map anyA) .no) ∧ lk ρ 13 = some (.v (.int .i64 l.length)) ∧ lk ρ 14 = some (.v (.int .i64 i))) x.length ?_ ?_
      · refine ⟨0, _, .nil (.refl _), by omega, rfl, ?_, ?_, ?_, ?_, ?_, ?_, ?_, ?_⟩ <;> simp -implicitDefEqProofs only [go_sem, ↓reduceIte, Nat.reduceLT, Nat.reduceEqDiff, Nat.reduceAdd, Nat.reduceLeDiff, Nat.reduceMul, Nat.reduceSub, Int.natCast_zero, Int.ofNat_zero, Int.natCast_one, Int.cast_ofNat_Int, bne_self_eq_false, beq_self_eq_true, Int.reduceBEq, Int.reduceBNe, Bool.not_true, Bool.not_false, r3, r12, r13, r14]
      · rintro m ρ h2 ⟨k, z, hz, hkl, rfl, r6, r18, r19, r20, r3, r12, r13, r14⟩
        simp -implicitDefEqProofs only [go_sem, ↓reduceIte, Nat.reduceLT, Nat.reduceEqDiff, Nat.reduceAdd, Nat.reduceLeDiff, Nat.reduceMul, Nat.reduceSub, Int.natCast_zero, Int.ofNat_zero, Int.natCast_one, Int.cast_ofNat_Int, bne_self_eq_false, beq_self_eq_true, Int.reduceBEq, Int.reduceBNe, Bool.not_true, Bool.not_false, r3, r12, r13, r14, r6, r18, r19, r20]
        refine .intro (fun e2 => ?_) (fun e2 => ?_)
        · have hkt : k < x.length := Int.ofNat_lt.1 (of_decide_eq_true e2)
          have w2 : IntKind.i64.wrap ((k : Int) + 1) = ((k + 1 : Nat) : Int) := by rw [wr64 _ (by omega)]; omega
          simp -implicitDefEqProofs only [go_sem, ↓reduceIte, Nat.reduceLT, Nat.reduceEqDiff, Nat.reduceAdd, Nat.reduceLeDiff, Nat.reduceMul, Nat.reduceSub, Int.natCast_zero, Int.ofNat_zero, Int.natCast_one, Int.cast_ofNat_Int, bne_self_eq_false, beq_self_eq_true, Int.reduceBEq, Int.reduceBNe, Bool.not_true, Bool.not_false, r3, r12, r13, r14, r6, r18, r19, r20]
          refine .at k (by simpa using hkt) (by rw [List.getElem_map]; rfl) ?_
          simp -implicitDefEqProofs only [go_sem, ↓reduceIte, Nat.reduceLT, Nat.reduceEqDiff, Nat.reduceAdd, Nat.reduceLeDiff, Nat.reduceMul, Nat.reduceSub, Int.natCast_zero, Int.ofNat_zero, Int.natCast_one, Int.cast_ofNat_Int, bne_self_eq_false, beq_self_eq_true, Int.reduceBEq, Int.reduceBNe, Bool.not_true, Bool.not_false, r3, r12, r13, r14, r6, r18, r19, r20, List.getElem_map, allA]
          have hal := all_ok Q x[k] (hxo _ (List.getElem_mem hkt)) (hix _ (List.getElem_mem hkt)) h2 ((ht.sub hy.1).sub hz.1)
          simp only [allA] at hal
          refine hal.pthen ?_
          simp -implicitDefEqProofs only [go_sem, ↓reduceIte, Nat.reduceLT, Nat.reduceEqDiff, Nat.reduceAdd, Nat.reduceLeDiff, Nat.reduceMul, Nat.reduceSub, Int.natCast_zero, Int.ofNat_zero, Int.natCast_one, Int.cast_ofNat_Int, bne_self_eq_false, beq_self_eq_true, Int.reduceBEq, Int.reduceBNe, Bool.not_true, Bool.not_false, r3, r12, r13, r14, r6, r18, r19, r20]
          refine hz.app (zs := [.s (allT x[k])]) (s_cells _) (s_cells [allT x[k]]) u9 (by rw [u9b]; decide) u9f u9n (fun k hk => hk) (by rw [u9b]; simp; omega) fun z' h3 hz' => ?_
          simp -implicitDefEqProofs only [go_sem, ↓reduceIte, Nat.reduceLT, Nat.reduceEqDiff, Nat.reduceAdd, Nat.reduceLeDiff, Nat.reduceMul, Nat.reduceSub, Int.natCast_zero, Int.ofNat_zero, Int.natCast_one, Int.cast_ofNat_Int, bne_self_eq_false, beq_self_eq_true, Int.reduceBEq, Int.reduceBNe, Bool.not_true, Bool.not_false, r3, r12, r13, r14, r6, r18, r19, r20, w2]
          refine ⟨_, ?_, k + 1, z', ?_, by omega, rfl, ?_, ?_, ?_, ?_, ?_, ?_, ?_, ?_⟩
          · omega
          · rw [List.take_succ_eq_append_getElem hkt, List.map_append, List.map_append]
            exact hz'
          all_goals simp -implicitDefEqProofs only [go_sem, ↓reduceIte, Nat.reduceLT, Nat.reduceEqDiff, Nat.reduceAdd, Nat.reduceLeDiff, Nat.reduceMul, Nat.reduceSub, Int.natCast_zero, Int.ofNat_zero, Int.natCast_one, Int.cast_ofNat_Int, bne_self_eq_false, beq_self_eq_true, Int.reduceBEq, Int.reduceBNe, Bool.not_true, Bool.not_false, r3, r12, r13, r14, r6, r18, r19, r20, w2]
        · have hge : k = x.length := by have := of_decide_eq_false e2; omega
          subst hge
          rw [List.take_length] at hz
          have hj := join_le (x.map allT) [32, 111, 114, 32] 8 1792 (by simpa using hx8) fun s hs => by
            obtain ⟨m, hm, rfl⟩ := List.mem_map.1 hs
            exact allT_le (hxo m hm) (hix m hm)
          simp only [List.length_cons, List.length_nil] at hj
          have hy2 := hy.sub hz.1
          simp -implicitDefEqProofs only [go_sem, ↓reduceIte, Nat.reduceLT, Nat.reduceEqDiff, Nat.reduceAdd, Nat.reduceLeDiff, Nat.reduceMul, Nat.reduceSub, Int.natCast_zero, Int.ofNat_zero, Int.natCast_one, Int.cast_ofNat_Int, bne_self_eq_false, beq_self_eq_true, Int.reduceBEq, Int.reduceBNe, Bool.not_true, Bool.not_false, r3, r12, r13, r14, r6, r18, r19, r20]
          refine (join_ok z (x.map allT) [32, 111, 114, 32] _ hz.seq (by omega) (by simp; omega)).pthen ?_
          have c1 : 0 + 1 + (Lib.join (x.map allT) [32, 111, 114, 32]).length < lim := by omega
          have c2 : ([40] ++ Lib.join (x.map allT) [32, 111, 114, 32]).length + (0 + 1) < lim := by simp only [List.length_append, List.length_cons, List.length_nil]; omega
          simp -implicitDefEqProofs only [go_sem, ↓reduceIte, Nat.reduceLT, Nat.reduceEqDiff, Nat.reduceAdd, Nat.reduceLeDiff, Nat.reduceMul, Nat.reduceSub, Int.natCast_zero, Int.ofNat_zero, Int.natCast_one, Int.cast_ofNat_Int, bne_self_eq_false, beq_self_eq_true, Int.reduceBEq, Int.reduceBNe, Bool.not_true, Bool.not_false, r3, r12, r13, r14, r6, r18, r19, r20, c1, c2]
          refine ⟨by omega, ?_⟩
          refine hy2.app (zs := [.s (40 :: (Lib.join (x.map allT) [32, 111, 114, 32] ++ [41]))]) (s_cells _) (s_cells [40 :: (Lib.join (x.map allT) [32, 111, 114, 32] ++ [41])]) u9 (by rw [u9b]; decide) u9f u9n (fun k hk => hk) (by rw [u9b]; simp; omega) fun y' h3 hy' => ?_
          simp -implicitDefEqProofs only [go_sem, ↓reduceIte, Nat.reduceLT, Nat.reduceEqDiff, Nat.reduceAdd, Nat.reduceLeDiff, Nat.reduceMul, Nat.reduceSub, Int.natCast_zero, Int.ofNat_zero, Int.natCast_one, Int.cast_ofNat_Int, bne_self_eq_false, beq_self_eq_true, Int.reduceBEq, Int.reduceBNe, Bool.not_true, Bool.not_false, r3, r12, r13, r14, r6, r18, r19, r20, w1]
          refine ⟨_, ?_, i + 1, y', ?_, by omega, rfl, ?_, ?_, ?_, ?_⟩
          · omega
          · rw [List.take_succ_eq_append_getElem hlt, List.map_append, List.map_append, ex]
            exact hy'
          all_goals simp -implicitDefEqProofs only [go_sem, ↓reduceIte, Nat.reduceLT, Nat.reduceEqDiff, Nat.reduceAdd, Nat.reduceLeDiff, Nat.reduceMul, Nat.reduceSub, Int.natCast_zero, Int.ofNat_zero, Int.natCast_one, Int.cast_ofNat_Int, bne_self_eq_false, beq_self_eq_true, Int.reduceBEq, Int.reduceBNe, Bool.not_true, Bool.not_false, r3, r12, r13, r14, r6, r18, r19, r20, w1]
    · have hge : i = l.length := by have := of_decide_eq_false e; omega
      subst hge
      rw [List.take_length] at hy
      have hj := join_le (l.map anyT) [32, 97, 110, 100, 32] 8 14370 (by simpa using hl8) fun s hs => by
        obtain ⟨m, hm, rfl⟩ := List.mem_map.1 hs
        exact anyT_le (hok m hm) (hi m hm)
      simp only [List.length_cons, List.length_nil] at hj
      simp -implicitDefEqProofs only [go_sem, ↓reduceIte, Nat.reduceLT, Nat.reduceEqDiff, Nat.reduceAdd, Nat.reduceLeDiff, Nat.reduceMul, Nat.reduceSub, Int.natCast_zero, Int.ofNat_zero, Int.natCast_one, Int.cast_ofNat_Int, bne_self_eq_false, beq_self_eq_true, Int.reduceBEq, Int.reduceBNe, Bool.not_true, Bool.not_false, r3, r12, r13, r14]
      refine (join_ok y (l.map anyT) [32, 97, 110, 100, 32] _ hy.seq (by omega) (by simp; omega)).pthen ?_
      have c1 : 0 + 1 + 1 + 1 + 1 + 1 + 1 + (Lib.join (l.map anyT) [32, 97, 110, 100, 32]).length < lim := by omega
      simp -implicitDefEqProofs only [go_sem, ↓reduceIte, Nat.reduceLT, Nat.reduceEqDiff, Nat.reduceAdd, Nat.reduceLeDiff, Nat.reduceMul, Nat.reduceSub, Int.natCast_zero, Int.ofNat_zero, Int.natCast_one, Int.cast_ofNat_Int, bne_self_eq_false, beq_self_eq_true, Int.reduceBEq, Int.reduceBNe, Bool.not_true, Bool.not_false, c1]
      exact .mk _ (.refl _) hy.1 ⟨by simp [tgtT, e0, oneOr], rfl⟩

theorem words_on (n : Int) (h1 : 1 ≤ n) (h4 : n ≤ 2) : ∃ i : Nat, n = i + 1 ∧ ∃ hi : i < [[112, 101, 114, 109, 105, 116], [100, 101, 110, 121]].length, ([[112, 101, 114, 109, 105, 116], [100, 101, 110, 121]] : List Txt)[i]'hi = onW n := by
  rcases (by omega : n = 1 ∨ n = 2) with rfl | rfl
  · exact ⟨0, rfl, by decide, rfl⟩
  · exact ⟨1, rfl, by decide, rfl⟩
theorem words_duty (n : Int) (h1 : 1 ≤ n) (h4 : n ≤ 4) : ∃ i : Nat, n = i + 1 ∧ ∃ hi : i < [[108, 111, 103], [114, 101, 100, 97, 99, 116], [114, 101, 118, 105, 101, 119], [110, 111, 116, 105, 102, 121]].length, ([[108, 111, 103], [114, 101, 100, 97, 99, 116], [114, 101, 118, 105, 101, 119], [110, 111, 116, 105, 102, 121]] : List Txt)[i]'hi = dutyW n := by
  rcases (by omega : n = 1 ∨ n = 2 ∨ n = 3 ∨ n = 4) with rfl | rfl | rfl | rfl
  · exact ⟨0, rfl, by decide, rfl⟩
  · exact ⟨1, rfl, by decide, rfl⟩
  · exact ⟨2, rfl, by decide, rfl⟩
  · exact ⟨3, rfl, by decide, rfl⟩

theorem oblOK_cases {o : OblD} (h : oblOK o = true) : 1 ≤ o.on ∧ o.on ≤ 2 ∧ 1 ≤ o.kind ∧ o.kind ≤ 4 ∧ nameOK o.arg = true := by
  simp only [oblOK, Bool.and_eq_true, decide_eq_true_eq] at h
  exact ⟨h.1.1.1.1, h.1.1.1.2, h.1.1.2, h.1.2, h.2⟩

theorem sduties_ok (l : List OblD) (he : oblsE l = 0) (h : Heap) : FnOK Tryd.prog 55 [oblsA l] h fun r h' => r = .s (oblsT l) ∧ h' = h := by
  refine FnOK.body hU hm Tryd.func55 rfl (by kernel_rfl) 31 rfl [.tmp 2] rfl (Nat.le_of_ble_eq_true rfl) (fun hwf => ?_)
  obtain ⟨hl8, hok⟩ := oblsE_zero he
  have hlim : lim = 9223372036854775808 := rfl
  simp -implicitDefEqProofs only [go_sem, ↓reduceIte, Nat.reduceLT, Nat.reduceEqDiff, Nat.reduceAdd, Nat.reduceLeDiff, Nat.reduceMul, Nat.reduceSub, Int.natCast_zero, Int.ofNat_zero, Int.natCast_one, Int.cast_ofNat_Int, bne_self_eq_false, beq_self_eq_true, Int.reduceBEq, Int.reduceBNe, Bool.not_true, Bool.not_false, oblsA, List.length_map]
  refine .intro (fun m ρ h' => Ab.Sub h h' ∧ ∃ (i : Nat), i ≤ l.length ∧ m = l.length - i ∧ lk ρ 3 = some (.s (((l.take i).map oblT).flatten)) ∧ lk ρ 6 = some (.sl (l.map oblA) .no) ∧ lk ρ 7 = some (.v (.int .i64 l.length)) ∧ lk ρ 8 = some (.v (.int .i64 i))) l.length ?_ ?_
  · refine ⟨.refl _, 0, by omega, rfl, ?_, ?_, ?_, ?_⟩ <;> simp -implicitDefEqProofs only [go_sem, ↓reduceIte, Nat.reduceLT, Nat.reduceEqDiff, Nat.reduceAdd, Nat.reduceLeDiff, Nat.reduceMul, Nat.reduceSub, Int.natCast_zero, Int.ofNat_zero, Int.natCast_one, Int.cast_ofNat_Int, bne_self_eq_false, beq_self_eq_true, Int.reduceBEq, Int.reduceBNe, Bool.not_true, Bool.not_false] <;> rfl
  · rintro m ρ h' ⟨hs, i, hil, rfl, r3, r6, r7, r8⟩
    simp -implicitDefEqProofs only [go_sem, ↓reduceIte, Nat.reduceLT, Nat.reduceEqDiff, Nat.reduceAdd, Nat.reduceLeDiff, Nat.reduceMul, Nat.reduceSub, Int.natCast_zero, Int.ofNat_zero, Int.natCast_one, Int.cast_ofNat_Int, bne_self_eq_false, beq_self_eq_true, Int.reduceBEq, Int.reduceBNe, Bool.not_true, Bool.not_false, r3, r6, r7, r8]
    refine .intro (fun e => ?_) (fun e => ?_)
    · have hlt : i < l.length := Int.ofNat_lt.1 (of_decide_eq_true e)
      have w1 : IntKind.i64.wrap ((i : Int) + 1) = ((i + 1 : Nat) : Int) := by rw [wr64 _ (by omega)]; omega
      have hmk := oblOK_cases (hok l[i] (List.getElem_mem hlt))
      have hle := oblT_le (hok l[i] (List.getElem_mem hlt))
      obtain ⟨j, hn, hj, hw⟩ := words_on l[i].on hmk.1 hmk.2.1
      obtain ⟨j2, hn2, hj2, hw2⟩ := words_duty l[i].kind hmk.2.2.1 hmk.2.2.2.1
      have hpre := flatten_le ((l.take i).map oblT) 8 34 (by simp; omega) fun x hx => by
        obtain ⟨o, ho, rfl⟩ := List.mem_map.1 hx
        exact oblT_le (hok o (List.mem_of_mem_take ho))
      have hle2 := hle
      unfold oblT at hle
      simp only [List.length_append, List.length_cons, List.length_nil] at hle
      simp -implicitDefEqProofs only [go_sem, ↓reduceIte, Nat.reduceLT, Nat.reduceEqDiff, Nat.reduceAdd, Nat.reduceLeDiff, Nat.reduceMul, Nat.reduceSub, Int.natCast_zero, Int.ofNat_zero, Int.natCast_one, Int.cast_ofNat_Int, bne_self_eq_false, beq_self_eq_true, Int.reduceBEq, Int.reduceBNe, Bool.not_true, Bool.not_false, r3, r6, r7, r8]
      refine .at i (by simpa using hlt) (by rw [List.getElem_map]; rfl) ?_
      simp -implicitDefEqProofs only [go_sem, ↓reduceIte, Nat.reduceLT, Nat.reduceEqDiff, Nat.reduceAdd, Nat.reduceLeDiff, Nat.reduceMul, Nat.reduceSub, Int.natCast_zero, Int.ofNat_zero, Int.natCast_one, Int.cast_ofNat_Int, bne_self_eq_false, beq_self_eq_true, Int.reduceBEq, Int.reduceBNe, Bool.not_true, Bool.not_false, r3, r6, r7, r8, List.getElem_map, oblA]
      intro id hid
      simp -implicitDefEqProofs only [go_sem, ↓reduceIte, Nat.reduceLT, Nat.reduceEqDiff, Nat.reduceAdd, Nat.reduceLeDiff, Nat.reduceMul, Nat.reduceSub, Int.natCast_zero, Int.ofNat_zero, Int.natCast_one, Int.cast_ofNat_Int, bne_self_eq_false, beq_self_eq_true, Int.reduceBEq, Int.reduceBNe, Bool.not_true, Bool.not_false, r3, r6, r7, r8]
      refine .quiet (by kernel_rfl) ?_
      simp -implicitDefEqProofs only [go_sem, ↓reduceIte, Nat.reduceLT, Nat.reduceEqDiff, Nat.reduceAdd, Nat.reduceLeDiff, Nat.reduceMul, Nat.reduceSub, Int.natCast_zero, Int.ofNat_zero, Int.natCast_one, Int.cast_ofNat_Int, bne_self_eq_false, beq_self_eq_true, Int.reduceBEq, Int.reduceBNe, Bool.not_true, Bool.not_false, r3, r6, r7, r8]
      refine ⟨_, word_ok l[i].on j _ [[112, 101, 114, 109, 105, 116], [100, 101, 110, 121]] _ (.sl _ _) hn hj (by simp at hj; omega), ?_⟩
      rw [hw]
      have c1 : 0 + 1 + 1 + 1 + 1 + (onW l[i].on).length < lim := by omega
      have c2 : ([32, 111, 110, 32] ++ onW l[i].on).length + (0 + 1) < lim := by simp only [List.length_append, List.length_cons, List.length_nil]; omega
      simp -implicitDefEqProofs only [go_sem, ↓reduceIte, Nat.reduceLT, Nat.reduceEqDiff, Nat.reduceAdd, Nat.reduceLeDiff, Nat.reduceMul, Nat.reduceSub, Int.natCast_zero, Int.ofNat_zero, Int.natCast_one, Int.cast_ofNat_Int, bne_self_eq_false, beq_self_eq_true, Int.reduceBEq, Int.reduceBNe, Bool.not_true, Bool.not_false, r3, r6, r7, r8, c1, c2]
      refine ⟨by omega, ?_⟩
      refine ⟨_, word_ok l[i].kind j2 _ [[108, 111, 103], [114, 101, 100, 97, 99, 116], [114, 101, 118, 105, 101, 119], [110, 111, 116, 105, 102, 121]] _ (.sl _ _) hn2 hj2 (by simp at hj2; omega), ?_⟩
      rw [hw2]
      simp -implicitDefEqProofs only [go_sem, ↓reduceIte, Nat.reduceLT, Nat.reduceEqDiff, Nat.reduceAdd, Nat.reduceLeDiff, Nat.reduceMul, Nat.reduceSub, Int.natCast_zero, Int.ofNat_zero, Int.natCast_one, Int.cast_ofNat_Int, bne_self_eq_false, beq_self_eq_true, Int.reduceBEq, Int.reduceBNe, Bool.not_true, Bool.not_false, r3, r6, r7, r8, w1]
      simp only [List.length_append, List.length_cons, List.length_nil]
      refine ⟨by omega, by omega, by omega, by omega, ?_⟩
      refine ⟨_, ?_, hs.new hid _, i + 1, by omega, rfl, ?_, ?_, ?_, ?_⟩
      · omega
      · simp -implicitDefEqProofs only [go_sem, ↓reduceIte, Nat.reduceLT, Nat.reduceEqDiff, Nat.reduceAdd, Nat.reduceLeDiff, Nat.reduceMul, Nat.reduceSub, Int.natCast_zero, Int.ofNat_zero, Int.natCast_one, Int.cast_ofNat_Int, bne_self_eq_false, beq_self_eq_true, Int.reduceBEq, Int.reduceBNe, Bool.not_true, Bool.not_false]
        rw [List.take_succ_eq_append_getElem hlt, List.map_append, List.flatten_append]
        simp [oblT]
      all_goals simp -implicitDefEqProofs only [go_sem, ↓reduceIte, Nat.reduceLT, Nat.reduceEqDiff, Nat.reduceAdd, Nat.reduceLeDiff, Nat.reduceMul, Nat.reduceSub, Int.natCast_zero, Int.ofNat_zero, Int.natCast_one, Int.cast_ofNat_Int, bne_self_eq_false, beq_self_eq_true, Int.reduceBEq, Int.reduceBNe, Bool.not_true, Bool.not_false, r3, r6, r7, r8, w1]
    · have hge : i = l.length := by have := of_decide_eq_false e; omega
      subst hge
      rw [List.take_length] at r3
      simp -implicitDefEqProofs only [go_sem, ↓reduceIte, Nat.reduceLT, Nat.reduceEqDiff, Nat.reduceAdd, Nat.reduceLeDiff, Nat.reduceMul, Nat.reduceSub, Int.natCast_zero, Int.ofNat_zero, Int.natCast_one, Int.cast_ofNat_Int, bne_self_eq_false, beq_self_eq_true, Int.reduceBEq, Int.reduceBNe, Bool.not_true, Bool.not_false, r3, r6, r7, r8]
      exact .mk _ (.refl _) hs ⟨rfl, rfl⟩
end Go.Proofs.YtdcchpbncckhlaaDoor

/- Expressions as texts. -/
set_option linter.unusedSimpArgs false
set_option linter.unusedVariables false
namespace Go.Proofs.YtdcchpbncckhlaaDoor
open Go Go.Ab Go.Bf

def fnWords : List Txt := [[111, 110, 101], [115, 105, 122, 101], [104, 97, 115], [101, 113], [108, 101, 115, 115], [97, 100, 100], [115, 117, 98], [109, 117, 108], [110, 111, 116], [97, 110, 100], [111, 114]]
theorem words_fn (n : Int) (h1 : 3 ≤ n) (h4 : n ≤ 13) : ∃ i : Nat, n - 2 = i + 1 ∧ ∃ hi : i < fnWords.length, fnWords[i]'hi = fnW n := by
  rcases (by omega : n = 3 ∨ n = 4 ∨ n = 5 ∨ n = 6 ∨ n = 7 ∨ n = 8 ∨ n = 9 ∨ n = 10 ∨ n = 11 ∨ n = 12 ∨ n = 13) with rfl | rfl | rfl | rfl | rfl | rfl | rfl | rfl | rfl | rfl | rfl
  · exact ⟨0, rfl, by decide, rfl⟩
  · exact ⟨1, rfl, by decide, rfl⟩
  · exact ⟨2, rfl, by decide, rfl⟩
  · exact ⟨3, rfl, by decide, rfl⟩
  · exact ⟨4, rfl, by decide, rfl⟩
  · exact ⟨5, rfl, by decide, rfl⟩
  · exact ⟨6, rfl, by decide, rfl⟩
  · exact ⟨7, rfl, by decide, rfl⟩
  · exact ⟨8, rfl, by decide, rfl⟩
  · exact ⟨9, rfl, by decide, rfl⟩
  · exact ⟨10, rfl, by decide, rfl⟩

theorem function_ok (op : Int) (h1 : 3 ≤ op) (h2 : op ≤ 13) (h : Heap) : FnOK Tryd.prog 40 [.v (.int .i64 op)] h fun r h' => r = .tup [.s (fnW op), .v (.int .i64 (arity op : Nat))] ∧ h' = h := by
  refine FnOK.body hU hm Tryd.func40 rfl (by kernel_rfl) 22 rfl [.tmp 2, .tmp 3] rfl (Nat.le_of_ble_eq_true rfl) (fun hwf => ?_)
  obtain ⟨i, hn, hi, hw⟩ := words_fn op h1 h2
  have w1 : IntKind.i64.wrap (op - 3) = op - 3 := wr64 _ (by omega)
  have w2 : IntKind.i64.wrap (op - 3 + 1) = op - 2 := by rw [wr64 _ (by omega)]; omega
  simp -implicitDefEqProofs only [go_sem, ↓reduceIte, Nat.reduceLT, Nat.reduceEqDiff, Nat.reduceAdd, Nat.reduceLeDiff, Nat.reduceMul, Nat.reduceSub, Int.natCast_zero, Int.ofNat_zero, Int.natCast_one, Int.cast_ofNat_Int, bne_self_eq_false, beq_self_eq_true, Int.reduceBEq, Int.reduceBNe, Bool.not_true, Bool.not_false, w1, w2]
  have hwd := word_ok (op - 2) i (.sl [.s [111, 110, 101], .s [115, 105, 122, 101], .s [104, 97, 115], .s [101, 113], .s [108, 101, 115, 115], .s [97, 100, 100], .s [115, 117, 98], .s [109, 117, 108], .s [110, 111, 116], .s [97, 110, 100], .s [111, 114]] .full) fnWords h (.sl _ _) hn hi (by simp [fnWords] at hi; omega)
  rw [hw] at hwd
  refine hwd.pthen ?_
  cases k3 : (op == 3) <;> cases k4 : (op == 4) <;> cases k11 : (op == 11)
  all_goals
    simp -implicitDefEqProofs only [go_sem, ↓reduceIte, Nat.reduceLT, Nat.reduceEqDiff, Nat.reduceAdd, Nat.reduceLeDiff, Nat.reduceMul, Nat.reduceSub, Int.natCast_zero, Int.ofNat_zero, Int.natCast_one, Int.cast_ofNat_Int, bne_self_eq_false, beq_self_eq_true, Int.reduceBEq, Int.reduceBNe, Bool.not_true, Bool.not_false, k3, k4, k11]
    refine .same (.refl _) ⟨?_, rfl⟩
    simp only [beq_iff_eq, beq_eq_false_iff_ne] at k3 k4 k11
    simp [arity, k3, k4, k11, oneOr]

def exprS (l : List NodeD) : Txt := if l = [] ∨ exprE l ≠ 0 then [] else exprT l

theorem sexpr_ok (Q : Quoted) (l : List NodeD) (hi : inL l) (h : Heap) (ht : PowT h) : FnOK Tryd.prog 21 [condA l] h fun r h' => r = .s (exprS l) ∧ h' = h := by
  refine FnOK.body hU hm Tryd.func21 rfl (by kernel_rfl) 71 rfl [.tmp 2] rfl (Nat.le_of_ble_eq_true rfl) (fun hwf => ?_)
  have hlim : lim = 9223372036854775808 := rfl
  cases d0 : ((l.length : Int) == 0)
  case true =>
    have e0 : l = [] := by have : (l.length : Int) = 0 := by simpa using d0
                           exact List.length_eq_zero_iff.1 (by omega)
    simp -implicitDefEqProofs only [go_sem, ↓reduceIte, Nat.reduceLT, Nat.reduceEqDiff, Nat.reduceAdd, Nat.reduceLeDiff, Nat.reduceMul, Nat.reduceSub, Int.natCast_zero, Int.ofNat_zero, Int.natCast_one, Int.cast_ofNat_Int, bne_self_eq_false, beq_self_eq_true, Int.reduceBEq, Int.reduceBNe, Bool.not_true, Bool.not_false, condA, List.length_map, d0]
    exact .same (.refl _) ⟨by simp [exprS, e0, oneOr], rfl⟩
  have e0 : l ≠ [] := by rintro rfl; simp at d0
  simp -implicitDefEqProofs only [go_sem, ↓reduceIte, Nat.reduceLT, Nat.reduceEqDiff, Nat.reduceAdd, Nat.reduceLeDiff, Nat.reduceMul, Nat.reduceSub, Int.natCast_zero, Int.ofNat_zero, Int.natCast_one, Int.cast_ofNat_Int, bne_self_eq_false, beq_self_eq_true, Int.reduceBEq, Int.reduceBNe, Bool.not_true, Bool.not_false, condA, List.length_map, d0]
  have hex := expr_ok l h
  simp only [condA] at hex
  refine hex.pthen ?_
  cases d1 : (exprE l != 0)
  case true =>
    have e1 : exprE l ≠ 0 := by simpa using d1
    simp -implicitDefEqProofs only [go_sem, ↓reduceIte, Nat.reduceLT, Nat.reduceEqDiff, Nat.reduceAdd, Nat.reduceLeDiff, Nat.reduceMul, Nat.reduceSub, Int.natCast_zero, Int.ofNat_zero, Int.natCast_one, Int.cast_ofNat_Int, bne_self_eq_false, beq_self_eq_true, Int.reduceBEq, Int.reduceBNe, Bool.not_true, Bool.not_false, condA, List.length_map, d0, d1]
    exact .same (.refl _) ⟨by simp [exprS, e1, oneOr], rfl⟩
  have e1 : exprE l = 0 := by simpa using d1
  obtain ⟨hl32, hfin⟩ := exprE_zero e1 e0
  simp -implicitDefEqProofs only [go_sem, ↓reduceIte, Nat.reduceLT, Nat.reduceEqDiff, Nat.reduceAdd, Nat.reduceLeDiff, Nat.reduceMul, Nat.reduceSub, Int.natCast_zero, Int.ofNat_zero, Int.natCast_one, Int.cast_ofNat_Int, bne_self_eq_false, beq_self_eq_true, Int.reduceBEq, Int.reduceBNe, Bool.not_true, Bool.not_false, condA, List.length_map, d0, d1]
  refine .intro (fun m ρ h' => ∃ (i : Nat) (y : AV), WrA 9 h h' y (((l.take i).foldl Bf.stepT []).map AV.s) ∧ i ≤ l.length ∧ m = l.length - i ∧ lk ρ 3 = some y ∧ lk ρ 18 = some (.sl (l.map nodeA) .no) ∧ lk ρ 19 = some (.v (.int .i64 l.length)) ∧ lk ρ 20 = some (.v (.int .i64 i))) l.length ?_ ?_
  · refine ⟨0, _, .nil (.refl _), by omega, rfl, ?_, ?_, ?_, ?_⟩ <;> simp -implicitDefEqProofs only [go_sem, ↓reduceIte, Nat.reduceLT, Nat.reduceEqDiff, Nat.reduceAdd, Nat.reduceLeDiff, Nat.reduceMul, Nat.reduceSub, Int.natCast_zero, Int.ofNat_zero, Int.natCast_one, Int.cast_ofNat_Int, bne_self_eq_false, beq_self_eq_true, Int.reduceBEq, Int.reduceBNe, Bool.not_true, Bool.not_false]
  · rintro m ρ h' ⟨i, y, hy, hil, rfl, r3, r18, r19, r20⟩
    simp -implicitDefEqProofs only [go_sem, ↓reduceIte, Nat.reduceLT, Nat.reduceEqDiff, Nat.reduceAdd, Nat.reduceLeDiff, Nat.reduceMul, Nat.reduceSub, Int.natCast_zero, Int.ofNat_zero, Int.natCast_one, Int.cast_ofNat_Int, bne_self_eq_false, beq_self_eq_true, Int.reduceBEq, Int.reduceBNe, Bool.not_true, Bool.not_false, r3, r18, r19, r20]
    refine .intro (fun e => ?_) (fun e => ?_)
    · have hlt : i < l.length := Int.ofNat_lt.1 (of_decide_eq_true e)
      have w1 : IntKind.i64.wrap ((i : Int) + 1) = ((i + 1 : Nat) : Int) := by rw [wr64 _ (by omega)]; omega
      obtain ⟨bs, hbs⟩ := exprE_take e1 i
      obtain ⟨bs', hbs'⟩ := exprE_take e1 (i + 1)
      have hstep : stepD bs l[i] = some bs' := by
        rw [stepsD_split [] _ i, List.take_take, Nat.min_eq_left (by omega), hbs, List.take_succ_eq_append_getElem hlt, List.drop_append_of_le_length (by simp; omega), List.drop_of_length_le (by simp; omega)] at hbs'
        simp only [List.nil_append, stepsD] at hbs'
        cases hs : stepD bs l[i] with
        | none => rw [hs] at hbs'; cases hbs'
        | some b2 => rw [hs] at hbs'; exact hbs'
      obtain ⟨st, est⟩ : ∃ st, (l.take i).foldl Bf.stepT [] = st := ⟨_, rfl⟩
      obtain ⟨g1, g2⟩ := stepsT_tot (l.take i) [] bs [] hbs (fun n hn => hi n (List.mem_of_mem_take hn)) rfl
      rw [est] at g1 g2 hy
      have g3 : tot st ≤ 6240 := by
        have : (l.take i).length ≤ 32 := by simp; omega
        have : tot ([] : List Txt) = 0 := rfl
        omega
      have hnext : ∀ z, (l.take (i + 1)).foldl Bf.stepT [] = z ↔ Bf.stepT st l[i] = z := fun z => by
        rw [List.take_succ_eq_append_getElem hlt, List.foldl_append, est]; rfl
      have hin := hi l[i] (List.getElem_mem hlt)
      have hstl : st.length ≤ 6240 := by unfold tot at g3; omega
      simp -implicitDefEqProofs only [go_sem, ↓reduceIte, Nat.reduceLT, Nat.reduceEqDiff, Nat.reduceAdd, Nat.reduceLeDiff, Nat.reduceMul, Nat.reduceSub, Int.natCast_zero, Int.ofNat_zero, Int.natCast_one, Int.cast_ofNat_Int, bne_self_eq_false, beq_self_eq_true, Int.reduceBEq, Int.reduceBNe, Bool.not_true, Bool.not_false, r3, r18, r19, r20]
      refine .at i (by simpa using hlt) (by rw [List.getElem_map]; rfl) ?_
      simp -implicitDefEqProofs only [go_sem, ↓reduceIte, Nat.reduceLT, Nat.reduceEqDiff, Nat.reduceAdd, Nat.reduceLeDiff, Nat.reduceMul, Nat.reduceSub, Int.natCast_zero, Int.ofNat_zero, Int.natCast_one, Int.cast_ofNat_Int, bne_self_eq_false, beq_self_eq_true, Int.reduceBEq, Int.reduceBNe, Bool.not_true, Bool.not_false, r3, r18, r19, r20, List.getElem_map, nodeA]
      intro id hid
      have hyb := hy.sub (Sub.upd_new (k := some (.obj [.v (.int .i64 l[i].op), .v (.int .i64 l[i].val.kind), .v (.int .i64 l[i].val.n), .s l[i].val.s, .v (.int .i64 l[i].attr.cat), .s l[i].attr.name, .v (.bool l[i].attr.must)] 33)) hid)
      rcases stepD_some hstep with ⟨k1, h1, _⟩ | ⟨k2, h1, _⟩ | ⟨k3, k13, h1, _⟩
      · have t1 : (l[i].op == 1) = true := by simp [k1]
        simp -implicitDefEqProofs only [go_sem, ↓reduceIte, Nat.reduceLT, Nat.reduceEqDiff, Nat.reduceAdd, Nat.reduceLeDiff, Nat.reduceMul, Nat.reduceSub, Int.natCast_zero, Int.ofNat_zero, Int.natCast_one, Int.cast_ofNat_Int, bne_self_eq_false, beq_self_eq_true, Int.reduceBEq, Int.reduceBNe, Bool.not_true, Bool.not_false, r3, r18, r19, r20, t1]
        have hv := vtext_ok Q l[i].val hin _ (ht.sub hyb.1)
        simp only [valA, valS, h1, if_true] at hv
        refine hv.pthen ?_
        simp -implicitDefEqProofs only [go_sem, ↓reduceIte, Nat.reduceLT, Nat.reduceEqDiff, Nat.reduceAdd, Nat.reduceLeDiff, Nat.reduceMul, Nat.reduceSub, Int.natCast_zero, Int.ofNat_zero, Int.natCast_one, Int.cast_ofNat_Int, bne_self_eq_false, beq_self_eq_true, Int.reduceBEq, Int.reduceBNe, Bool.not_true, Bool.not_false, r3, r18, r19, r20, t1]
        refine hyb.app (zs := [.s (Bf.valT l[i].val)]) (s_cells _) (s_cells [Bf.valT l[i].val]) u9 (by rw [u9b]; decide) u9f u9n (fun k hk => hk) (by rw [u9b]; simp; omega) fun z' h2 hz' => ?_
        simp -implicitDefEqProofs only [go_sem, ↓reduceIte, Nat.reduceLT, Nat.reduceEqDiff, Nat.reduceAdd, Nat.reduceLeDiff, Nat.reduceMul, Nat.reduceSub, Int.natCast_zero, Int.ofNat_zero, Int.natCast_one, Int.cast_ofNat_Int, bne_self_eq_false, beq_self_eq_true, Int.reduceBEq, Int.reduceBNe, Bool.not_true, Bool.not_false, r3, r18, r19, r20, t1, w1]
        refine ⟨_, ?_, i + 1, z', ?_, by omega, rfl, ?_, ?_, ?_, ?_⟩
        · omega
        · rw [(hnext _).2 rfl, Bf.stepT, if_pos k1, List.map_append]
          exact hz'
        all_goals simp -implicitDefEqProofs only [go_sem, ↓reduceIte, Nat.reduceLT, Nat.reduceEqDiff, Nat.reduceAdd, Nat.reduceLeDiff, Nat.reduceMul, Nat.reduceSub, Int.natCast_zero, Int.ofNat_zero, Int.natCast_one, Int.cast_ofNat_Int, bne_self_eq_false, beq_self_eq_true, Int.reduceBEq, Int.reduceBNe, Bool.not_true, Bool.not_false, r3, r18, r19, r20, w1]
      · have t1 : (l[i].op == 1) = false := by simp [k2]
        have t2 : (l[i].op == 2) = true := by simp [k2]
        simp -implicitDefEqProofs only [go_sem, ↓reduceIte, Nat.reduceLT, Nat.reduceEqDiff, Nat.reduceAdd, Nat.reduceLeDiff, Nat.reduceMul, Nat.reduceSub, Int.natCast_zero, Int.ofNat_zero, Int.natCast_one, Int.cast_ofNat_Int, bne_self_eq_false, beq_self_eq_true, Int.reduceBEq, Int.reduceBNe, Bool.not_true, Bool.not_false, r3, r18, r19, r20, t1, t2]
        have hv := sattr_ok l[i].attr (upd h' id (some (.obj [.v (.int .i64 l[i].op), .v (.int .i64 l[i].val.kind), .v (.int .i64 l[i].val.n), .s l[i].val.s, .v (.int .i64 l[i].attr.cat), .s l[i].attr.name, .v (.bool l[i].attr.must)] 33)))
        simp only [attrA, attrS, h1, if_true] at hv
        refine hv.pthen ?_
        simp -implicitDefEqProofs only [go_sem, ↓reduceIte, Nat.reduceLT, Nat.reduceEqDiff, Nat.reduceAdd, Nat.reduceLeDiff, Nat.reduceMul, Nat.reduceSub, Int.natCast_zero, Int.ofNat_zero, Int.natCast_one, Int.cast_ofNat_Int, bne_self_eq_false, beq_self_eq_true, Int.reduceBEq, Int.reduceBNe, Bool.not_true, Bool.not_false, r3, r18, r19, r20, t1, t2]
        refine hyb.app (zs := [.s (attrT l[i].attr)]) (s_cells _) (s_cells [attrT l[i].attr]) u9 (by rw [u9b]; decide) u9f u9n (fun k hk => hk) (by rw [u9b]; simp; omega) fun z' h2 hz' => ?_
        simp -implicitDefEqProofs only [go_sem, ↓reduceIte, Nat.reduceLT, Nat.reduceEqDiff, Nat.reduceAdd, Nat.reduceLeDiff, Nat.reduceMul, Nat.reduceSub, Int.natCast_zero, Int.ofNat_zero, Int.natCast_one, Int.cast_ofNat_Int, bne_self_eq_false, beq_self_eq_true, Int.reduceBEq, Int.reduceBNe, Bool.not_true, Bool.not_false, r3, r18, r19, r20, t1, t2, w1]
        refine ⟨_, ?_, i + 1, z', ?_, by omega, rfl, ?_, ?_, ?_, ?_⟩
        · omega
        · rw [(hnext _).2 rfl, Bf.stepT, if_neg (by omega), if_pos k2, List.map_append]
          exact hz'
        all_goals simp -implicitDefEqProofs only [go_sem, ↓reduceIte, Nat.reduceLT, Nat.reduceEqDiff, Nat.reduceAdd, Nat.reduceLeDiff, Nat.reduceMul, Nat.reduceSub, Int.natCast_zero, Int.ofNat_zero, Int.natCast_one, Int.cast_ofNat_Int, bne_self_eq_false, beq_self_eq_true, Int.reduceBEq, Int.reduceBNe, Bool.not_true, Bool.not_false, r3, r18, r19, r20, w1]
      · have t1 : (l[i].op == 1) = false := by simp; omega
        have t2 : (l[i].op == 2) = false := by simp; omega
        have hle : arity l[i].op ≤ st.length := by rw [g1]; exact h1
        have w2 : IntKind.i64.wrap ((st.length : Int) - ((arity l[i].op : Nat) : Int)) = ((st.length - arity l[i].op : Nat) : Int) := by rw [wr64 _ (by omega)]; omega
        have hft := fn_tot st (st.length - arity l[i].op) (fnW l[i].op) (fnW_le _)
        have hdl : (Lib.join (st.drop (st.length - arity l[i].op)) [32]).length ≤ 20000 := by
          rw [tot_append, tot_one] at hft
          simp only [List.length_append, List.length_cons, List.length_nil] at hft
          omega
        have hfl := fnW_le l[i].op
        simp -implicitDefEqProofs only [go_sem, ↓reduceIte, Nat.reduceLT, Nat.reduceEqDiff, Nat.reduceAdd, Nat.reduceLeDiff, Nat.reduceMul, Nat.reduceSub, Int.natCast_zero, Int.ofNat_zero, Int.natCast_one, Int.cast_ofNat_Int, bne_self_eq_false, beq_self_eq_true, Int.reduceBEq, Int.reduceBNe, Bool.not_true, Bool.not_false, r3, r18, r19, r20, t1, t2]
        refine (function_ok l[i].op k3 k13 _).pthen ?_
        simp -implicitDefEqProofs only [go_sem, ↓reduceIte, Nat.reduceLT, Nat.reduceEqDiff, Nat.reduceAdd, Nat.reduceLeDiff, Nat.reduceMul, Nat.reduceSub, Int.natCast_zero, Int.ofNat_zero, Int.natCast_one, Int.cast_ofNat_Int, bne_self_eq_false, beq_self_eq_true, Int.reduceBEq, Int.reduceBNe, Bool.not_true, Bool.not_false, r3, r18, r19, r20, t1, t2, hyb.len, List.length_map, w2]
        refine ⟨by omega, by omega, ?_⟩
        refine hyb.from (x := .i64) (s_cells _) (st.length - arity l[i].op) (by simp -implicitDefEqProofs only [go_sem, ↓reduceIte, Nat.reduceLT, Nat.reduceEqDiff, Nat.reduceAdd, Nat.reduceLeDiff, Nat.reduceMul, Nat.reduceSub, Int.natCast_zero, Int.ofNat_zero, Int.natCast_one, Int.cast_ofNat_Int, bne_self_eq_false, beq_self_eq_true, Int.reduceBEq, Int.reduceBNe, Bool.not_true, Bool.not_false]) rfl (by simp) u9 fun z hz => ?_
        rw [← List.map_drop] at hz
        simp -implicitDefEqProofs only [go_sem, ↓reduceIte, Nat.reduceLT, Nat.reduceEqDiff, Nat.reduceAdd, Nat.reduceLeDiff, Nat.reduceMul, Nat.reduceSub, Int.natCast_zero, Int.ofNat_zero, Int.natCast_one, Int.cast_ofNat_Int, bne_self_eq_false, beq_self_eq_true, Int.reduceBEq, Int.reduceBNe, Bool.not_true, Bool.not_false, r3, r18, r19, r20, t1, t2]
        refine (join_ok z (st.drop (st.length - arity l[i].op)) [32] _ hz (by omega) (by simp; omega)).pthen ?_
        simp -implicitDefEqProofs only [go_sem, ↓reduceIte, Nat.reduceLT, Nat.reduceEqDiff, Nat.reduceAdd, Nat.reduceLeDiff, Nat.reduceMul, Nat.reduceSub, Int.natCast_zero, Int.ofNat_zero, Int.natCast_one, Int.cast_ofNat_Int, bne_self_eq_false, beq_self_eq_true, Int.reduceBEq, Int.reduceBNe, Bool.not_true, Bool.not_false, r3, r18, r19, r20, t1, t2]
        refine ⟨by simp only [List.length_append, List.length_cons, List.length_nil]; omega, by simp only [List.length_append, List.length_cons, List.length_nil]; omega, ?_⟩
        refine hyb.cut (x := .i64) (st.length - arity l[i].op) (by simp -implicitDefEqProofs only [go_sem, ↓reduceIte, Nat.reduceLT, Nat.reduceEqDiff, Nat.reduceAdd, Nat.reduceLeDiff, Nat.reduceMul, Nat.reduceSub, Int.natCast_zero, Int.ofNat_zero, Int.natCast_one, Int.cast_ofNat_Int, bne_self_eq_false, beq_self_eq_true, Int.reduceBEq, Int.reduceBNe, Bool.not_true, Bool.not_false]) rfl (by simp) u9 fun z2 hz2 => ?_
        rw [← List.map_take] at hz2
        simp -implicitDefEqProofs only [go_sem, ↓reduceIte, Nat.reduceLT, Nat.reduceEqDiff, Nat.reduceAdd, Nat.reduceLeDiff, Nat.reduceMul, Nat.reduceSub, Int.natCast_zero, Int.ofNat_zero, Int.natCast_one, Int.cast_ofNat_Int, bne_self_eq_false, beq_self_eq_true, Int.reduceBEq, Int.reduceBNe, Bool.not_true, Bool.not_false, r3, r18, r19, r20, t1, t2]
        refine hz2.app (zs := [.s (40 :: (fnW l[i].op ++ [32] ++ Lib.join (st.drop (st.length - arity l[i].op)) [32] ++ [41]))]) (s_cells _) (s_cells [40 :: (fnW l[i].op ++ [32] ++ Lib.join (st.drop (st.length - arity l[i].op)) [32] ++ [41])]) u9 (by rw [u9b]; decide) u9f u9n (fun k hk => hk) (by rw [u9b]; simp; omega) fun z' h2 hz' => ?_
        simp -implicitDefEqProofs only [go_sem, ↓reduceIte, Nat.reduceLT, Nat.reduceEqDiff, Nat.reduceAdd, Nat.reduceLeDiff, Nat.reduceMul, Nat.reduceSub, Int.natCast_zero, Int.ofNat_zero, Int.natCast_one, Int.cast_ofNat_Int, bne_self_eq_false, beq_self_eq_true, Int.reduceBEq, Int.reduceBNe, Bool.not_true, Bool.not_false, r3, r18, r19, r20, t1, t2, w1]
        refine ⟨_, ?_, i + 1, z', ?_, by omega, rfl, ?_, ?_, ?_, ?_⟩
        · omega
        · rw [(hnext _).2 rfl, Bf.stepT, if_neg (by omega), if_neg (by omega), List.map_append]
          exact hz'
        all_goals simp -implicitDefEqProofs only [go_sem, ↓reduceIte, Nat.reduceLT, Nat.reduceEqDiff, Nat.reduceAdd, Nat.reduceLeDiff, Nat.reduceMul, Nat.reduceSub, Int.natCast_zero, Int.ofNat_zero, Int.natCast_one, Int.cast_ofNat_Int, bne_self_eq_false, beq_self_eq_true, Int.reduceBEq, Int.reduceBNe, Bool.not_true, Bool.not_false, r3, r18, r19, r20, w1]
    · have hge : i = l.length := by have := of_decide_eq_false e; omega
      subst hge
      rw [List.take_length] at hy
      have hone := (stepsT_tot l [] [false] [] hfin hi rfl).1
      obtain ⟨s, es⟩ := List.length_eq_one_iff.1 hone
      rw [es] at hy
      simp -implicitDefEqProofs only [go_sem, ↓reduceIte, Nat.reduceLT, Nat.reduceEqDiff, Nat.reduceAdd, Nat.reduceLeDiff, Nat.reduceMul, Nat.reduceSub, Int.natCast_zero, Int.ofNat_zero, Int.natCast_one, Int.cast_ofNat_Int, bne_self_eq_false, beq_self_eq_true, Int.reduceBEq, Int.reduceBNe, Bool.not_true, Bool.not_false, r3, r18, r19, r20]
      refine hy.idx (s_cells [s]) 0 rfl (by simp) u9 u9a fun p hp => ?_
      simp -implicitDefEqProofs only [go_sem, ↓reduceIte, Nat.reduceLT, Nat.reduceEqDiff, Nat.reduceAdd, Nat.reduceLeDiff, Nat.reduceMul, Nat.reduceSub, Int.natCast_zero, Int.ofNat_zero, Int.natCast_one, Int.cast_ofNat_Int, bne_self_eq_false, beq_self_eq_true, Int.reduceBEq, Int.reduceBNe, Bool.not_true, Bool.not_false, r3, hp _, List.map_cons, List.map_nil, List.getElem_cons_zero]
      exact .mk _ (.refl _) hy.1 ⟨by simp [exprS, e0, e1, exprT, es, oneOr], rfl⟩
end Go.Proofs.YtdcchpbncckhlaaDoor

/- Policies: the walk's names, rules and heads. -/
set_option linter.unusedSimpArgs false
set_option linter.unusedVariables false
namespace Go.Proofs.YtdcchpbncckhlaaDoor
open Go Go.Ab Go.Bf

/-- All but these is as it was. -/
def Keeps (S : List Nat) (h h' : Heap) : Prop := ∀ j k, j ∉ S → h j = some k → h' j = some k
theorem Keeps.refl (S : List Nat) (h : Heap) : Keeps S h h := fun _ _ _ e => e
theorem Keeps.trans {S : List Nat} {a b c : Heap} (x : Keeps S a b) (y : Keeps S b c) : Keeps S a c := fun j k hj e => y j k hj (x j k hj e)
theorem Keeps.of {S : List Nat} {a b : Heap} (x : Ab.Sub a b) : Keeps S a b := fun j k _ e => x j k e
theorem Keeps.upd {S : List Nat} {a : Heap} {i : Nat} {b : Option Blk} (hi : i ∈ S) : Keeps S a (Ab.upd a i b) := fun j k hj e => by
  rw [upd_other _ _ (fun e => hj (by rw [e]; exact hi))]; exact e

/-- The walk's memory. -/
def WalkAt (h : Heap) (idw mid : Nat) (m : MetD) : Prop := h idw = some (.obj [.mp mid, .v (.int .i64 m.rules)] 87) ∧ h mid = some (.mp (setA m.met)) ∧ (∀ l ∈ m.met, l.length ≤ 16) ∧ m.rules ≤ 64
theorem WalkAt.ne {h : Heap} {idw mid : Nat} {m : MetD} (hw : WalkAt h idw mid m) : idw ≠ mid := fun e => by
  have h1 := hw.1; have h2 := hw.2.1
  rw [e, h2] at h1; cases h1
theorem WalkAt.keep {h h' : Heap} {idw mid : Nat} {m : MetD} (hw : WalkAt h idw mid m) (hs : Ab.Sub h h') : WalkAt h' idw mid m := ⟨hs _ _ hw.1, hs _ _ hw.2.1, hw.2.2⟩

theorem u158 : (U 158).sz = 0 := by simp only [go_sem]
theorem nameOK_len {s : Txt} (h : nameOK s = true) : s.length ≤ 16 := by
  simp [nameOK] at h; exact h.2
theorem meetD_none {m : MetD} {s : Txt} (h : s ∈ m.met ∨ nameOK s = false) : meetD m s = none := by
  unfold meetD
  rw [if_neg]
  rintro ⟨h1, h2⟩
  rcases h with h | h
  · exact h1 h
  · rw [h] at h2; cases h2

theorem wname_ok (idw mid : Nat) (m : MetD) (s : Txt) (h : Heap) (hw : WalkAt h idw mid m) : FnOK Tryd.prog 99 [.ptr idw 0, .s s] h fun r h' => match meetD m s with
    | none => r = .v (.bool false) ∧ Ab.Sub h h'
    | some m' => r = .v (.bool true) ∧ Keeps [idw, mid] h h' ∧ WalkAt h' idw mid m' := by
  refine FnOK.body hU hm Tryd.func99 rfl (by kernel_rfl) 28 rfl [.tmp 4] rfl (Nat.le_of_ble_eq_true rfl) (fun hwf => ?_)
  obtain ⟨w1, w2, w3, w4⟩ := hw
  have hlen : s.length ≤ maxLen := by
    have := hwf (.s s) (by simp)
    simp only [wfA, wf1, lim] at this
    unfold maxLen; omega
  have hkeys : KeysA .str (setA m.met) := keysA_set fun l hl => by have := w3 l hl; unfold maxLen; omega
  simp -implicitDefEqProofs only [go_sem, ↓reduceIte, Nat.reduceLT, Nat.reduceEqDiff, Nat.reduceAdd, Nat.reduceLeDiff, Nat.reduceMul, Nat.reduceSub, Int.natCast_zero, Int.ofNat_zero, Int.natCast_one, Int.cast_ofNat_Int, bne_self_eq_false, beq_self_eq_true, Int.reduceBEq, Int.reduceBNe, Bool.not_true, Bool.not_false, w1, w2, u158]
  refine ⟨hlen, .inr (by simp only [go_sem]), hkeys, ?_⟩
  rw [lookM_set _ _ u158]
  simp -implicitDefEqProofs only [go_sem, ↓reduceIte, Nat.reduceLT, Nat.reduceEqDiff, Nat.reduceAdd, Nat.reduceLeDiff, Nat.reduceMul, Nat.reduceSub, Int.natCast_zero, Int.ofNat_zero, Int.natCast_one, Int.cast_ofNat_Int, bne_self_eq_false, beq_self_eq_true, Int.reduceBEq, Int.reduceBNe, Bool.not_true, Bool.not_false, w1, w2]
  intro idv hidv
  simp -implicitDefEqProofs only [go_sem, ↓reduceIte, Nat.reduceLT, Nat.reduceEqDiff, Nat.reduceAdd, Nat.reduceLeDiff, Nat.reduceMul, Nat.reduceSub, Int.natCast_zero, Int.ofNat_zero, Int.natCast_one, Int.cast_ofNat_Int, bne_self_eq_false, beq_self_eq_true, Int.reduceBEq, Int.reduceBNe, Bool.not_true, Bool.not_false]
  cases d1 : decide (s ∈ m.met)
  case true =>
    have hm := meetD_none (.inl (of_decide_eq_true d1))
    simp -implicitDefEqProofs only [go_sem, ↓reduceIte, Nat.reduceLT, Nat.reduceEqDiff, Nat.reduceAdd, Nat.reduceLeDiff, Nat.reduceMul, Nat.reduceSub, Int.natCast_zero, Int.ofNat_zero, Int.natCast_one, Int.cast_ofNat_Int, bne_self_eq_false, beq_self_eq_true, Int.reduceBEq, Int.reduceBNe, Bool.not_true, Bool.not_false, d1]
    rw [hm]
    exact .mk _ (.refl _) (.upd_new hidv) ⟨rfl, .refl _⟩
  have e1 := of_decide_eq_false d1
  simp -implicitDefEqProofs only [go_sem, ↓reduceIte, Nat.reduceLT, Nat.reduceEqDiff, Nat.reduceAdd, Nat.reduceLeDiff, Nat.reduceMul, Nat.reduceSub, Int.natCast_zero, Int.ofNat_zero, Int.natCast_one, Int.cast_ofNat_Int, bne_self_eq_false, beq_self_eq_true, Int.reduceBEq, Int.reduceBNe, Bool.not_true, Bool.not_false, d1]
  refine (name_ok _ _).pthen ?_
  cases d2 : nameOK s
  · have hm := meetD_none (m := m) (.inr d2)
    simp -implicitDefEqProofs only [go_sem, ↓reduceIte, Nat.reduceLT, Nat.reduceEqDiff, Nat.reduceAdd, Nat.reduceLeDiff, Nat.reduceMul, Nat.reduceSub, Int.natCast_zero, Int.ofNat_zero, Int.natCast_one, Int.cast_ofNat_Int, bne_self_eq_false, beq_self_eq_true, Int.reduceBEq, Int.reduceBNe, Bool.not_true, Bool.not_false, d1, d2]
    rw [hm]
    exact .mk _ (.refl _) (.upd_new hidv) ⟨rfl, .refl _⟩
  have hm : meetD m s = some ⟨m.met ++ [s], m.rules⟩ := by simp [meetD, e1, d2]
  have hne := WalkAt.ne ⟨w1, w2, w3, w4⟩
  have n1 : idw ≠ idv := fun e => by rw [e, hidv] at w1; cases w1
  have n2 : mid ≠ idv := fun e => by rw [e, hidv] at w2; cases w2
  have w1' : upd h idv (some (.obj [] 158)) idw = some (.obj [.mp mid, .v (.int .i64 m.rules)] 87) := by rw [upd_other _ _ n1]; exact w1
  have w2' : upd h idv (some (.obj [] 158)) mid = some (.mp (setA m.met)) := by rw [upd_other _ _ n2]; exact w2
  simp -implicitDefEqProofs only [go_sem, ↓reduceIte, Nat.reduceLT, Nat.reduceEqDiff, Nat.reduceAdd, Nat.reduceLeDiff, Nat.reduceMul, Nat.reduceSub, Int.natCast_zero, Int.ofNat_zero, Int.natCast_one, Int.cast_ofNat_Int, bne_self_eq_false, beq_self_eq_true, Int.reduceBEq, Int.reduceBNe, Bool.not_true, Bool.not_false, d1, d2, w1', w2']
  refine ⟨hlen, hkeys, ?_⟩
  rw [setM_new e1]
  rw [hm]
  refine .same (.refl _) ⟨rfl, (Keeps.of (.upd_new hidv)).trans (.upd (by simp)), ?_, ?_, ?_, w4⟩
  · rw [upd_other _ _ hne]; exact w1'
  · rw [upd_same]
  · intro l hl
    rcases List.mem_append.1 hl with hl | hl
    · exact w3 l hl
    · rw [List.mem_singleton.1 hl]; exact nameOK_len d2

theorem wrule_ok (idw mid : Nat) (m : MetD) (r : RuleD) (h : Heap) (hw : WalkAt h idw mid m) : FnOK Tryd.prog 77 [.ptr idw 0, ruleA r] h fun x h' => x = .v (.int .i64 (ruleW m r).err) ∧ Keeps [idw, mid] h h' ∧ ∀ m', ruleW m r = .ok m' → WalkAt h' idw mid m' := by
  refine FnOK.body hU hm Tryd.func77 rfl (by kernel_rfl) 39 rfl [.tmp 4] rfl (Nat.le_of_ble_eq_true rfl) (fun hwf => ?_)
  simp -implicitDefEqProofs only [go_sem, ↓reduceIte, Nat.reduceLT, Nat.reduceEqDiff, Nat.reduceAdd, Nat.reduceLeDiff, Nat.reduceMul, Nat.reduceSub, Int.natCast_zero, Int.ofNat_zero, Int.natCast_one, Int.cast_ofNat_Int, bne_self_eq_false, beq_self_eq_true, Int.reduceBEq, Int.reduceBNe, Bool.not_true, Bool.not_false, ruleA, tgtA, condA, oblsA]
  intro id hid
  have n1 : idw ≠ id := fun e => by have := hw.1; rw [e, hid] at this; cases this
  have n2 : mid ≠ id := fun e => by have := hw.2.1; rw [e, hid] at this; cases this
  have hwb := hw.keep (Sub.upd_new (k := some (.obj [.s r.id, .v (.bool r.deny), .sl (r.tgt.map anyA) .no, .sl (r.cond.map nodeA) .no, .sl (r.obls.map oblA) .no] 37)) hid)
  have hk0 : Keeps [idw, mid] h (upd h id (some (.obj [.s r.id, .v (.bool r.deny), .sl (r.tgt.map anyA) .no, .sl (r.cond.map nodeA) .no, .sl (r.obls.map oblA) .no] 37))) := .of (.upd_new hid)
  simp -implicitDefEqProofs only [go_sem, ↓reduceIte, Nat.reduceLT, Nat.reduceEqDiff, Nat.reduceAdd, Nat.reduceLeDiff, Nat.reduceMul, Nat.reduceSub, Int.natCast_zero, Int.ofNat_zero, Int.natCast_one, Int.cast_ofNat_Int, bne_self_eq_false, beq_self_eq_true, Int.reduceBEq, Int.reduceBNe, Bool.not_true, Bool.not_false]
  obtain ⟨hb, ehb⟩ : ∃ hb, upd h id (some (.obj [.s r.id, .v (.bool r.deny), .sl (r.tgt.map anyA) .no, .sl (r.cond.map nodeA) .no, .sl (r.obls.map oblA) .no] 37)) = hb := ⟨_, rfl⟩
  have hbid : hb id = some (.obj [.s r.id, .v (.bool r.deny), .sl (r.tgt.map anyA) .no, .sl (r.cond.map nodeA) .no, .sl (r.obls.map oblA) .no] 37) := by rw [← ehb]; exact upd_same ..
  rw [ehb] at hwb hk0 ⊢
  refine (wname_ok idw mid m r.id hb hwb).mono fun x h2 hx => ?_
  cases hm : meetD m r.id with
  | none =>
    rw [hm] at hx
    obtain ⟨rfl, hs⟩ := hx
    have hr : ruleW m r = .bad 1 := by simp [ruleW, hm]
    simp -implicitDefEqProofs only [go_sem, ↓reduceIte, Nat.reduceLT, Nat.reduceEqDiff, Nat.reduceAdd, Nat.reduceLeDiff, Nat.reduceMul, Nat.reduceSub, Int.natCast_zero, Int.ofNat_zero, Int.natCast_one, Int.cast_ofNat_Int, bne_self_eq_false, beq_self_eq_true, Int.reduceBEq, Int.reduceBNe, Bool.not_true, Bool.not_false]
    exact .same (.refl _) ⟨by rw [hr]; rfl, hk0.trans (.of hs), fun m' h' => by rw [hr] at h'; cases h'⟩
  | some m1 =>
    rw [hm] at hx
    obtain ⟨rfl, hk, hw2⟩ := hx
    have g2 := hw2.1
    have hle := hw2.2.2.2
    have hid2 : h2 id = some (.obj [.s r.id, .v (.bool r.deny), .sl (r.tgt.map anyA) .no, .sl (r.cond.map nodeA) .no, .sl (r.obls.map oblA) .no] 37) := hk id _ (by simp [n1.symm, n2.symm]) hbid
    have w1 : IntKind.i64.wrap ((m1.rules : Int) + 1) = ((m1.rules + 1 : Nat) : Int) := by rw [wr64 _ (by omega)]; omega
    have hk3 : Keeps [idw, mid] h (upd h2 idw (some (.obj [.mp mid, .v (.int .i64 ((m1.rules + 1 : Nat) : Int))] 87))) := (hk0.trans hk).trans (.upd (by simp))
    have hid3 : upd h2 idw (some (.obj [.mp mid, .v (.int .i64 ((m1.rules + 1 : Nat) : Int))] 87)) id = some (.obj [.s r.id, .v (.bool r.deny), .sl (r.tgt.map anyA) .no, .sl (r.cond.map nodeA) .no, .sl (r.obls.map oblA) .no] 37) := by
      rw [upd_other _ _ n1.symm]; exact hid2
    cases d1 : decide (64 < ((m1.rules + 1 : Nat) : Int))
    case true =>
      have e1 : m1.rules + 1 > 64 := by have := of_decide_eq_true d1; omega
      have hr : ruleW m r = .bad 6 := by simp [ruleW, hm, e1]
      simp -implicitDefEqProofs only [go_sem, ↓reduceIte, Nat.reduceLT, Nat.reduceEqDiff, Nat.reduceAdd, Nat.reduceLeDiff, Nat.reduceMul, Nat.reduceSub, Int.natCast_zero, Int.ofNat_zero, Int.natCast_one, Int.cast_ofNat_Int, bne_self_eq_false, beq_self_eq_true, Int.reduceBEq, Int.reduceBNe, Bool.not_true, Bool.not_false, g2, w1, d1]
      exact .same (.refl _) ⟨by rw [hr]; rfl, hk3, fun m' h' => by rw [hr] at h'; cases h'⟩
    have e1 : ¬ m1.rules + 1 > 64 := by have := of_decide_eq_false d1; omega
    have hr : ruleW m r = need (tgtE r.tgt) (need (exprE r.cond) (need (oblsE r.obls) (.ok ⟨m1.met, m1.rules + 1⟩))) := by simp [ruleW, hm, e1]
    simp -implicitDefEqProofs only [go_sem, ↓reduceIte, Nat.reduceLT, Nat.reduceEqDiff, Nat.reduceAdd, Nat.reduceLeDiff, Nat.reduceMul, Nat.reduceSub, Int.natCast_zero, Int.ofNat_zero, Int.natCast_one, Int.cast_ofNat_Int, bne_self_eq_false, beq_self_eq_true, Int.reduceBEq, Int.reduceBNe, Bool.not_true, Bool.not_false, g2, w1, d1, hid3]
    refine (target_ok r.tgt _).pthen ?_
    cases d2 : (tgtE r.tgt != 0)
    case true =>
      have e2 : tgtE r.tgt ≠ 0 := by simpa using d2
      have hr : ruleW m r = .bad (tgtE r.tgt) := by rw [hr]; simp [need, e2]
      simp -implicitDefEqProofs only [go_sem, ↓reduceIte, Nat.reduceLT, Nat.reduceEqDiff, Nat.reduceAdd, Nat.reduceLeDiff, Nat.reduceMul, Nat.reduceSub, Int.natCast_zero, Int.ofNat_zero, Int.natCast_one, Int.cast_ofNat_Int, bne_self_eq_false, beq_self_eq_true, Int.reduceBEq, Int.reduceBNe, Bool.not_true, Bool.not_false, d2]
      exact .same (.refl _) ⟨by rw [hr]; rfl, hk3, fun m' h' => by rw [hr] at h'; cases h'⟩
    have e2 : tgtE r.tgt = 0 := by simpa using d2
    rw [need, if_pos e2] at hr
    simp -implicitDefEqProofs only [go_sem, ↓reduceIte, Nat.reduceLT, Nat.reduceEqDiff, Nat.reduceAdd, Nat.reduceLeDiff, Nat.reduceMul, Nat.reduceSub, Int.natCast_zero, Int.ofNat_zero, Int.natCast_one, Int.cast_ofNat_Int, bne_self_eq_false, beq_self_eq_true, Int.reduceBEq, Int.reduceBNe, Bool.not_true, Bool.not_false, d2, hid3]
    refine (expr_ok r.cond _).pthen ?_
    cases d3 : (exprE r.cond != 0)
    case true =>
      have e3 : exprE r.cond ≠ 0 := by simpa using d3
      have hr : ruleW m r = .bad (exprE r.cond) := by rw [hr]; simp [need, e3]
      simp -implicitDefEqProofs only [go_sem, ↓reduceIte, Nat.reduceLT, Nat.reduceEqDiff, Nat.reduceAdd, Nat.reduceLeDiff, Nat.reduceMul, Nat.reduceSub, Int.natCast_zero, Int.ofNat_zero, Int.natCast_one, Int.cast_ofNat_Int, bne_self_eq_false, beq_self_eq_true, Int.reduceBEq, Int.reduceBNe, Bool.not_true, Bool.not_false, d3]
      exact .same (.refl _) ⟨by rw [hr]; rfl, hk3, fun m' h' => by rw [hr] at h'; cases h'⟩
    have e3 : exprE r.cond = 0 := by simpa using d3
    rw [need, if_pos e3] at hr
    simp -implicitDefEqProofs only [go_sem, ↓reduceIte, Nat.reduceLT, Nat.reduceEqDiff, Nat.reduceAdd, Nat.reduceLeDiff, Nat.reduceMul, Nat.reduceSub, Int.natCast_zero, Int.ofNat_zero, Int.natCast_one, Int.cast_ofNat_Int, bne_self_eq_false, beq_self_eq_true, Int.reduceBEq, Int.reduceBNe, Bool.not_true, Bool.not_false, d3, hid3]
    refine (obls_ok r.obls _).pthen ?_
    simp -implicitDefEqProofs only [go_sem, ↓reduceIte, Nat.reduceLT, Nat.reduceEqDiff, Nat.reduceAdd, Nat.reduceLeDiff, Nat.reduceMul, Nat.reduceSub, Int.natCast_zero, Int.ofNat_zero, Int.natCast_one, Int.cast_ofNat_Int, bne_self_eq_false, beq_self_eq_true, Int.reduceBEq, Int.reduceBNe, Bool.not_true, Bool.not_false]
    by_cases e4 : oblsE r.obls = 0
    · rw [need, if_pos e4] at hr
      refine .same (.refl _) ⟨by rw [hr, e4]; rfl, hk3, fun m' h' => ?_⟩
      rw [hr] at h'
      cases h'
      refine ⟨upd_same .., ?_, hw2.2.2.1, by show m1.rules + 1 ≤ 64; omega⟩
      rw [upd_other _ _ hw2.ne.symm]; exact hw2.2.1
    · rw [need, if_neg e4] at hr
      exact .same (.refl _) ⟨by rw [hr]; rfl, hk3, fun m' h' => by rw [hr] at h'; cases h'⟩
end Go.Proofs.YtdcchpbncckhlaaDoor

/- Policies: heads. -/
set_option linter.unusedSimpArgs false
set_option linter.unusedVariables false
namespace Go.Proofs.YtdcchpbncckhlaaDoor
open Go Go.Ab Go.Bf

theorem headW_none {m : MetD} {id : Txt} {set : Bool} {alg : Int} {tgt : TgtD} {nr nk : Nat} {obls : List OblD} (h : meetD m id = none) : headW m id set alg tgt nr nk obls = .bad 1 := by
  simp [headW, h]

theorem whead_ok (idw mid : Nat) (m : MetD) (id : Txt) (set : Bool) (alg : Int) (tgt : TgtD) (rules : List RuleD) (kids : List PolD) (obls : List OblD) (h : Heap) (hw : WalkAt h idw mid m) :
    FnOK Tryd.prog 76 [.ptr idw 0, polA (.mk id set alg tgt rules kids obls)] h fun x h' => x = .v (.int .i64 (headW m id set alg tgt rules.length kids.length obls).err) ∧ Keeps [idw, mid] h h' ∧ ∀ m', headW m id set alg tgt rules.length kids.length obls = .ok m' → WalkAt h' idw mid m' := by
  refine FnOK.body hU hm Tryd.func76 rfl (by kernel_rfl) 68 rfl [.tmp 4] rfl (Nat.le_of_ble_eq_true rfl) (fun hwf => ?_)
  simp -implicitDefEqProofs only [go_sem, ↓reduceIte, Nat.reduceLT, Nat.reduceEqDiff, Nat.reduceAdd, Nat.reduceLeDiff, Nat.reduceMul, Nat.reduceSub, Int.natCast_zero, Int.ofNat_zero, Int.natCast_one, Int.cast_ofNat_Int, bne_self_eq_false, beq_self_eq_true, Int.reduceBEq, Int.reduceBNe, Bool.not_true, Bool.not_false, polA, tgtA, oblsA]
  intro ip hip
  have n1 : idw ≠ ip := fun e => by have := hw.1; rw [e, hip] at this; cases this
  have n2 : mid ≠ ip := fun e => by have := hw.2.1; rw [e, hip] at this; cases this
  have hwb := hw.keep (Sub.upd_new (k := some (.obj [.s id, .v (.bool set), .v (.int .i64 alg), .sl (tgt.map anyA) .no, .sl (rules.map ruleA) .no, .sl (kidsA kids) .no, .sl (obls.map oblA) .no] 43)) hip)
  have hk0 : Keeps [idw, mid] h (upd h ip (some (.obj [.s id, .v (.bool set), .v (.int .i64 alg), .sl (tgt.map anyA) .no, .sl (rules.map ruleA) .no, .sl (kidsA kids) .no, .sl (obls.map oblA) .no] 43))) := .of (.upd_new hip)
  simp -implicitDefEqProofs only [go_sem, ↓reduceIte, Nat.reduceLT, Nat.reduceEqDiff, Nat.reduceAdd, Nat.reduceLeDiff, Nat.reduceMul, Nat.reduceSub, Int.natCast_zero, Int.ofNat_zero, Int.natCast_one, Int.cast_ofNat_Int, bne_self_eq_false, beq_self_eq_true, Int.reduceBEq, Int.reduceBNe, Bool.not_true, Bool.not_false]
  obtain ⟨hb, ehb⟩ : ∃ hb, upd h ip (some (.obj [.s id, .v (.bool set), .v (.int .i64 alg), .sl (tgt.map anyA) .no, .sl (rules.map ruleA) .no, .sl (kidsA kids) .no, .sl (obls.map oblA) .no] 43)) = hb := ⟨_, rfl⟩
  have hbip : hb ip = some (.obj [.s id, .v (.bool set), .v (.int .i64 alg), .sl (tgt.map anyA) .no, .sl (rules.map ruleA) .no, .sl (kidsA kids) .no, .sl (obls.map oblA) .no] 43) := by rw [← ehb]; exact upd_same ..
  rw [ehb] at hwb hk0 ⊢
  refine (wname_ok idw mid m id hb hwb).mono fun x h2 hx => ?_
  cases hm : meetD m id with
  | none =>
    rw [hm] at hx
    obtain ⟨rfl, hs⟩ := hx
    simp -implicitDefEqProofs only [go_sem, ↓reduceIte, Nat.reduceLT, Nat.reduceEqDiff, Nat.reduceAdd, Nat.reduceLeDiff, Nat.reduceMul, Nat.reduceSub, Int.natCast_zero, Int.ofNat_zero, Int.natCast_one, Int.cast_ofNat_Int, bne_self_eq_false, beq_self_eq_true, Int.reduceBEq, Int.reduceBNe, Bool.not_true, Bool.not_false]
    exact .same (.refl _) ⟨by rw [headW_none hm]; rfl, hk0.trans (.of hs), fun m' h' => by rw [headW_none hm] at h'; cases h'⟩
  | some m1 =>
    rw [hm] at hx
    obtain ⟨rfl, hk, hw2⟩ := hx
    have hip2 : h2 ip = some (.obj [.s id, .v (.bool set), .v (.int .i64 alg), .sl (tgt.map anyA) .no, .sl (rules.map ruleA) .no, .sl (kidsA kids) .no, .sl (obls.map oblA) .no] 43) := hk ip _ (by simp [n1.symm, n2.symm]) hbip
    have hkk := hk0.trans hk
    have bad : ∀ e, headW m id set alg tgt rules.length kids.length obls = .bad e → (.v (.int .i64 e) : AV) = .v (.int .i64 (headW m id set alg tgt rules.length kids.length obls).err) ∧ Keeps [idw, mid] h h2 ∧ ∀ m', headW m id set alg tgt rules.length kids.length obls = .ok m' → WalkAt h2 idw mid m' :=
      fun e he => ⟨by rw [he]; rfl, hkk, fun m' h' => by rw [he] at h'; cases h'⟩
    cases d1 : decide (alg < 1)
    case true =>
      have e1 := of_decide_eq_true d1
      simp -implicitDefEqProofs only [go_sem, ↓reduceIte, Nat.reduceLT, Nat.reduceEqDiff, Nat.reduceAdd, Nat.reduceLeDiff, Nat.reduceMul, Nat.reduceSub, Int.natCast_zero, Int.ofNat_zero, Int.natCast_one, Int.cast_ofNat_Int, bne_self_eq_false, beq_self_eq_true, Int.reduceBEq, Int.reduceBNe, Bool.not_true, Bool.not_false, d1, hip2]
      exact .same (.refl _) (bad 1 (by simp [headW, hm, e1]))
    cases d2 : decide (6 < alg)
    case true =>
      have e2 := of_decide_eq_true d2
      simp -implicitDefEqProofs only [go_sem, ↓reduceIte, Nat.reduceLT, Nat.reduceEqDiff, Nat.reduceAdd, Nat.reduceLeDiff, Nat.reduceMul, Nat.reduceSub, Int.natCast_zero, Int.ofNat_zero, Int.natCast_one, Int.cast_ofNat_Int, bne_self_eq_false, beq_self_eq_true, Int.reduceBEq, Int.reduceBNe, Bool.not_true, Bool.not_false, d1, d2, hip2]
      exact .same (.refl _) (bad 1 (by simp [headW, hm, e2]))
    have e1 : ¬ (alg < 1 ∨ alg > 6) := by have := of_decide_eq_false d1; have := of_decide_eq_false d2; omega
    have tail : ∀ (z : Unit), ¬ (set = true ∧ rules.length > 0 ∨ set = false ∧ (kids.length > 0 ∨ alg = 4)) → headW m id set alg tgt rules.length kids.length obls = need (tgtE tgt) (need (oblsE obls) (if rules.length > 16 ∨ kids.length > 16 then .bad 6 else .ok m1)) := fun _ hh => by
      simp only [headW, hm]
      rw [if_neg e1, if_neg hh]
    cases set
    · cases d4 : decide (0 < (kids.length : Int))
      case true =>
        have f4 : 0 < kids.length := by have := of_decide_eq_true d4; omega
        simp -implicitDefEqProofs only [go_sem, ↓reduceIte, Nat.reduceLT, Nat.reduceEqDiff, Nat.reduceAdd, Nat.reduceLeDiff, Nat.reduceMul, Nat.reduceSub, Int.natCast_zero, Int.ofNat_zero, Int.natCast_one, Int.cast_ofNat_Int, bne_self_eq_false, beq_self_eq_true, Int.reduceBEq, Int.reduceBNe, Bool.not_true, Bool.not_false, d1, d2, hip2, kidsA_eq, List.length_map, d4]
        exact .same (.refl _) (bad 1 (by simp [headW, hm, e1, f4]))
      have g4 : ¬ 0 < kids.length := by have := of_decide_eq_false d4; omega
      cases d5 : (alg == 4)
      case true =>
        have f5 : alg = 4 := by simpa using d5
        simp -implicitDefEqProofs only [go_sem, ↓reduceIte, Nat.reduceLT, Nat.reduceEqDiff, Nat.reduceAdd, Nat.reduceLeDiff, Nat.reduceMul, Nat.reduceSub, Int.natCast_zero, Int.ofNat_zero, Int.natCast_one, Int.cast_ofNat_Int, bne_self_eq_false, beq_self_eq_true, Int.reduceBEq, Int.reduceBNe, Bool.not_true, Bool.not_false, d1, d2, hip2, kidsA_eq, List.length_map, d4, d5]
        exact .same (.refl _) (bad 1 (by simp [headW, hm, f5]))
      have g5 : alg ≠ 4 := by simpa using d5
      simp -implicitDefEqProofs only [go_sem, ↓reduceIte, Nat.reduceLT, Nat.reduceEqDiff, Nat.reduceAdd, Nat.reduceLeDiff, Nat.reduceMul, Nat.reduceSub, Int.natCast_zero, Int.ofNat_zero, Int.natCast_one, Int.cast_ofNat_Int, bne_self_eq_false, beq_self_eq_true, Int.reduceBEq, Int.reduceBNe, Bool.not_true, Bool.not_false, d1, d2, hip2, kidsA_eq, List.length_map, d4, d5]
      have e3 := tail () (by simp [g4, g5])
      refine (target_ok tgt _).pthen ?_
      cases t1 : (tgtE tgt != 0)
      case true =>
        have f1 : tgtE tgt ≠ 0 := by simpa using t1
        simp -implicitDefEqProofs only [go_sem, ↓reduceIte, Nat.reduceLT, Nat.reduceEqDiff, Nat.reduceAdd, Nat.reduceLeDiff, Nat.reduceMul, Nat.reduceSub, Int.natCast_zero, Int.ofNat_zero, Int.natCast_one, Int.cast_ofNat_Int, bne_self_eq_false, beq_self_eq_true, Int.reduceBEq, Int.reduceBNe, Bool.not_true, Bool.not_false, t1]
        exact .same (.refl _) (bad _ (by rw [e3]; simp [need, f1]))
      have f1 : tgtE tgt = 0 := by simpa using t1
      simp -implicitDefEqProofs only [go_sem, ↓reduceIte, Nat.reduceLT, Nat.reduceEqDiff, Nat.reduceAdd, Nat.reduceLeDiff, Nat.reduceMul, Nat.reduceSub, Int.natCast_zero, Int.ofNat_zero, Int.natCast_one, Int.cast_ofNat_Int, bne_self_eq_false, beq_self_eq_true, Int.reduceBEq, Int.reduceBNe, Bool.not_true, Bool.not_false, t1, hip2]
      refine (obls_ok obls _).pthen ?_
      cases t2 : (oblsE obls != 0)
      case true =>
        have f2 : oblsE obls ≠ 0 := by simpa using t2
        simp -implicitDefEqProofs only [go_sem, ↓reduceIte, Nat.reduceLT, Nat.reduceEqDiff, Nat.reduceAdd, Nat.reduceLeDiff, Nat.reduceMul, Nat.reduceSub, Int.natCast_zero, Int.ofNat_zero, Int.natCast_one, Int.cast_ofNat_Int, bne_self_eq_false, beq_self_eq_true, Int.reduceBEq, Int.reduceBNe, Bool.not_true, Bool.not_false, t2]
        exact .same (.refl _) (bad _ (by rw [e3]; simp [need, f1, f2]))
      have f2 : oblsE obls = 0 := by simpa using t2
      cases t3 : decide (16 < (rules.length : Int))
      case true =>
        have f3 : 16 < rules.length := by have := of_decide_eq_true t3; omega
        simp -implicitDefEqProofs only [go_sem, ↓reduceIte, Nat.reduceLT, Nat.reduceEqDiff, Nat.reduceAdd, Nat.reduceLeDiff, Nat.reduceMul, Nat.reduceSub, Int.natCast_zero, Int.ofNat_zero, Int.natCast_one, Int.cast_ofNat_Int, bne_self_eq_false, beq_self_eq_true, Int.reduceBEq, Int.reduceBNe, Bool.not_true, Bool.not_false, t2, hip2, List.length_map, t3]
        exact .same (.refl _) (bad _ (by rw [e3]; simp [need, f1, f2, f3]))
      have f3 : ¬ 16 < rules.length := by have := of_decide_eq_false t3; omega
      cases t4 : decide (16 < (kids.length : Int))
      case true =>
        have f4 : 16 < kids.length := by have := of_decide_eq_true t4; omega
        simp -implicitDefEqProofs only [go_sem, ↓reduceIte, Nat.reduceLT, Nat.reduceEqDiff, Nat.reduceAdd, Nat.reduceLeDiff, Nat.reduceMul, Nat.reduceSub, Int.natCast_zero, Int.ofNat_zero, Int.natCast_one, Int.cast_ofNat_Int, bne_self_eq_false, beq_self_eq_true, Int.reduceBEq, Int.reduceBNe, Bool.not_true, Bool.not_false, t2, hip2, List.length_map, t3, kidsA_eq, t4]
        exact .same (.refl _) (bad _ (by rw [e3]; simp [need, f1, f2, f4]))
      have f4 : ¬ 16 < kids.length := by have := of_decide_eq_false t4; omega
      simp -implicitDefEqProofs only [go_sem, ↓reduceIte, Nat.reduceLT, Nat.reduceEqDiff, Nat.reduceAdd, Nat.reduceLeDiff, Nat.reduceMul, Nat.reduceSub, Int.natCast_zero, Int.ofNat_zero, Int.natCast_one, Int.cast_ofNat_Int, bne_self_eq_false, beq_self_eq_true, Int.reduceBEq, Int.reduceBNe, Bool.not_true, Bool.not_false, t2, hip2, List.length_map, t3, kidsA_eq, t4]
      have e4 : headW m id false alg tgt rules.length kids.length obls = .ok m1 := by rw [e3]; simp [need, f1, f2, f3, f4]
      exact .same (.refl _) ⟨by rw [e4]; rfl, hkk, fun m' h' => by rw [e4] at h'; cases h'; exact hw2⟩
    · cases d3 : decide (0 < (rules.length : Int))
      case true =>
        have f3 : 0 < rules.length := by have := of_decide_eq_true d3; omega
        simp -implicitDefEqProofs only [go_sem, ↓reduceIte, Nat.reduceLT, Nat.reduceEqDiff, Nat.reduceAdd, Nat.reduceLeDiff, Nat.reduceMul, Nat.reduceSub, Int.natCast_zero, Int.ofNat_zero, Int.natCast_one, Int.cast_ofNat_Int, bne_self_eq_false, beq_self_eq_true, Int.reduceBEq, Int.reduceBNe, Bool.not_true, Bool.not_false, d1, d2, hip2, List.length_map, d3]
        exact .same (.refl _) (bad 1 (by simp [headW, hm, e1, f3]))
      have g3 : ¬ 0 < rules.length := by have := of_decide_eq_false d3; omega
      simp -implicitDefEqProofs only [go_sem, ↓reduceIte, Nat.reduceLT, Nat.reduceEqDiff, Nat.reduceAdd, Nat.reduceLeDiff, Nat.reduceMul, Nat.reduceSub, Int.natCast_zero, Int.ofNat_zero, Int.natCast_one, Int.cast_ofNat_Int, bne_self_eq_false, beq_self_eq_true, Int.reduceBEq, Int.reduceBNe, Bool.not_true, Bool.not_false, d1, d2, hip2, List.length_map, d3]
      have e3 := tail () (by simp [g3])
      refine (target_ok tgt _).pthen ?_
      cases t1 : (tgtE tgt != 0)
      case true =>
        have f1 : tgtE tgt ≠ 0 := by simpa using t1
        simp -implicitDefEqProofs only [go_sem, ↓reduceIte, Nat.reduceLT, Nat.reduceEqDiff, Nat.reduceAdd, Nat.reduceLeDiff, Nat.reduceMul, Nat.reduceSub, Int.natCast_zero, Int.ofNat_zero, Int.natCast_one, Int.cast_ofNat_Int, bne_self_eq_false, beq_self_eq_true, Int.reduceBEq, Int.reduceBNe, Bool.not_true, Bool.not_false, t1]
        exact .same (.refl _) (bad _ (by rw [e3]; simp [need, f1]))
      have f1 : tgtE tgt = 0 := by simpa using t1
      simp -implicitDefEqProofs only [go_sem, ↓reduceIte, Nat.reduceLT, Nat.reduceEqDiff, Nat.reduceAdd, Nat.reduceLeDiff, Nat.reduceMul, Nat.reduceSub, Int.natCast_zero, Int.ofNat_zero, Int.natCast_one, Int.cast_ofNat_Int, bne_self_eq_false, beq_self_eq_true, Int.reduceBEq, Int.reduceBNe, Bool.not_true, Bool.not_false, t1, hip2]
      refine (obls_ok obls _).pthen ?_
      cases t2 : (oblsE obls != 0)
      case true =>
        have f2 : oblsE obls ≠ 0 := by simpa using t2
        simp -implicitDefEqProofs only [go_sem, ↓reduceIte, Nat.reduceLT, Nat.reduceEqDiff, Nat.reduceAdd, Nat.reduceLeDiff, Nat.reduceMul, Nat.reduceSub, Int.natCast_zero, Int.ofNat_zero, Int.natCast_one, Int.cast_ofNat_Int, bne_self_eq_false, beq_self_eq_true, Int.reduceBEq, Int.reduceBNe, Bool.not_true, Bool.not_false, t2]
        exact .same (.refl _) (bad _ (by rw [e3]; simp [need, f1, f2]))
      have f2 : oblsE obls = 0 := by simpa using t2
      cases t3 : decide (16 < (rules.length : Int))
      case true =>
        have f3 : 16 < rules.length := by have := of_decide_eq_true t3; omega
        simp -implicitDefEqProofs only [go_sem, ↓reduceIte, Nat.reduceLT, Nat.reduceEqDiff, Nat.reduceAdd, Nat.reduceLeDiff, Nat.reduceMul, Nat.reduceSub, Int.natCast_zero, Int.ofNat_zero, Int.natCast_one, Int.cast_ofNat_Int, bne_self_eq_false, beq_self_eq_true, Int.reduceBEq, Int.reduceBNe, Bool.not_true, Bool.not_false, t2, hip2, List.length_map, t3]
        exact .same (.refl _) (bad _ (by rw [e3]; simp [need, f1, f2, f3]))
      have f3 : ¬ 16 < rules.length := by have := of_decide_eq_false t3; omega
      cases t4 : decide (16 < (kids.length : Int))
      case true =>
        have f4 : 16 < kids.length := by have := of_decide_eq_true t4; omega
        simp -implicitDefEqProofs only [go_sem, ↓reduceIte, Nat.reduceLT, Nat.reduceEqDiff, Nat.reduceAdd, Nat.reduceLeDiff, Nat.reduceMul, Nat.reduceSub, Int.natCast_zero, Int.ofNat_zero, Int.natCast_one, Int.cast_ofNat_Int, bne_self_eq_false, beq_self_eq_true, Int.reduceBEq, Int.reduceBNe, Bool.not_true, Bool.not_false, t2, hip2, List.length_map, t3, kidsA_eq, t4]
        exact .same (.refl _) (bad _ (by rw [e3]; simp [need, f1, f2, f4]))
      have f4 : ¬ 16 < kids.length := by have := of_decide_eq_false t4; omega
      simp -implicitDefEqProofs only [go_sem, ↓reduceIte, Nat.reduceLT, Nat.reduceEqDiff, Nat.reduceAdd, Nat.reduceLeDiff, Nat.reduceMul, Nat.reduceSub, Int.natCast_zero, Int.ofNat_zero, Int.natCast_one, Int.cast_ofNat_Int, bne_self_eq_false, beq_self_eq_true, Int.reduceBEq, Int.reduceBNe, Bool.not_true, Bool.not_false, t2, hip2, List.length_map, t3, kidsA_eq, t4]
      have e4 : headW m id true alg tgt rules.length kids.length obls = .ok m1 := by rw [e3]; simp [need, f1, f2, f3, f4]
      exact .same (.refl _) ⟨by rw [e4]; rfl, hkk, fun m' h' => by rw [e4] at h'; cases h'; exact hw2⟩
end Go.Proofs.YtdcchpbncckhlaaDoor

/- Policies: whole ones. -/
set_option linter.unusedSimpArgs false
set_option linter.unusedVariables false
namespace Go.Proofs.YtdcchpbncckhlaaDoor
open Go Go.Ab Go.Bf

theorem polA_len (k : PolD) : (polA k).cells.length = 7 := by
  cases k; simp [polA, AV.cells]
theorem polW_deep {m : MetD} {d : Nat} {p : PolD} (h : 4 < d) : polW m d p = .bad 6 := by
  cases p; simp [polW, h]
theorem polW_head {m : MetD} {d : Nat} {id : Txt} {set : Bool} {alg : Int} {tgt : TgtD} {rules : List RuleD} {kids : List PolD} {obls : List OblD} {e : Int} (h : ¬ 4 < d)
    (hh : headW m id set alg tgt rules.length kids.length obls = .bad e) : polW m d (.mk id set alg tgt rules kids obls) = .bad e := by
  simp [polW, h, hh]
theorem polW_rules {m m1 : MetD} {d : Nat} {id : Txt} {set : Bool} {alg : Int} {tgt : TgtD} {rules : List RuleD} {kids : List PolD} {obls : List OblD} {e : Int} (h : ¬ 4 < d)
    (hh : headW m id set alg tgt rules.length kids.length obls = .ok m1) (hr : rulesW m1 rules = .bad e) : polW m d (.mk id set alg tgt rules kids obls) = .bad e := by
  simp [polW, h, hh, hr]
theorem polW_kids {m m1 m2 : MetD} {d : Nat} {id : Txt} {set : Bool} {alg : Int} {tgt : TgtD} {rules : List RuleD} {kids : List PolD} {obls : List OblD} (h : ¬ 4 < d)
    (hh : headW m id set alg tgt rules.length kids.length obls = .ok m1) (hr : rulesW m1 rules = .ok m2) : polW m d (.mk id set alg tgt rules kids obls) = kidsW m2 (d + 1) kids := by
  simp [polW, h, hh, hr]
theorem polW_bad : ∀ (n d : Nat) (m : MetD) (p : PolD) (e : Int), d + n = 5 → polW m d p = .bad e → e ≠ 0
  | 0, d, m, p, e, hd, h => by rw [polW_deep (by omega)] at h; cases h; decide
  | n + 1, d, m, .mk id set alg tgt rules kids obls, e, hd, h => by
    by_cases h4 : 4 < d
    · rw [polW_deep h4] at h; cases h; decide
    cases hh : headW m id set alg tgt rules.length kids.length obls with
    | bad e' => rw [polW_head h4 hh] at h; cases h; exact headW_bad hh
    | ok m1 =>
      cases hr : rulesW m1 rules with
      | bad e' =>
        rw [polW_rules h4 hh hr] at h; cases h
        clear hh hd
        induction rules generalizing m1 with
        | nil => cases hr
        | cons r l ih =>
          simp only [rulesW] at hr
          cases hx : ruleW m1 r with
          | bad x => rw [hx] at hr; cases hr; exact ruleW_bad hx
          | ok m2 => rw [hx] at hr; exact ih m2 hr
      | ok m2 =>
        rw [polW_kids h4 hh hr] at h
        have ih := fun m p e => polW_bad n (d + 1) m p e (by omega)
        clear hh hr
        induction kids generalizing m2 with
        | nil => cases h
        | cons k l ihk =>
          simp only [kidsW] at h
          cases hx : polW m2 (d + 1) k with
          | bad x => rw [hx] at h; cases h; exact ih _ _ _ hx
          | ok m3 => rw [hx] at h; exact ihk m3 h

theorem need_ok {e : Int} {w : Went} {m : MetD} (h : need e w = .ok m) : e = 0 ∧ w = .ok m := by
  unfold need at h
  split at h
  · exact ⟨by assumption, h⟩
  · cases h
theorem headW_ok {m m1 : MetD} {id : Txt} {set : Bool} {alg : Int} {tgt : TgtD} {nr nk : Nat} {obls : List OblD} (h : headW m id set alg tgt nr nk obls = .ok m1) :
    meetD m id = some m1 ∧ 1 ≤ alg ∧ alg ≤ 6 ∧ (set = true → nr = 0) ∧ (set = false → nk = 0 ∧ alg ≠ 4) ∧ tgtE tgt = 0 ∧ oblsE obls = 0 ∧ nr ≤ 16 ∧ nk ≤ 16 := by
  unfold headW at h
  split at h
  · cases h
  rename_i m2 hm
  split at h
  · cases h
  split at h
  · cases h
  rename_i h1 h2
  obtain ⟨h3, h⟩ := need_ok h
  obtain ⟨h4, h⟩ := need_ok h
  split at h
  · cases h
  cases h
  have h5 : (set = true → nr = 0) ∧ (set = false → nk = 0 ∧ alg ≠ 4) := by
    cases set <;> simp at h2 ⊢ <;> omega
  exact ⟨hm, by omega, by omega, h5.1, h5.2, h3, h4, by omega, by omega⟩

theorem wpol_ok : ∀ (n d : Nat), d + n = 5 → ∀ (idw mid : Nat) (m : MetD) (p : PolD) (h : Heap), WalkAt h idw mid m →
    FnOK Tryd.prog 47 [.ptr idw 0, polA p, .v (.int .i64 d)] h fun x h' => x = .v (.int .i64 (polW m d p).err) ∧ Keeps [idw, mid] h h' ∧ ∀ m', polW m d p = .ok m' → WalkAt h' idw mid m'
  | n, d, hd, idw, mid, m, .mk id set alg tgt rules kids obls, h, hw => by
    refine FnOK.body hU hm Tryd.func47 rfl (by kernel_rfl) 52 rfl [.tmp 6] rfl (Nat.le_of_ble_eq_true rfl) (fun hwf => ?_)
    simp -implicitDefEqProofs only [go_sem, ↓reduceIte, Nat.reduceLT, Nat.reduceEqDiff, Nat.reduceAdd, Nat.reduceLeDiff, Nat.reduceMul, Nat.reduceSub, Int.natCast_zero, Int.ofNat_zero, Int.natCast_one, Int.cast_ofNat_Int, bne_self_eq_false, beq_self_eq_true, Int.reduceBEq, Int.reduceBNe, Bool.not_true, Bool.not_false, polA, tgtA, oblsA]
    intro ip hip
    have n1 : idw ≠ ip := fun e => by have := hw.1; rw [e, hip] at this; cases this
    have n2 : mid ≠ ip := fun e => by have := hw.2.1; rw [e, hip] at this; cases this
    have hwb := hw.keep (Sub.upd_new (k := some (.obj [.s id, .v (.bool set), .v (.int .i64 alg), .sl (tgt.map anyA) .no, .sl (rules.map ruleA) .no, .sl (kidsA kids) .no, .sl (obls.map oblA) .no] 43)) hip)
    have hk0 : Keeps [idw, mid] h (upd h ip (some (.obj [.s id, .v (.bool set), .v (.int .i64 alg), .sl (tgt.map anyA) .no, .sl (rules.map ruleA) .no, .sl (kidsA kids) .no, .sl (obls.map oblA) .no] 43))) := .of (.upd_new hip)
    obtain ⟨hb, ehb⟩ : ∃ hb, upd h ip (some (.obj [.s id, .v (.bool set), .v (.int .i64 alg), .sl (tgt.map anyA) .no, .sl (rules.map ruleA) .no, .sl (kidsA kids) .no, .sl (obls.map oblA) .no] 43)) = hb := ⟨_, rfl⟩
    have hbip : hb ip = some (.obj [.s id, .v (.bool set), .v (.int .i64 alg), .sl (tgt.map anyA) .no, .sl (rules.map ruleA) .no, .sl (kidsA kids) .no, .sl (obls.map oblA) .no] 43) := by rw [← ehb]; exact upd_same ..
    rw [ehb] at hwb hk0 ⊢
    cases d0 : decide (4 < (d : Int))
    case true =>
      have e0 : 4 < d := by have := of_decide_eq_true d0; omega
      simp -implicitDefEqProofs only [go_sem, ↓reduceIte, Nat.reduceLT, Nat.reduceEqDiff, Nat.reduceAdd, Nat.reduceLeDiff, Nat.reduceMul, Nat.reduceSub, Int.natCast_zero, Int.ofNat_zero, Int.natCast_one, Int.cast_ofNat_Int, bne_self_eq_false, beq_self_eq_true, Int.reduceBEq, Int.reduceBNe, Bool.not_true, Bool.not_false, d0]
      exact .same (.refl _) ⟨by rw [polW_deep e0]; rfl, hk0, fun m' h' => by rw [polW_deep e0] at h'; cases h'⟩
    have e0 : ¬ 4 < d := by have := of_decide_eq_false d0; omega
    simp -implicitDefEqProofs only [go_sem, ↓reduceIte, Nat.reduceLT, Nat.reduceEqDiff, Nat.reduceAdd, Nat.reduceLeDiff, Nat.reduceMul, Nat.reduceSub, Int.natCast_zero, Int.ofNat_zero, Int.natCast_one, Int.cast_ofNat_Int, bne_self_eq_false, beq_self_eq_true, Int.reduceBEq, Int.reduceBNe, Bool.not_true, Bool.not_false, d0, hbip]
    have hhead := whead_ok idw mid m id set alg tgt rules kids obls hb hwb
    simp only [polA, tgtA, oblsA] at hhead
    refine hhead.mono fun x h2 ⟨ex, hk, hw2⟩ => ?_
    subst ex
    have hk2 := hk0.trans hk
    cases hh : headW m id set alg tgt rules.length kids.length obls with
    | bad e =>
      have hne := headW_bad hh
      have t1 : (e != 0) = true := by simpa using hne
      simp -implicitDefEqProofs only [go_sem, ↓reduceIte, Nat.reduceLT, Nat.reduceEqDiff, Nat.reduceAdd, Nat.reduceLeDiff, Nat.reduceMul, Nat.reduceSub, Int.natCast_zero, Int.ofNat_zero, Int.natCast_one, Int.cast_ofNat_Int, bne_self_eq_false, beq_self_eq_true, Int.reduceBEq, Int.reduceBNe, Bool.not_true, Bool.not_false, Went.err, t1]
      exact .same (.refl _) ⟨by rw [polW_head e0 hh]; rfl, hk2, fun m' h' => by rw [polW_head e0 hh] at h'; cases h'⟩
    | ok m1 =>
      have hw2 := hw2 _ hh
      have hle := (headW_ok hh).2.2.2.2.2.2.2
      have hip2 := hk ip _ (by simp [n1.symm, n2.symm]) hbip
      simp -implicitDefEqProofs only [go_sem, ↓reduceIte, Nat.reduceLT, Nat.reduceEqDiff, Nat.reduceAdd, Nat.reduceLeDiff, Nat.reduceMul, Nat.reduceSub, Int.natCast_zero, Int.ofNat_zero, Int.natCast_one, Int.cast_ofNat_Int, bne_self_eq_false, beq_self_eq_true, Int.reduceBEq, Int.reduceBNe, Bool.not_true, Bool.not_false, Went.err, hip2, List.length_map]
      refine .intro (fun k ρ h' => ∃ (i : Nat) (mi : MetD), i ≤ rules.length ∧ k = rules.length - i ∧ rulesW m1 (rules.take i) = .ok mi ∧ Keeps [idw, mid] h h' ∧ WalkAt h' idw mid mi ∧
        h' ip = some (.obj [.s id, .v (.bool set), .v (.int .i64 alg), .sl (tgt.map anyA) .no, .sl (rules.map ruleA) .no, .sl (kidsA kids) .no, .sl (obls.map oblA) .no] 43) ∧
        lk ρ 0 = some (.ptr idw 0) ∧ lk ρ 2 = some (.v (.int .i64 d)) ∧ lk ρ 4 = some (.ptr ip 0) ∧ lk ρ 23 = some (.sl (rules.map ruleA) .no) ∧ lk ρ 24 = some (.v (.int .i64 rules.length)) ∧ lk ρ 25 = some (.v (.int .i64 i))) rules.length ?_ ?_
      · refine ⟨0, m1, by omega, rfl, rfl, hk2, hw2, hip2, ?_, ?_, ?_, ?_, ?_, ?_⟩ <;> simp -implicitDefEqProofs only [go_sem, ↓reduceIte, Nat.reduceLT, Nat.reduceEqDiff, Nat.reduceAdd, Nat.reduceLeDiff, Nat.reduceMul, Nat.reduceSub, Int.natCast_zero, Int.ofNat_zero, Int.natCast_one, Int.cast_ofNat_Int, bne_self_eq_false, beq_self_eq_true, Int.reduceBEq, Int.reduceBNe, Bool.not_true, Bool.not_false]
      · rintro k ρ h' ⟨i, mi, hi, rfl, hri, hki, hwi, hipi, r0, r2, r4, r23, r24, r25⟩
        simp -implicitDefEqProofs only [go_sem, ↓reduceIte, Nat.reduceLT, Nat.reduceEqDiff, Nat.reduceAdd, Nat.reduceLeDiff, Nat.reduceMul, Nat.reduceSub, Int.natCast_zero, Int.ofNat_zero, Int.natCast_one, Int.cast_ofNat_Int, bne_self_eq_false, beq_self_eq_true, Int.reduceBEq, Int.reduceBNe, Bool.not_true, Bool.not_false, r0, r2, r4, r23, r24, r25]
        refine .intro (fun e => ?_) (fun e => ?_)
        · have hlt : i < rules.length := Int.ofNat_lt.1 (of_decide_eq_true e)
          have w1 : IntKind.i64.wrap ((i : Int) + 1) = ((i + 1 : Nat) : Int) := by rw [wr64 _ (by omega)]; omega
          simp -implicitDefEqProofs only [go_sem, ↓reduceIte, Nat.reduceLT, Nat.reduceEqDiff, Nat.reduceAdd, Nat.reduceLeDiff, Nat.reduceMul, Nat.reduceSub, Int.natCast_zero, Int.ofNat_zero, Int.natCast_one, Int.cast_ofNat_Int, bne_self_eq_false, beq_self_eq_true, Int.reduceBEq, Int.reduceBNe, Bool.not_true, Bool.not_false, r0, r2, r4, r23, r24, r25]
          refine .at i (by simpa using hlt) (by rw [List.getElem_map]; rfl) ?_
          simp -implicitDefEqProofs only [go_sem, ↓reduceIte, Nat.reduceLT, Nat.reduceEqDiff, Nat.reduceAdd, Nat.reduceLeDiff, Nat.reduceMul, Nat.reduceSub, Int.natCast_zero, Int.ofNat_zero, Int.natCast_one, Int.cast_ofNat_Int, bne_self_eq_false, beq_self_eq_true, Int.reduceBEq, Int.reduceBNe, Bool.not_true, Bool.not_false, r0, r2, r4, r23, r24, r25, List.getElem_map, ruleA]
          intro ir hir
          have hrl := wrule_ok idw mid mi rules[i] _ (hwi.keep (Sub.upd_new (k := some (.obj [.s rules[i].id, .v (.bool rules[i].deny), tgtA rules[i].tgt, condA rules[i].cond, oblsA rules[i].obls] 37)) hir))
          simp only [ruleA] at hrl
          simp -implicitDefEqProofs only [go_sem, ↓reduceIte, Nat.reduceLT, Nat.reduceEqDiff, Nat.reduceAdd, Nat.reduceLeDiff, Nat.reduceMul, Nat.reduceSub, Int.natCast_zero, Int.ofNat_zero, Int.natCast_one, Int.cast_ofNat_Int, bne_self_eq_false, beq_self_eq_true, Int.reduceBEq, Int.reduceBNe, Bool.not_true, Bool.not_false, r0, r2, r4, r23, r24, r25]
          refine hrl.mono fun x h3 ⟨ex, hk3, hw3⟩ => ?_
          subst ex
          have hk4 := (hki.trans (.of (Sub.upd_new hir))).trans hk3
          have hip3 := hk3 ip _ (by simp [n1.symm, n2.symm]) ((Sub.upd_new hir) _ _ hipi)
          cases hx : ruleW mi rules[i] with
          | bad x =>
            have t1 : (x != 0) = true := by simpa using ruleW_bad hx
            simp -implicitDefEqProofs only [go_sem, ↓reduceIte, Nat.reduceLT, Nat.reduceEqDiff, Nat.reduceAdd, Nat.reduceLeDiff, Nat.reduceMul, Nat.reduceSub, Int.natCast_zero, Int.ofNat_zero, Int.natCast_one, Int.cast_ofNat_Int, bne_self_eq_false, beq_self_eq_true, Int.reduceBEq, Int.reduceBNe, Bool.not_true, Bool.not_false, r0, r2, r4, r23, r24, r25, Went.err, t1]
            have hp := polW_rules (d := d) (kids := kids) e0 hh (rulesW_stop hlt hri hx)
            exact .same (.refl _) ⟨by rw [hp]; rfl, hk4, fun m' h' => by rw [hp] at h'; cases h'⟩
          | ok m3 =>
            simp -implicitDefEqProofs only [go_sem, ↓reduceIte, Nat.reduceLT, Nat.reduceEqDiff, Nat.reduceAdd, Nat.reduceLeDiff, Nat.reduceMul, Nat.reduceSub, Int.natCast_zero, Int.ofNat_zero, Int.natCast_one, Int.cast_ofNat_Int, bne_self_eq_false, beq_self_eq_true, Int.reduceBEq, Int.reduceBNe, Bool.not_true, Bool.not_false, r0, r2, r4, r23, r24, r25, Went.err, w1]
            refine ⟨_, ?_, i + 1, m3, by omega, rfl, by rw [rulesW_next hlt hri, hx], hk4, hw3 _ hx, hip3, ?_, ?_, ?_, ?_, ?_, ?_⟩
            · omega
            all_goals simp -implicitDefEqProofs only [go_sem, ↓reduceIte, Nat.reduceLT, Nat.reduceEqDiff, Nat.reduceAdd, Nat.reduceLeDiff, Nat.reduceMul, Nat.reduceSub, Int.natCast_zero, Int.ofNat_zero, Int.natCast_one, Int.cast_ofNat_Int, bne_self_eq_false, beq_self_eq_true, Int.reduceBEq, Int.reduceBNe, Bool.not_true, Bool.not_false, r0, r2, r4, r23, r24, r25, w1]
        · have hge : i = rules.length := by have := of_decide_eq_false e; omega
          subst hge
          rw [List.take_length] at hri
          have hpk := polW_kids (d := d) (kids := kids) e0 hh hri
          simp -implicitDefEqProofs only [go_sem, ↓reduceIte, Nat.reduceLT, Nat.reduceEqDiff, Nat.reduceAdd, Nat.reduceLeDiff, Nat.reduceMul, Nat.reduceSub, Int.natCast_zero, Int.ofNat_zero, Int.natCast_one, Int.cast_ofNat_Int, bne_self_eq_false, beq_self_eq_true, Int.reduceBEq, Int.reduceBNe, Bool.not_true, Bool.not_false, r0, r2, r4, r23, r24, r25, hipi, kidsA_eq, List.length_map]
          refine .intro (fun k ρ h' => ∃ (i : Nat) (mj : MetD), i ≤ kids.length ∧ k = kids.length - i ∧ kidsW mi (d + 1) (kids.take i) = .ok mj ∧ Keeps [idw, mid] h h' ∧ WalkAt h' idw mid mj ∧
            lk ρ 0 = some (.ptr idw 0) ∧ lk ρ 2 = some (.v (.int .i64 d)) ∧ lk ρ 37 = some (.sl (kids.map polA) .no) ∧ lk ρ 38 = some (.v (.int .i64 kids.length)) ∧ lk ρ 39 = some (.v (.int .i64 i))) kids.length ?_ ?_
          · refine ⟨0, mi, by omega, rfl, rfl, hki, hwi, ?_, ?_, ?_, ?_, ?_⟩ <;> simp -implicitDefEqProofs only [go_sem, ↓reduceIte, Nat.reduceLT, Nat.reduceEqDiff, Nat.reduceAdd, Nat.reduceLeDiff, Nat.reduceMul, Nat.reduceSub, Int.natCast_zero, Int.ofNat_zero, Int.natCast_one, Int.cast_ofNat_Int, bne_self_eq_false, beq_self_eq_true, Int.reduceBEq, Int.reduceBNe, Bool.not_true, Bool.not_false, r0, r2, r4]
          · rintro k ρ h' ⟨i, mj, hi, rfl, hkj, hki, hwi, r0, r2, r37, r38, r39⟩
            simp -implicitDefEqProofs only [go_sem, ↓reduceIte, Nat.reduceLT, Nat.reduceEqDiff, Nat.reduceAdd, Nat.reduceLeDiff, Nat.reduceMul, Nat.reduceSub, Int.natCast_zero, Int.ofNat_zero, Int.natCast_one, Int.cast_ofNat_Int, bne_self_eq_false, beq_self_eq_true, Int.reduceBEq, Int.reduceBNe, Bool.not_true, Bool.not_false, r0, r2, r37, r38, r39]
            refine .intro (fun e => ?_) (fun e => ?_)
            · have hlt : i < kids.length := Int.ofNat_lt.1 (of_decide_eq_true e)
              have w1 : IntKind.i64.wrap ((i : Int) + 1) = ((i + 1 : Nat) : Int) := by rw [wr64 _ (by omega)]; omega
              have w2 : IntKind.i64.wrap ((d : Int) + 1) = ((d + 1 : Nat) : Int) := by rw [wr64 _ (by omega)]; omega
              obtain ⟨n', rfl⟩ : ∃ n', n = n' + 1 := ⟨n - 1, by omega⟩
              have hrec := wpol_ok n' (d + 1) (by omega) idw mid mj kids[i]
              cases hki' : kids[i] with
              | mk kid kset kalg ktgt krules kkids kobls =>
              rw [hki'] at hrec
              simp only [polA, tgtA, oblsA] at hrec
              simp -implicitDefEqProofs only [go_sem, ↓reduceIte, Nat.reduceLT, Nat.reduceEqDiff, Nat.reduceAdd, Nat.reduceLeDiff, Nat.reduceMul, Nat.reduceSub, Int.natCast_zero, Int.ofNat_zero, Int.natCast_one, Int.cast_ofNat_Int, bne_self_eq_false, beq_self_eq_true, Int.reduceBEq, Int.reduceBNe, Bool.not_true, Bool.not_false, r0, r2, r37, r38, r39]
              refine .at i (by simpa using hlt) (by rw [List.getElem_map]; exact polA_len _) ?_
              simp -implicitDefEqProofs only [go_sem, ↓reduceIte, Nat.reduceLT, Nat.reduceEqDiff, Nat.reduceAdd, Nat.reduceLeDiff, Nat.reduceMul, Nat.reduceSub, Int.natCast_zero, Int.ofNat_zero, Int.natCast_one, Int.cast_ofNat_Int, bne_self_eq_false, beq_self_eq_true, Int.reduceBEq, Int.reduceBNe, Bool.not_true, Bool.not_false, r0, r2, r37, r38, r39, List.getElem_map, hki', polA, tgtA, oblsA]
              intro ir hir
              simp -implicitDefEqProofs only [go_sem, ↓reduceIte, Nat.reduceLT, Nat.reduceEqDiff, Nat.reduceAdd, Nat.reduceLeDiff, Nat.reduceMul, Nat.reduceSub, Int.natCast_zero, Int.ofNat_zero, Int.natCast_one, Int.cast_ofNat_Int, bne_self_eq_false, beq_self_eq_true, Int.reduceBEq, Int.reduceBNe, Bool.not_true, Bool.not_false, r0, r2, r37, r38, r39, w2]
              refine (hrec _ (hwi.keep (Sub.upd_new hir))).mono fun x h3 ⟨ex, hk3, hw3⟩ => ?_
              subst ex
              have hk4 := (hki.trans (.of (Sub.upd_new hir))).trans hk3
              cases hx : polW mj (d + 1) (.mk kid kset kalg ktgt krules kkids kobls) with
              | bad x =>
                have t1 : (x != 0) = true := by simpa using polW_bad n' (d + 1) _ _ _ (by omega) hx
                simp -implicitDefEqProofs only [go_sem, ↓reduceIte, Nat.reduceLT, Nat.reduceEqDiff, Nat.reduceAdd, Nat.reduceLeDiff, Nat.reduceMul, Nat.reduceSub, Int.natCast_zero, Int.ofNat_zero, Int.natCast_one, Int.cast_ofNat_Int, bne_self_eq_false, beq_self_eq_true, Int.reduceBEq, Int.reduceBNe, Bool.not_true, Bool.not_false, r0, r2, r37, r38, r39, Went.err, t1]
                have hp := kidsW_stop hlt hkj (by rw [hki']; exact hx)
                exact .same (.refl _) ⟨by rw [hpk, hp]; rfl, hk4, fun m' h' => by rw [hpk, hp] at h'; cases h'⟩
              | ok m3 =>
                simp -implicitDefEqProofs only [go_sem, ↓reduceIte, Nat.reduceLT, Nat.reduceEqDiff, Nat.reduceAdd, Nat.reduceLeDiff, Nat.reduceMul, Nat.reduceSub, Int.natCast_zero, Int.ofNat_zero, Int.natCast_one, Int.cast_ofNat_Int, bne_self_eq_false, beq_self_eq_true, Int.reduceBEq, Int.reduceBNe, Bool.not_true, Bool.not_false, r0, r2, r37, r38, r39, Went.err, w1]
                refine ⟨_, ?_, i + 1, m3, by omega, rfl, by rw [kidsW_next hlt hkj, hki', hx], hk4, hw3 _ hx, ?_, ?_, ?_, ?_, ?_⟩
                · omega
                all_goals simp -implicitDefEqProofs only [go_sem, ↓reduceIte, Nat.reduceLT, Nat.reduceEqDiff, Nat.reduceAdd, Nat.reduceLeDiff, Nat.reduceMul, Nat.reduceSub, Int.natCast_zero, Int.ofNat_zero, Int.natCast_one, Int.cast_ofNat_Int, bne_self_eq_false, beq_self_eq_true, Int.reduceBEq, Int.reduceBNe, Bool.not_true, Bool.not_false, r0, r2, r37, r38, r39, w1]
            · have hge : i = kids.length := by have := of_decide_eq_false e; omega
              subst hge
              rw [List.take_length] at hkj
              simp -implicitDefEqProofs only [go_sem, ↓reduceIte, Nat.reduceLT, Nat.reduceEqDiff, Nat.reduceAdd, Nat.reduceLeDiff, Nat.reduceMul, Nat.reduceSub, Int.natCast_zero, Int.ofNat_zero, Int.natCast_one, Int.cast_ofNat_Int, bne_self_eq_false, beq_self_eq_true, Int.reduceBEq, Int.reduceBNe, Bool.not_true, Bool.not_false, r0, r2, r37, r38, r39]
              exact .same (.refl _) ⟨by rw [hpk, hkj]; rfl, hki, fun m' h' => by rw [hpk, hkj] at h'; cases h'; exact hwi⟩

theorem ne_new {h : Heap} {i j : Nat} {b : Blk} (e : upd h i (some b) j = none) : j ≠ i := fun hh => by
  subst hh; rw [upd_same] at e; cases e

theorem right_ok (p : PolD) (h : Heap) : FnOK Tryd.prog 24 [polA p] h fun r h' => r = .v (.int .i64 (rightE p)) ∧ h' = h := by
  cases p with
  | mk id set alg tgt rules kids obls =>
  refine FnOK.body hU hm Tryd.func24 rfl (by kernel_rfl) 10 rfl [.tmp 2] rfl (Nat.le_of_ble_eq_true rfl) (fun hwf => ?_)
  simp -implicitDefEqProofs only [go_sem, ↓reduceIte, Nat.reduceLT, Nat.reduceEqDiff, Nat.reduceAdd, Nat.reduceLeDiff, Nat.reduceMul, Nat.reduceSub, Int.natCast_zero, Int.ofNat_zero, Int.natCast_one, Int.cast_ofNat_Int, bne_self_eq_false, beq_self_eq_true, Int.reduceBEq, Int.reduceBNe, Bool.not_true, Bool.not_false, polA, tgtA, oblsA]
  intro ip hip
  simp -implicitDefEqProofs only [go_sem, ↓reduceIte, Nat.reduceLT, Nat.reduceEqDiff, Nat.reduceAdd, Nat.reduceLeDiff, Nat.reduceMul, Nat.reduceSub, Int.natCast_zero, Int.ofNat_zero, Int.natCast_one, Int.cast_ofNat_Int, bne_self_eq_false, beq_self_eq_true, Int.reduceBEq, Int.reduceBNe, Bool.not_true, Bool.not_false]
  intro im him
  simp -implicitDefEqProofs only [go_sem, ↓reduceIte, Nat.reduceLT, Nat.reduceEqDiff, Nat.reduceAdd, Nat.reduceLeDiff, Nat.reduceMul, Nat.reduceSub, Int.natCast_zero, Int.ofNat_zero, Int.natCast_one, Int.cast_ofNat_Int, bne_self_eq_false, beq_self_eq_true, Int.reduceBEq, Int.reduceBNe, Bool.not_true, Bool.not_false]
  intro iw hiw
  have n1 := ne_new him
  have n2 := ne_new hiw
  have hiw1 := hiw
  rw [upd_other _ _ n2] at hiw1
  have n3 := ne_new hiw1
  have s1 : Ab.Sub h (upd (upd (upd h ip (some (.obj [.s id, .v (.bool set), .v (.int .i64 alg), .sl (tgt.map anyA) .no, .sl (rules.map ruleA) .no, .sl (kidsA kids) .no, .sl (obls.map oblA) .no] 43))) im (some (.mp []))) iw (some (.obj [.mp im, .v (.int .i64 0)] 87))) :=
    ((Sub.upd_new hip).trans (.upd_new him)).trans (.upd_new hiw)
  obtain ⟨h3, e3⟩ : ∃ h3, upd (upd (upd h ip (some (.obj [.s id, .v (.bool set), .v (.int .i64 alg), .sl (tgt.map anyA) .no, .sl (rules.map ruleA) .no, .sl (kidsA kids) .no, .sl (obls.map oblA) .no] 43))) im (some (.mp []))) iw (some (.obj [.mp im, .v (.int .i64 0)] 87)) = h3 := ⟨_, rfl⟩
  have g1 : h3 ip = some (.obj [.s id, .v (.bool set), .v (.int .i64 alg), .sl (tgt.map anyA) .no, .sl (rules.map ruleA) .no, .sl (kidsA kids) .no, .sl (obls.map oblA) .no] 43) := by
    rw [← e3, upd_other _ _ n3.symm, upd_other _ _ n1.symm, upd_same]
  have g2 : WalkAt h3 iw im ⟨[], 0⟩ := by
    refine ⟨by rw [← e3, upd_same]; rfl, by rw [← e3, upd_other _ _ n2.symm, upd_same]; rfl, fun l hl => (by cases hl), by decide⟩
  have hi0 : h im = none := by rw [upd_other _ _ n1] at him; exact him
  have hw0 : h iw = none := by rw [upd_other _ _ n3] at hiw1; exact hiw1
  simp -implicitDefEqProofs only [go_sem, ↓reduceIte, Nat.reduceLT, Nat.reduceEqDiff, Nat.reduceAdd, Nat.reduceLeDiff, Nat.reduceMul, Nat.reduceSub, Int.natCast_zero, Int.ofNat_zero, Int.natCast_one, Int.cast_ofNat_Int, bne_self_eq_false, beq_self_eq_true, Int.reduceBEq, Int.reduceBNe, Bool.not_true, Bool.not_false]
  rw [e3] at s1 ⊢
  simp -implicitDefEqProofs only [go_sem, ↓reduceIte, Nat.reduceLT, Nat.reduceEqDiff, Nat.reduceAdd, Nat.reduceLeDiff, Nat.reduceMul, Nat.reduceSub, Int.natCast_zero, Int.ofNat_zero, Int.natCast_one, Int.cast_ofNat_Int, bne_self_eq_false, beq_self_eq_true, Int.reduceBEq, Int.reduceBNe, Bool.not_true, Bool.not_false, g1]
  have hp := wpol_ok 4 1 rfl iw im ⟨[], 0⟩ (.mk id set alg tgt rules kids obls) h3 g2
  simp only [polA, tgtA, oblsA, Int.ofNat_one, Int.cast_ofNat_Int] at hp
  refine hp.mono fun x h4 ⟨ex, hk, _⟩ => ?_
  subst ex
  simp -implicitDefEqProofs only [go_sem, ↓reduceIte, Nat.reduceLT, Nat.reduceEqDiff, Nat.reduceAdd, Nat.reduceLeDiff, Nat.reduceMul, Nat.reduceSub, Int.natCast_zero, Int.ofNat_zero, Int.natCast_one, Int.cast_ofNat_Int, bne_self_eq_false, beq_self_eq_true, Int.reduceBEq, Int.reduceBNe, Bool.not_true, Bool.not_false]
  refine .mk _ (.refl _) (fun j k hj => ?_) ⟨rfl, rfl⟩
  refine hk j k ?_ (s1 _ _ hj)
  simp only [List.mem_cons, List.not_mem_nil, or_false, not_or]
  exact ⟨fun e => (by rw [e, hw0] at hj; cases hj), fun e => (by rw [e, hi0] at hj; cases hj)⟩
end Go.Proofs.YtdcchpbncckhlaaDoor

/- Rules, policies as texts. -/
set_option linter.unusedSimpArgs false
set_option linter.unusedVariables false
namespace Go.Proofs.YtdcchpbncckhlaaDoor
open Go Go.Ab Go.Bf

theorem srule_ok (Q : Quoted) (r : RuleD) (he : ruleE r) (hi : inR r) (h : Heap) (ht : PowT h) : FnOK Tryd.prog 54 [ruleA r] h fun x h' => x = .s (ruleT r) ∧ h' = h := by
  refine FnOK.body hU hm Tryd.func54 rfl (by kernel_rfl) 30 rfl [.tmp 2] rfl (Nat.le_of_ble_eq_true rfl) (fun hwf => ?_)
  have hlim : lim = 9223372036854775808 := rfl
  have b1 := nameOK_le he.1
  have b2 := tgtT_le he.2.1 hi.1
  have b3 := exprT_le he.2.2.1 hi.2
  have b4 := oblsT_le he.2.2.2
  simp -implicitDefEqProofs only [go_sem, ↓reduceIte, Nat.reduceLT, Nat.reduceEqDiff, Nat.reduceAdd, Nat.reduceLeDiff, Nat.reduceMul, Nat.reduceSub, Int.natCast_zero, Int.ofNat_zero, Int.natCast_one, Int.cast_ofNat_Int, bne_self_eq_false, beq_self_eq_true, Int.reduceBEq, Int.reduceBNe, Bool.not_true, Bool.not_false, ruleA, tgtA, condA, oblsA]
  intro id hid
  have ht2 : PowT (upd h id (some (.obj [.s r.id, .v (.bool r.deny), .sl (r.tgt.map anyA) .no, .sl (r.cond.map nodeA) .no, .sl (r.obls.map oblA) .no] 37))) := ht.sub (.upd_new hid)
  have f1 := starget_ok Q r.tgt he.2.1 hi.1 _ ht2
  have f2 := sexpr_ok Q r.cond hi.2 _ ht2
  have f3 := sduties_ok r.obls he.2.2.2 (upd h id (some (.obj [.s r.id, .v (.bool r.deny), .sl (r.tgt.map anyA) .no, .sl (r.cond.map nodeA) .no, .sl (r.obls.map oblA) .no] 37)))
  simp only [tgtA] at f1
  simp only [condA] at f2
  simp only [oblsA] at f3
  cases d2 : decide (0 < (r.cond.length : Int))
  · have e2 : r.cond = [] := by have := of_decide_eq_false d2; exact List.length_eq_zero_iff.1 (by omega)
    cases d1 : r.deny
    all_goals
      rw [d1] at f1 f3
      simp -implicitDefEqProofs only [go_sem, ↓reduceIte, Nat.reduceLT, Nat.reduceEqDiff, Nat.reduceAdd, Nat.reduceLeDiff, Nat.reduceMul, Nat.reduceSub, Int.natCast_zero, Int.ofNat_zero, Int.natCast_one, Int.cast_ofNat_Int, bne_self_eq_false, beq_self_eq_true, Int.reduceBEq, Int.reduceBNe, Bool.not_true, Bool.not_false, d1]
      refine .quiet (by kernel_rfl) ?_
      simp -implicitDefEqProofs only [go_sem, ↓reduceIte, Nat.reduceLT, Nat.reduceEqDiff, Nat.reduceAdd, Nat.reduceLeDiff, Nat.reduceMul, Nat.reduceSub, Int.natCast_zero, Int.ofNat_zero, Int.natCast_one, Int.cast_ofNat_Int, bne_self_eq_false, beq_self_eq_true, Int.reduceBEq, Int.reduceBNe, Bool.not_true, Bool.not_false]
      refine ⟨_, f1, ?_⟩
      simp -implicitDefEqProofs only [go_sem, ↓reduceIte, Nat.reduceLT, Nat.reduceEqDiff, Nat.reduceAdd, Nat.reduceLeDiff, Nat.reduceMul, Nat.reduceSub, Int.natCast_zero, Int.ofNat_zero, Int.natCast_one, Int.cast_ofNat_Int, bne_self_eq_false, beq_self_eq_true, Int.reduceBEq, Int.reduceBNe, Bool.not_true, Bool.not_false, List.length_map, d2]
      refine ⟨by omega, by simp only [List.length_append, List.length_cons, List.length_nil]; omega, ?_⟩
      refine f3.pthen ?_
      simp -implicitDefEqProofs only [go_sem, ↓reduceIte, Nat.reduceLT, Nat.reduceEqDiff, Nat.reduceAdd, Nat.reduceLeDiff, Nat.reduceMul, Nat.reduceSub, Int.natCast_zero, Int.ofNat_zero, Int.natCast_one, Int.cast_ofNat_Int, bne_self_eq_false, beq_self_eq_true, Int.reduceBEq, Int.reduceBNe, Bool.not_true, Bool.not_false]
      refine ⟨by simp only [List.length_append, List.length_cons, List.length_nil]; omega, by simp only [List.length_append, List.length_cons, List.length_nil]; omega, ?_⟩
      exact .mk _ (.refl _) (.upd_new hid) ⟨by simp [ruleT, d1, e2, oneOr], rfl⟩
  · have e2 : r.cond ≠ [] := by rintro e; rw [e] at d2; simp at d2
    have f4 : exprS r.cond = exprT r.cond := by simp [exprS, e2, he.2.2.1]
    rw [f4] at f2
    cases d1 : r.deny
    all_goals
      rw [d1] at f1 f2 f3
      simp -implicitDefEqProofs only [go_sem, ↓reduceIte, Nat.reduceLT, Nat.reduceEqDiff, Nat.reduceAdd, Nat.reduceLeDiff, Nat.reduceMul, Nat.reduceSub, Int.natCast_zero, Int.ofNat_zero, Int.natCast_one, Int.cast_ofNat_Int, bne_self_eq_false, beq_self_eq_true, Int.reduceBEq, Int.reduceBNe, Bool.not_true, Bool.not_false, d1]
      refine .quiet (by kernel_rfl) ?_
      simp -implicitDefEqProofs only [go_sem, ↓reduceIte, Nat.reduceLT, Nat.reduceEqDiff, Nat.reduceAdd, Nat.reduceLeDiff, Nat.reduceMul, Nat.reduceSub, Int.natCast_zero, Int.ofNat_zero, Int.natCast_one, Int.cast_ofNat_Int, bne_self_eq_false, beq_self_eq_true, Int.reduceBEq, Int.reduceBNe, Bool.not_true, Bool.not_false]
      refine ⟨_, f1, ?_⟩
      simp -implicitDefEqProofs only [go_sem, ↓reduceIte, Nat.reduceLT, Nat.reduceEqDiff, Nat.reduceAdd, Nat.reduceLeDiff, Nat.reduceMul, Nat.reduceSub, Int.natCast_zero, Int.ofNat_zero, Int.natCast_one, Int.cast_ofNat_Int, bne_self_eq_false, beq_self_eq_true, Int.reduceBEq, Int.reduceBNe, Bool.not_true, Bool.not_false, List.length_map, d2]
      refine ⟨by omega, by simp only [List.length_append, List.length_cons, List.length_nil]; omega, ?_⟩
      refine f2.pthen ?_
      simp -implicitDefEqProofs only [go_sem, ↓reduceIte, Nat.reduceLT, Nat.reduceEqDiff, Nat.reduceAdd, Nat.reduceLeDiff, Nat.reduceMul, Nat.reduceSub, Int.natCast_zero, Int.ofNat_zero, Int.natCast_one, Int.cast_ofNat_Int, bne_self_eq_false, beq_self_eq_true, Int.reduceBEq, Int.reduceBNe, Bool.not_true, Bool.not_false]
      refine ⟨by omega, by simp only [List.length_append, List.length_cons, List.length_nil]; omega, ?_⟩
      refine f3.pthen ?_
      simp -implicitDefEqProofs only [go_sem, ↓reduceIte, Nat.reduceLT, Nat.reduceEqDiff, Nat.reduceAdd, Nat.reduceLeDiff, Nat.reduceMul, Nat.reduceSub, Int.natCast_zero, Int.ofNat_zero, Int.natCast_one, Int.cast_ofNat_Int, bne_self_eq_false, beq_self_eq_true, Int.reduceBEq, Int.reduceBNe, Bool.not_true, Bool.not_false]
      refine ⟨by simp only [List.length_append, List.length_cons, List.length_nil]; omega, by simp only [List.length_append, List.length_cons, List.length_nil]; omega, ?_⟩
      exact .mk _ (.refl _) (.upd_new hid) ⟨by simp [ruleT, d1, e2, oneOr], rfl⟩

def algWords : List Txt := [[100, 101, 110, 121, 111, 118, 101, 114], [112, 101, 114, 109, 105, 116, 111, 118, 101, 114], [102, 105, 114, 115, 116], [111, 110, 108, 121], [100, 101, 110, 121, 117, 110, 108, 101, 115, 115], [112, 101, 114, 109, 105, 116, 117, 110, 108, 101, 115, 115]]
theorem words_alg (n : Int) (h1 : 1 ≤ n) (h4 : n ≤ 6) : ∃ i : Nat, n = i + 1 ∧ ∃ hi : i < algWords.length, algWords[i]'hi = algW n := by
  rcases (by omega : n = 1 ∨ n = 2 ∨ n = 3 ∨ n = 4 ∨ n = 5 ∨ n = 6) with rfl | rfl | rfl | rfl | rfl | rfl
  · exact ⟨0, rfl, by decide, rfl⟩
  · exact ⟨1, rfl, by decide, rfl⟩
  · exact ⟨2, rfl, by decide, rfl⟩
  · exact ⟨3, rfl, by decide, rfl⟩
  · exact ⟨4, rfl, by decide, rfl⟩
  · exact ⟨5, rfl, by decide, rfl⟩

theorem flat_take {α : Type} (f : α → Txt) (l : List α) (i : Nat) (h : i < l.length) : ((l.take (i + 1)).map f).flatten = ((l.take i).map f).flatten ++ f l[i] := by
  rw [List.take_succ_eq_append_getElem h, List.map_append, List.flatten_append]; simp

def kidT (k : PolD) : Txt := [32] ++ polT k
theorem kidsT_kid (l : List PolD) : kidsT l = (l.map kidT).flatten := kidsT_eq l
/-- What is written ahead of the rules. -/
def headT (id : Txt) (set : Bool) (alg : Int) (tgt : TgtD) : Txt := (if set then [115, 101, 116, 32] else [112, 111, 108, 105, 99, 121, 32]) ++ (id ++ [32] ++ algW alg ++ tgtT tgt ++ [32, 123])
theorem headT_le {id : Txt} {set : Bool} {alg : Int} {tgt : TgtD} (h1 : id.length ≤ 16) (h2 : (tgtT tgt).length ≤ 115006) : (headT id set alg tgt).length ≤ 116000 := by
  have := algW_le alg
  unfold headT
  cases set <;> simp only [List.length_append, List.length_cons, List.length_nil, if_true, Bool.false_eq_true, if_false] <;> omega

theorem stext_ok (Q : Quoted) : ∀ (n d : Nat) (p : PolD) (h : Heap), d + n = 5 → polE d p → inP p → PowT h → FnOK Tryd.prog 28 [polA p] h fun x h' => x = .s (polT p) ∧ h' = h
  | 0, d, .mk id set alg tgt rules kids obls, h, hd, he, hi, ht => by simp only [polE] at he; omega
  | n + 1, d, .mk id set alg tgt rules kids obls, h, hd, he, hi, ht => by
    simp only [polE] at he
    simp only [inP] at hi
    obtain ⟨_, g1, a1, a6, _, _, g2, g3, g4, g5, g6, g7⟩ := he
    obtain ⟨i1, i2, i3⟩ := hi
    rw [kidsE_eq] at g7
    rw [inK_eq] at i3
    have hlim : lim = 9223372036854775808 := rfl
    have b1 := nameOK_le g1
    have b2 := tgtT_le g2 i1
    have b3 := algW_le alg
    have b4 := oblsT_le g3
    have b5 := headT_le (set := set) (alg := alg) b1 b2
    have b8 : polB n ≤ 1000000000000 := by
      have hm : ∀ k, polB k ≤ polB (k + 1) := by
        intro k; induction k with
        | zero => decide
        | succ k ih => simp only [polB] at ih ⊢; omega
      have : ∀ j k, polB j ≤ polB (j + k) := fun j k => by
        induction k with
        | zero => exact Nat.le_refl _
        | succ k ih => exact Nat.le_trans ih (hm _)
      have h4 : n ≤ 4 := by omega
      have := this n (4 - n)
      rw [show n + (4 - n) = 4 by omega] at this
      exact Nat.le_trans this polB_le
    have hrl : ∀ i, ((rules.take i).map ruleT).flatten.length ≤ 1952000 := fun i => flatten_le _ 16 122000 (by simp; omega) fun x hx => by
      obtain ⟨r, hr, rfl⟩ := List.mem_map.1 hx
      have hr := List.mem_of_mem_take hr
      exact ruleT_le (g6 r hr) (i2 r hr)
    have hkl : ∀ k ∈ kids, (polT k).length ≤ polB n := fun k hk => polT_le n (d + 1) k (by omega) (g7 k hk) (i3 k hk)
    have hkf : ∀ i, ((kids.take i).map kidT).flatten.length ≤ 16 * (1 + polB n) := fun i => flatten_le _ 16 _ (by simp; omega) fun x hx => by
      obtain ⟨k, hk, rfl⟩ := List.mem_map.1 hx
      have := hkl k (List.mem_of_mem_take hk)
      simp only [kidT, List.length_append, List.length_cons, List.length_nil]; omega
    obtain ⟨j, hn, hj, hw⟩ := words_alg alg a1 a6
    have rec' := fun (k : PolD) (hk : k ∈ kids) (h : Heap) (ht : PowT h) => stext_ok Q n (d + 1) k h (by omega) (g7 k hk) (i3 k hk) ht
    refine FnOK.body hU hm Tryd.func28 rfl (by kernel_rfl) 56 rfl [.tmp 2] rfl (Nat.le_of_ble_eq_true rfl) (fun hwf => ?_)
    simp -implicitDefEqProofs only [go_sem, ↓reduceIte, Nat.reduceLT, Nat.reduceEqDiff, Nat.reduceAdd, Nat.reduceLeDiff, Nat.reduceMul, Nat.reduceSub, Int.natCast_zero, Int.ofNat_zero, Int.natCast_one, Int.cast_ofNat_Int, bne_self_eq_false, beq_self_eq_true, Int.reduceBEq, Int.reduceBNe, Bool.not_true, Bool.not_false, polA, tgtA, oblsA]
    intro ip hip
    have hs0 : Ab.Sub h (upd h ip (some (.obj [.s id, .v (.bool set), .v (.int .i64 alg), .sl (tgt.map anyA) .no, .sl (rules.map ruleA) .no, .sl (kidsA kids) .no, .sl (obls.map oblA) .no] 43))) := .upd_new hip
    obtain ⟨hb, ehb⟩ : ∃ hb, upd h ip (some (.obj [.s id, .v (.bool set), .v (.int .i64 alg), .sl (tgt.map anyA) .no, .sl (rules.map ruleA) .no, .sl (kidsA kids) .no, .sl (obls.map oblA) .no] 43)) = hb := ⟨_, rfl⟩
    have hbip : hb ip = some (.obj [.s id, .v (.bool set), .v (.int .i64 alg), .sl (tgt.map anyA) .no, .sl (rules.map ruleA) .no, .sl (kidsA kids) .no, .sl (obls.map oblA) .no] 43) := by rw [← ehb]; exact upd_same ..
    rw [ehb] at hs0 ⊢
    have f1 := starget_ok Q tgt g2 i1 hb (ht.sub hs0)
    simp only [tgtA] at f1
    have hwd := word_ok alg j (.sl [.s [100, 101, 110, 121, 111, 118, 101, 114], .s [112, 101, 114, 109, 105, 116, 111, 118, 101, 114], .s [102, 105, 114, 115, 116], .s [111, 110, 108, 121], .s [100, 101, 110, 121, 117, 110, 108, 101, 115, 115], .s [112, 101, 114, 109, 105, 116, 117, 110, 108, 101, 115, 115]] .full) algWords hb (.sl _ _) hn hj (by simp [algWords] at hj; omega)
    rw [hw] at hwd
    have loop : ∀ (ρ : Env), True := fun _ => trivial
    cases set
    · simp -implicitDefEqProofs only [go_sem, ↓reduceIte, Nat.reduceLT, Nat.reduceEqDiff, Nat.reduceAdd, Nat.reduceLeDiff, Nat.reduceMul, Nat.reduceSub, Int.natCast_zero, Int.ofNat_zero, Int.natCast_one, Int.cast_ofNat_Int, bne_self_eq_false, beq_self_eq_true, Int.reduceBEq, Int.reduceBNe, Bool.not_true, Bool.not_false, hbip]
      refine .quiet (by kernel_rfl) ?_
      simp -implicitDefEqProofs only [go_sem, ↓reduceIte, Nat.reduceLT, Nat.reduceEqDiff, Nat.reduceAdd, Nat.reduceLeDiff, Nat.reduceMul, Nat.reduceSub, Int.natCast_zero, Int.ofNat_zero, Int.natCast_one, Int.cast_ofNat_Int, bne_self_eq_false, beq_self_eq_true, Int.reduceBEq, Int.reduceBNe, Bool.not_true, Bool.not_false, hbip]
      refine ⟨by omega, ?_⟩
      refine ⟨_, hwd, ?_⟩
      simp -implicitDefEqProofs only [go_sem, ↓reduceIte, Nat.reduceLT, Nat.reduceEqDiff, Nat.reduceAdd, Nat.reduceLeDiff, Nat.reduceMul, Nat.reduceSub, Int.natCast_zero, Int.ofNat_zero, Int.natCast_one, Int.cast_ofNat_Int, bne_self_eq_false, beq_self_eq_true, Int.reduceBEq, Int.reduceBNe, Bool.not_true, Bool.not_false, hbip]
      refine ⟨by simp only [List.length_append, List.length_cons, List.length_nil]; omega, ?_⟩
      refine ⟨_, f1, ?_⟩
      simp -implicitDefEqProofs only [go_sem, ↓reduceIte, Nat.reduceLT, Nat.reduceEqDiff, Nat.reduceAdd, Nat.reduceLeDiff, Nat.reduceMul, Nat.reduceSub, Int.natCast_zero, Int.ofNat_zero, Int.natCast_one, Int.cast_ofNat_Int, bne_self_eq_false, beq_self_eq_true, Int.reduceBEq, Int.reduceBNe, Bool.not_true, Bool.not_false, hbip, List.length_map]
      refine ⟨by simp only [List.length_append, List.length_cons, List.length_nil]; omega, by simp only [List.length_append, List.length_cons, List.length_nil]; omega, by simp only [List.length_append, List.length_cons, List.length_nil]; omega, ?_⟩
      obtain ⟨H, eH⟩ : ∃ H, headT id false alg tgt = H := ⟨_, rfl⟩
      have eH2 : headT id false alg tgt = _ := rfl
      rw [eH] at b5
      refine .intro (fun m ρ h' => Ab.Sub hb h' ∧ ∃ (i : Nat), i ≤ rules.length ∧ m = rules.length - i ∧ lk ρ 1 = some (.ptr ip 0) ∧ lk ρ 3 = some (.s (H ++ ((rules.take i).map ruleT).flatten)) ∧ lk ρ 26 = some (.sl (rules.map ruleA) .no) ∧ lk ρ 27 = some (.v (.int .i64 rules.length)) ∧ lk ρ 28 = some (.v (.int .i64 i))) rules.length ?_ ?_
      · refine ⟨.refl _, 0, by omega, rfl, ?_, ?_, ?_, ?_, ?_⟩
        rotate_left 1
        · simp -implicitDefEqProofs only [go_sem, ↓reduceIte, Nat.reduceLT, Nat.reduceEqDiff, Nat.reduceAdd, Nat.reduceLeDiff, Nat.reduceMul, Nat.reduceSub, Int.natCast_zero, Int.ofNat_zero, Int.natCast_one, Int.cast_ofNat_Int, bne_self_eq_false, beq_self_eq_true, Int.reduceBEq, Int.reduceBNe, Bool.not_true, Bool.not_false]
          rw [← eH]
          simp [headT]
        all_goals simp -implicitDefEqProofs only [go_sem, ↓reduceIte, Nat.reduceLT, Nat.reduceEqDiff, Nat.reduceAdd, Nat.reduceLeDiff, Nat.reduceMul, Nat.reduceSub, Int.natCast_zero, Int.ofNat_zero, Int.natCast_one, Int.cast_ofNat_Int, bne_self_eq_false, beq_self_eq_true, Int.reduceBEq, Int.reduceBNe, Bool.not_true, Bool.not_false]
      · rintro m ρ h' ⟨hs, i, hil, rfl, r1, r3, r26, r27, r28⟩
        simp -implicitDefEqProofs only [go_sem, ↓reduceIte, Nat.reduceLT, Nat.reduceEqDiff, Nat.reduceAdd, Nat.reduceLeDiff, Nat.reduceMul, Nat.reduceSub, Int.natCast_zero, Int.ofNat_zero, Int.natCast_one, Int.cast_ofNat_Int, bne_self_eq_false, beq_self_eq_true, Int.reduceBEq, Int.reduceBNe, Bool.not_true, Bool.not_false, r1, r3, r26, r27, r28]
        refine .intro (fun e => ?_) (fun e => ?_)
        · have hlt : i < rules.length := Int.ofNat_lt.1 (of_decide_eq_true e)
          have w1 : IntKind.i64.wrap ((i : Int) + 1) = ((i + 1 : Nat) : Int) := by rw [wr64 _ (by omega)]; omega
          have hr1 := g6 _ (List.getElem_mem hlt)
          have hr2 := ruleT_le hr1 (i2 _ (List.getElem_mem hlt))
          have hrl1 := hrl i
          simp -implicitDefEqProofs only [go_sem, ↓reduceIte, Nat.reduceLT, Nat.reduceEqDiff, Nat.reduceAdd, Nat.reduceLeDiff, Nat.reduceMul, Nat.reduceSub, Int.natCast_zero, Int.ofNat_zero, Int.natCast_one, Int.cast_ofNat_Int, bne_self_eq_false, beq_self_eq_true, Int.reduceBEq, Int.reduceBNe, Bool.not_true, Bool.not_false, r1, r3, r26, r27, r28]
          refine .at i (by simpa using hlt) (by rw [List.getElem_map]; rfl) ?_
          simp -implicitDefEqProofs only [go_sem, ↓reduceIte, Nat.reduceLT, Nat.reduceEqDiff, Nat.reduceAdd, Nat.reduceLeDiff, Nat.reduceMul, Nat.reduceSub, Int.natCast_zero, Int.ofNat_zero, Int.natCast_one, Int.cast_ofNat_Int, bne_self_eq_false, beq_self_eq_true, Int.reduceBEq, Int.reduceBNe, Bool.not_true, Bool.not_false, r1, r3, r26, r27, r28, List.getElem_map, ruleA]
          intro ir hir
          have fr := fun hh hp => srule_ok Q rules[i] hr1 (i2 _ (List.getElem_mem hlt)) hh hp
          simp only [ruleA] at fr
          simp -implicitDefEqProofs only [go_sem, ↓reduceIte, Nat.reduceLT, Nat.reduceEqDiff, Nat.reduceAdd, Nat.reduceLeDiff, Nat.reduceMul, Nat.reduceSub, Int.natCast_zero, Int.ofNat_zero, Int.natCast_one, Int.cast_ofNat_Int, bne_self_eq_false, beq_self_eq_true, Int.reduceBEq, Int.reduceBNe, Bool.not_true, Bool.not_false, r1, r3, r26, r27, r28]
          refine (fr _ ((ht.sub (hs0.trans hs)).sub (.upd_new hir))).pthen ?_
          simp -implicitDefEqProofs only [go_sem, ↓reduceIte, Nat.reduceLT, Nat.reduceEqDiff, Nat.reduceAdd, Nat.reduceLeDiff, Nat.reduceMul, Nat.reduceSub, Int.natCast_zero, Int.ofNat_zero, Int.natCast_one, Int.cast_ofNat_Int, bne_self_eq_false, beq_self_eq_true, Int.reduceBEq, Int.reduceBNe, Bool.not_true, Bool.not_false, r1, r3, r26, r27, r28, w1]
          refine ⟨by simp only [List.length_append]; omega, ?_⟩
          refine ⟨_, ?_, hs.new hir _, i + 1, by omega, rfl, ?_, ?_, ?_, ?_, ?_⟩
          · omega
          · simp -implicitDefEqProofs only [go_sem, ↓reduceIte, Nat.reduceLT, Nat.reduceEqDiff, Nat.reduceAdd, Nat.reduceLeDiff, Nat.reduceMul, Nat.reduceSub, Int.natCast_zero, Int.ofNat_zero, Int.natCast_one, Int.cast_ofNat_Int, bne_self_eq_false, beq_self_eq_true, Int.reduceBEq, Int.reduceBNe, Bool.not_true, Bool.not_false, r1, r3, r26, r27, r28, w1]
          · simp -implicitDefEqProofs only [go_sem, ↓reduceIte, Nat.reduceLT, Nat.reduceEqDiff, Nat.reduceAdd, Nat.reduceLeDiff, Nat.reduceMul, Nat.reduceSub, Int.natCast_zero, Int.ofNat_zero, Int.natCast_one, Int.cast_ofNat_Int, bne_self_eq_false, beq_self_eq_true, Int.reduceBEq, Int.reduceBNe, Bool.not_true, Bool.not_false]
            rw [flat_take _ _ _ hlt, List.append_assoc]
          all_goals simp -implicitDefEqProofs only [go_sem, ↓reduceIte, Nat.reduceLT, Nat.reduceEqDiff, Nat.reduceAdd, Nat.reduceLeDiff, Nat.reduceMul, Nat.reduceSub, Int.natCast_zero, Int.ofNat_zero, Int.natCast_one, Int.cast_ofNat_Int, bne_self_eq_false, beq_self_eq_true, Int.reduceBEq, Int.reduceBNe, Bool.not_true, Bool.not_false, r1, r3, r26, r27, r28, w1]
        · have hge : i = rules.length := by have := of_decide_eq_false e; omega
          subst hge
          rw [List.take_length] at r3
          have hipi := hs _ _ hbip
          have hrl1 := hrl rules.length
          rw [List.take_length] at hrl1
          simp -implicitDefEqProofs only [go_sem, ↓reduceIte, Nat.reduceLT, Nat.reduceEqDiff, Nat.reduceAdd, Nat.reduceLeDiff, Nat.reduceMul, Nat.reduceSub, Int.natCast_zero, Int.ofNat_zero, Int.natCast_one, Int.cast_ofNat_Int, bne_self_eq_false, beq_self_eq_true, Int.reduceBEq, Int.reduceBNe, Bool.not_true, Bool.not_false, r1, r3, r26, r27, r28, hipi, kidsA_eq, List.length_map]
          obtain ⟨H2, eH2⟩ : ∃ H2, H ++ (rules.map ruleT).flatten = H2 := ⟨_, rfl⟩
          have hH2 : H2.length ≤ 2068000 := by rw [← eH2]; simp only [List.length_append]; omega
          rw [eH2] at r3
          refine .intro (fun m ρ h'' => Ab.Sub hb h'' ∧ ∃ (i : Nat), i ≤ kids.length ∧ m = kids.length - i ∧ lk ρ 1 = some (.ptr ip 0) ∧ lk ρ 3 = some (.s (H2 ++ ((kids.take i).map kidT).flatten)) ∧ lk ρ 38 = some (.sl (kids.map polA) .no) ∧ lk ρ 39 = some (.v (.int .i64 kids.length)) ∧ lk ρ 40 = some (.v (.int .i64 i))) kids.length ?_ ?_
          · refine ⟨hs, 0, by omega, rfl, ?_, ?_, ?_, ?_, ?_⟩
            rotate_left 1
            · simp -implicitDefEqProofs only [go_sem, ↓reduceIte, Nat.reduceLT, Nat.reduceEqDiff, Nat.reduceAdd, Nat.reduceLeDiff, Nat.reduceMul, Nat.reduceSub, Int.natCast_zero, Int.ofNat_zero, Int.natCast_one, Int.cast_ofNat_Int, bne_self_eq_false, beq_self_eq_true, Int.reduceBEq, Int.reduceBNe, Bool.not_true, Bool.not_false, r3]
              simp
            all_goals simp -implicitDefEqProofs only [go_sem, ↓reduceIte, Nat.reduceLT, Nat.reduceEqDiff, Nat.reduceAdd, Nat.reduceLeDiff, Nat.reduceMul, Nat.reduceSub, Int.natCast_zero, Int.ofNat_zero, Int.natCast_one, Int.cast_ofNat_Int, bne_self_eq_false, beq_self_eq_true, Int.reduceBEq, Int.reduceBNe, Bool.not_true, Bool.not_false, r1, r3]
          · rintro m ρ h'' ⟨hs, i, hil, rfl, r1, r3, r38, r39, r40⟩
            simp -implicitDefEqProofs only [go_sem, ↓reduceIte, Nat.reduceLT, Nat.reduceEqDiff, Nat.reduceAdd, Nat.reduceLeDiff, Nat.reduceMul, Nat.reduceSub, Int.natCast_zero, Int.ofNat_zero, Int.natCast_one, Int.cast_ofNat_Int, bne_self_eq_false, beq_self_eq_true, Int.reduceBEq, Int.reduceBNe, Bool.not_true, Bool.not_false, r1, r3, r38, r39, r40]
            refine .intro (fun e => ?_) (fun e => ?_)
            · have hlt : i < kids.length := Int.ofNat_lt.1 (of_decide_eq_true e)
              have w1 : IntKind.i64.wrap ((i : Int) + 1) = ((i + 1 : Nat) : Int) := by rw [wr64 _ (by omega)]; omega
              have hk1 := hkl _ (List.getElem_mem hlt)
              have hk2 := hkf i
              have fk := fun h ht => rec' kids[i] (List.getElem_mem hlt) h ht
              cases hki' : kids[i] with
              | mk kid kset kalg ktgt krules kkids kobls =>
              rw [hki'] at fk hk1
              simp only [polA, tgtA, oblsA] at fk
              simp -implicitDefEqProofs only [go_sem, ↓reduceIte, Nat.reduceLT, Nat.reduceEqDiff, Nat.reduceAdd, Nat.reduceLeDiff, Nat.reduceMul, Nat.reduceSub, Int.natCast_zero, Int.ofNat_zero, Int.natCast_one, Int.cast_ofNat_Int, bne_self_eq_false, beq_self_eq_true, Int.reduceBEq, Int.reduceBNe, Bool.not_true, Bool.not_false, r1, r3, r38, r39, r40]
              refine .at i (by simpa using hlt) (by rw [List.getElem_map]; exact polA_len _) ?_
              simp -implicitDefEqProofs only [go_sem, ↓reduceIte, Nat.reduceLT, Nat.reduceEqDiff, Nat.reduceAdd, Nat.reduceLeDiff, Nat.reduceMul, Nat.reduceSub, Int.natCast_zero, Int.ofNat_zero, Int.natCast_one, Int.cast_ofNat_Int, bne_self_eq_false, beq_self_eq_true, Int.reduceBEq, Int.reduceBNe, Bool.not_true, Bool.not_false, r1, r3, r38, r39, r40, List.getElem_map, hki', polA, tgtA, oblsA]
              intro ir hir
              simp -implicitDefEqProofs only [go_sem, ↓reduceIte, Nat.reduceLT, Nat.reduceEqDiff, Nat.reduceAdd, Nat.reduceLeDiff, Nat.reduceMul, Nat.reduceSub, Int.natCast_zero, Int.ofNat_zero, Int.natCast_one, Int.cast_ofNat_Int, bne_self_eq_false, beq_self_eq_true, Int.reduceBEq, Int.reduceBNe, Bool.not_true, Bool.not_false, r1, r3, r38, r39, r40]
              refine (fk _ ((ht.sub (hs0.trans hs)).sub (.upd_new hir))).pthen ?_
              simp -implicitDefEqProofs only [go_sem, ↓reduceIte, Nat.reduceLT, Nat.reduceEqDiff, Nat.reduceAdd, Nat.reduceLeDiff, Nat.reduceMul, Nat.reduceSub, Int.natCast_zero, Int.ofNat_zero, Int.natCast_one, Int.cast_ofNat_Int, bne_self_eq_false, beq_self_eq_true, Int.reduceBEq, Int.reduceBNe, Bool.not_true, Bool.not_false, r1, r3, r38, r39, r40, w1]
              refine ⟨by omega, by simp only [List.length_append, List.length_cons, List.length_nil]; omega, ?_⟩
              refine ⟨_, ?_, hs.new hir _, i + 1, by omega, rfl, ?_, ?_, ?_, ?_, ?_⟩
              · omega
              · simp -implicitDefEqProofs only [go_sem, ↓reduceIte, Nat.reduceLT, Nat.reduceEqDiff, Nat.reduceAdd, Nat.reduceLeDiff, Nat.reduceMul, Nat.reduceSub, Int.natCast_zero, Int.ofNat_zero, Int.natCast_one, Int.cast_ofNat_Int, bne_self_eq_false, beq_self_eq_true, Int.reduceBEq, Int.reduceBNe, Bool.not_true, Bool.not_false, r1, r3, r38, r39, r40, w1]
              · simp -implicitDefEqProofs only [go_sem, ↓reduceIte, Nat.reduceLT, Nat.reduceEqDiff, Nat.reduceAdd, Nat.reduceLeDiff, Nat.reduceMul, Nat.reduceSub, Int.natCast_zero, Int.ofNat_zero, Int.natCast_one, Int.cast_ofNat_Int, bne_self_eq_false, beq_self_eq_true, Int.reduceBEq, Int.reduceBNe, Bool.not_true, Bool.not_false]
                rw [flat_take _ _ _ hlt, hki']
                simp [kidT]
              all_goals simp -implicitDefEqProofs only [go_sem, ↓reduceIte, Nat.reduceLT, Nat.reduceEqDiff, Nat.reduceAdd, Nat.reduceLeDiff, Nat.reduceMul, Nat.reduceSub, Int.natCast_zero, Int.ofNat_zero, Int.natCast_one, Int.cast_ofNat_Int, bne_self_eq_false, beq_self_eq_true, Int.reduceBEq, Int.reduceBNe, Bool.not_true, Bool.not_false, r1, r3, r38, r39, r40, w1]
            · have hge : i = kids.length := by have := of_decide_eq_false e; omega
              subst hge
              rw [List.take_length] at r3
              have hipi := hs _ _ hbip
              have hk2 := hkf kids.length
              rw [List.take_length] at hk2
              have fd := sduties_ok obls g3 h''
              simp only [oblsA] at fd
              simp -implicitDefEqProofs only [go_sem, ↓reduceIte, Nat.reduceLT, Nat.reduceEqDiff, Nat.reduceAdd, Nat.reduceLeDiff, Nat.reduceMul, Nat.reduceSub, Int.natCast_zero, Int.ofNat_zero, Int.natCast_one, Int.cast_ofNat_Int, bne_self_eq_false, beq_self_eq_true, Int.reduceBEq, Int.reduceBNe, Bool.not_true, Bool.not_false, r1, r3, r38, r39, r40, hipi]
              refine ⟨by simp only [List.length_append, List.length_cons, List.length_nil]; omega, ?_⟩
              refine fd.pthen ?_
              simp -implicitDefEqProofs only [go_sem, ↓reduceIte, Nat.reduceLT, Nat.reduceEqDiff, Nat.reduceAdd, Nat.reduceLeDiff, Nat.reduceMul, Nat.reduceSub, Int.natCast_zero, Int.ofNat_zero, Int.natCast_one, Int.cast_ofNat_Int, bne_self_eq_false, beq_self_eq_true, Int.reduceBEq, Int.reduceBNe, Bool.not_true, Bool.not_false, r1, r3, r38, r39, r40, hipi]
              refine ⟨by simp only [List.length_append, List.length_cons, List.length_nil]; omega, ?_⟩
              refine .mk _ (.refl _) (hs0.trans hs) ⟨?_, rfl⟩
              simp only [oneOr, polT, kidsT_kid]
              rw [← eH2, ← eH]
              simp [headT]
    · simp -implicitDefEqProofs only [go_sem, ↓reduceIte, Nat.reduceLT, Nat.reduceEqDiff, Nat.reduceAdd, Nat.reduceLeDiff, Nat.reduceMul, Nat.reduceSub, Int.natCast_zero, Int.ofNat_zero, Int.natCast_one, Int.cast_ofNat_Int, bne_self_eq_false, beq_self_eq_true, Int.reduceBEq, Int.reduceBNe, Bool.not_true, Bool.not_false, hbip]
      refine .quiet (by kernel_rfl) ?_
      simp -implicitDefEqProofs only [go_sem, ↓reduceIte, Nat.reduceLT, Nat.reduceEqDiff, Nat.reduceAdd, Nat.reduceLeDiff, Nat.reduceMul, Nat.reduceSub, Int.natCast_zero, Int.ofNat_zero, Int.natCast_one, Int.cast_ofNat_Int, bne_self_eq_false, beq_self_eq_true, Int.reduceBEq, Int.reduceBNe, Bool.not_true, Bool.not_false, hbip]
      refine ⟨by omega, ?_⟩
      refine ⟨_, hwd, ?_⟩
      simp -implicitDefEqProofs only [go_sem, ↓reduceIte, Nat.reduceLT, Nat.reduceEqDiff, Nat.reduceAdd, Nat.reduceLeDiff, Nat.reduceMul, Nat.reduceSub, Int.natCast_zero, Int.ofNat_zero, Int.natCast_one, Int.cast_ofNat_Int, bne_self_eq_false, beq_self_eq_true, Int.reduceBEq, Int.reduceBNe, Bool.not_true, Bool.not_false, hbip]
      refine ⟨by simp only [List.length_append, List.length_cons, List.length_nil]; omega, ?_⟩
      refine ⟨_, f1, ?_⟩
      simp -implicitDefEqProofs only [go_sem, ↓reduceIte, Nat.reduceLT, Nat.reduceEqDiff, Nat.reduceAdd, Nat.reduceLeDiff, Nat.reduceMul, Nat.reduceSub, Int.natCast_zero, Int.ofNat_zero, Int.natCast_one, Int.cast_ofNat_Int, bne_self_eq_false, beq_self_eq_true, Int.reduceBEq, Int.reduceBNe, Bool.not_true, Bool.not_false, hbip, List.length_map]
      refine ⟨by simp only [List.length_append, List.length_cons, List.length_nil]; omega, by simp only [List.length_append, List.length_cons, List.length_nil]; omega, by simp only [List.length_append, List.length_cons, List.length_nil]; omega, ?_⟩
      obtain ⟨H, eH⟩ : ∃ H, headT id true alg tgt = H := ⟨_, rfl⟩
      have eH2 : headT id true alg tgt = _ := rfl
      rw [eH] at b5
      refine .intro (fun m ρ h' => Ab.Sub hb h' ∧ ∃ (i : Nat), i ≤ rules.length ∧ m = rules.length - i ∧ lk ρ 1 = some (.ptr ip 0) ∧ lk ρ 3 = some (.s (H ++ ((rules.take i).map ruleT).flatten)) ∧ lk ρ 26 = some (.sl (rules.map ruleA) .no) ∧ lk ρ 27 = some (.v (.int .i64 rules.length)) ∧ lk ρ 28 = some (.v (.int .i64 i))) rules.length ?_ ?_
      · refine ⟨.refl _, 0, by omega, rfl, ?_, ?_, ?_, ?_, ?_⟩
        rotate_left 1
        · simp -implicitDefEqProofs only [go_sem, ↓reduceIte, Nat.reduceLT, Nat.reduceEqDiff, Nat.reduceAdd, Nat.reduceLeDiff, Nat.reduceMul, Nat.reduceSub, Int.natCast_zero, Int.ofNat_zero, Int.natCast_one, Int.cast_ofNat_Int, bne_self_eq_false, beq_self_eq_true, Int.reduceBEq, Int.reduceBNe, Bool.not_true, Bool.not_false]
          rw [← eH]
          simp [headT]
        all_goals simp -implicitDefEqProofs only [go_sem, ↓reduceIte, Nat.reduceLT, Nat.reduceEqDiff, Nat.reduceAdd, Nat.reduceLeDiff, Nat.reduceMul, Nat.reduceSub, Int.natCast_zero, Int.ofNat_zero, Int.natCast_one, Int.cast_ofNat_Int, bne_self_eq_false, beq_self_eq_true, Int.reduceBEq, Int.reduceBNe, Bool.not_true, Bool.not_false]
      · rintro m ρ h' ⟨hs, i, hil, rfl, r1, r3, r26, r27, r28⟩
        simp -implicitDefEqProofs only [go_sem, ↓reduceIte, Nat.reduceLT, Nat.reduceEqDiff, Nat.reduceAdd, Nat.reduceLeDiff, Nat.reduceMul, Nat.reduceSub, Int.natCast_zero, Int.ofNat_zero, Int.natCast_one, Int.cast_ofNat_Int, bne_self_eq_false, beq_self_eq_true, Int.reduceBEq, Int.reduceBNe, Bool.not_true, Bool.not_false, r1, r3, r26, r27, r28]
        refine .intro (fun e => ?_) (fun e => ?_)
        · have hlt : i < rules.length := Int.ofNat_lt.1 (of_decide_eq_true e)
          have w1 : IntKind.i64.wrap ((i : Int) + 1) = ((i + 1 : Nat) : Int) := by rw [wr64 _ (by omega)]; omega
          have hr1 := g6 _ (List.getElem_mem hlt)
          have hr2 := ruleT_le hr1 (i2 _ (List.getElem_mem hlt))
          have hrl1 := hrl i
          simp -implicitDefEqProofs only [go_sem, ↓reduceIte, Nat.reduceLT, Nat.reduceEqDiff, Nat.reduceAdd, Nat.reduceLeDiff, Nat.reduceMul, Nat.reduceSub, Int.natCast_zero, Int.ofNat_zero, Int.natCast_one, Int.cast_ofNat_Int, bne_self_eq_false, beq_self_eq_true, Int.reduceBEq, Int.reduceBNe, Bool.not_true, Bool.not_false, r1, r3, r26, r27, r28]
          refine .at i (by simpa using hlt) (by rw [List.getElem_map]; rfl) ?_
          simp -implicitDefEqProofs only [go_sem, ↓reduceIte, Nat.reduceLT, Nat.reduceEqDiff, Nat.reduceAdd, Nat.reduceLeDiff, Nat.reduceMul, Nat.reduceSub, Int.natCast_zero, Int.ofNat_zero, Int.natCast_one, Int.cast_ofNat_Int, bne_self_eq_false, beq_self_eq_true, Int.reduceBEq, Int.reduceBNe, Bool.not_true, Bool.not_false, r1, r3, r26, r27, r28, List.getElem_map, ruleA]
          intro ir hir
          have fr := fun hh hp => srule_ok Q rules[i] hr1 (i2 _ (List.getElem_mem hlt)) hh hp
          simp only [ruleA] at fr
          simp -implicitDefEqProofs only [go_sem, ↓reduceIte, Nat.reduceLT, Nat.reduceEqDiff, Nat.reduceAdd, Nat.reduceLeDiff, Nat.reduceMul, Nat.reduceSub, Int.natCast_zero, Int.ofNat_zero, Int.natCast_one, Int.cast_ofNat_Int, bne_self_eq_false, beq_self_eq_true, Int.reduceBEq, Int.reduceBNe, Bool.not_true, Bool.not_false, r1, r3, r26, r27, r28]
          refine (fr _ ((ht.sub (hs0.trans hs)).sub (.upd_new hir))).pthen ?_
          simp -implicitDefEqProofs only [go_sem, ↓reduceIte, Nat.reduceLT, Nat.reduceEqDiff, Nat.reduceAdd, Nat.reduceLeDiff, Nat.reduceMul, Nat.reduceSub, Int.natCast_zero, Int.ofNat_zero, Int.natCast_one, Int.cast_ofNat_Int, bne_self_eq_false, beq_self_eq_true, Int.reduceBEq, Int.reduceBNe, Bool.not_true, Bool.not_false, r1, r3, r26, r27, r28, w1]
          refine ⟨by simp only [List.length_append]; omega, ?_⟩
          refine ⟨_, ?_, hs.new hir _, i + 1, by omega, rfl, ?_, ?_, ?_, ?_, ?_⟩
          · omega
          · simp -implicitDefEqProofs only [go_sem, ↓reduceIte, Nat.reduceLT, Nat.reduceEqDiff, Nat.reduceAdd, Nat.reduceLeDiff, Nat.reduceMul, Nat.reduceSub, Int.natCast_zero, Int.ofNat_zero, Int.natCast_one, Int.cast_ofNat_Int, bne_self_eq_false, beq_self_eq_true, Int.reduceBEq, Int.reduceBNe, Bool.not_true, Bool.not_false, r1, r3, r26, r27, r28, w1]
          · simp -implicitDefEqProofs only [go_sem, ↓reduceIte, Nat.reduceLT, Nat.reduceEqDiff, Nat.reduceAdd, Nat.reduceLeDiff, Nat.reduceMul, Nat.reduceSub, Int.natCast_zero, Int.ofNat_zero, Int.natCast_one, Int.cast_ofNat_Int, bne_self_eq_false, beq_self_eq_true, Int.reduceBEq, Int.reduceBNe, Bool.not_true, Bool.not_false]
            rw [flat_take _ _ _ hlt, List.append_assoc]
          all_goals simp -implicitDefEqProofs only [go_sem, ↓reduceIte, Nat.reduceLT, Nat.reduceEqDiff, Nat.reduceAdd, Nat.reduceLeDiff, Nat.reduceMul, Nat.reduceSub, Int.natCast_zero, Int.ofNat_zero, Int.natCast_one, Int.cast_ofNat_Int, bne_self_eq_false, beq_self_eq_true, Int.reduceBEq, Int.reduceBNe, Bool.not_true, Bool.not_false, r1, r3, r26, r27, r28, w1]
        · have hge : i = rules.length := by have := of_decide_eq_false e; omega
          subst hge
          rw [List.take_length] at r3
          have hipi := hs _ _ hbip
          have hrl1 := hrl rules.length
          rw [List.take_length] at hrl1
          simp -implicitDefEqProofs only [go_sem, ↓reduceIte, Nat.reduceLT, Nat.reduceEqDiff, Nat.reduceAdd, Nat.reduceLeDiff, Nat.reduceMul, Nat.reduceSub, Int.natCast_zero, Int.ofNat_zero, Int.natCast_one, Int.cast_ofNat_Int, bne_self_eq_false, beq_self_eq_true, Int.reduceBEq, Int.reduceBNe, Bool.not_true, Bool.not_false, r1, r3, r26, r27, r28, hipi, kidsA_eq, List.length_map]
          obtain ⟨H2, eH2⟩ : ∃ H2, H ++ (rules.map ruleT).flatten = H2 := ⟨_, rfl⟩
          have hH2 : H2.length ≤ 2068000 := by rw [← eH2]; simp only [List.length_append]; omega
          rw [eH2] at r3
          refine .intro (fun m ρ h'' => Ab.Sub hb h'' ∧ ∃ (i : Nat), i ≤ kids.length ∧ m = kids.length - i ∧ lk ρ 1 = some (.ptr ip 0) ∧ lk ρ 3 = some (.s (H2 ++ ((kids.take i).map kidT).flatten)) ∧ lk ρ 38 = some (.sl (kids.map polA) .no) ∧ lk ρ 39 = some (.v (.int .i64 kids.length)) ∧ lk ρ 40 = some (.v (.int .i64 i))) kids.length ?_ ?_
          · refine ⟨hs, 0, by omega, rfl, ?_, ?_, ?_, ?_, ?_⟩
            rotate_left 1
            · simp -implicitDefEqProofs only [go_sem, ↓reduceIte, Nat.reduceLT, Nat.reduceEqDiff, Nat.reduceAdd, Nat.reduceLeDiff, Nat.reduceMul, Nat.reduceSub, Int.natCast_zero, Int.ofNat_zero, Int.natCast_one, Int.cast_ofNat_Int, bne_self_eq_false, beq_self_eq_true, Int.reduceBEq, Int.reduceBNe, Bool.not_true, Bool.not_false, r3]
              simp
            all_goals simp -implicitDefEqProofs only [go_sem, ↓reduceIte, Nat.reduceLT, Nat.reduceEqDiff, Nat.reduceAdd, Nat.reduceLeDiff, Nat.reduceMul, Nat.reduceSub, Int.natCast_zero, Int.ofNat_zero, Int.natCast_one, Int.cast_ofNat_Int, bne_self_eq_false, beq_self_eq_true, Int.reduceBEq, Int.reduceBNe, Bool.not_true, Bool.not_false, r1, r3]
          · rintro m ρ h'' ⟨hs, i, hil, rfl, r1, r3, r38, r39, r40⟩
            simp -implicitDefEqProofs only [go_sem, ↓reduceIte, Nat.reduceLT, Nat.reduceEqDiff, Nat.reduceAdd, Nat.reduceLeDiff, Nat.reduceMul, Nat.reduceSub, Int.natCast_zero, Int.ofNat_zero, Int.natCast_one, Int.cast_ofNat_Int, bne_self_eq_false, beq_self_eq_true, Int.reduceBEq, Int.reduceBNe, Bool.not_true, Bool.not_false, r1, r3, r38, r39, r40]
            refine .intro (fun e => ?_) (fun e => ?_)
            · have hlt : i < kids.length := Int.ofNat_lt.1 (of_decide_eq_true e)
              have w1 : IntKind.i64.wrap ((i : Int) + 1) = ((i + 1 : Nat) : Int) := by rw [wr64 _ (by omega)]; omega
              have hk1 := hkl _ (List.getElem_mem hlt)
              have hk2 := hkf i
              have fk := fun h ht => rec' kids[i] (List.getElem_mem hlt) h ht
              cases hki' : kids[i] with
              | mk kid kset kalg ktgt krules kkids kobls =>
              rw [hki'] at fk hk1
              simp only [polA, tgtA, oblsA] at fk
              simp -implicitDefEqProofs only [go_sem, ↓reduceIte, Nat.reduceLT, Nat.reduceEqDiff, Nat.reduceAdd, Nat.reduceLeDiff, Nat.reduceMul, Nat.reduceSub, Int.natCast_zero, Int.ofNat_zero, Int.natCast_one, Int.cast_ofNat_Int, bne_self_eq_false, beq_self_eq_true, Int.reduceBEq, Int.reduceBNe, Bool.not_true, Bool.not_false, r1, r3, r38, r39, r40]
              refine .at i (by simpa using hlt) (by rw [List.getElem_map]; exact polA_len _) ?_
              simp -implicitDefEqProofs only [go_sem, ↓reduceIte, Nat.reduceLT, Nat.reduceEqDiff, Nat.reduceAdd, Nat.reduceLeDiff, Nat.reduceMul, Nat.reduceSub, Int.natCast_zero, Int.ofNat_zero, Int.natCast_one, Int.cast_ofNat_Int, bne_self_eq_false, beq_self_eq_true, Int.reduceBEq, Int.reduceBNe, Bool.not_true, Bool.not_false, r1, r3, r38, r39, r40, List.getElem_map, hki', polA, tgtA, oblsA]
              intro ir hir
              simp -implicitDefEqProofs only [go_sem, ↓reduceIte, Nat.reduceLT, Nat.reduceEqDiff, Nat.reduceAdd, Nat.reduceLeDiff, Nat.reduceMul, Nat.reduceSub, Int.natCast_zero, Int.ofNat_zero, Int.natCast_one, Int.cast_ofNat_Int, bne_self_eq_false, beq_self_eq_true, Int.reduceBEq, Int.reduceBNe, Bool.not_true, Bool.not_false, r1, r3, r38, r39, r40]
              refine (fk _ ((ht.sub (hs0.trans hs)).sub (.upd_new hir))).pthen ?_
              simp -implicitDefEqProofs only [go_sem, ↓reduceIte, Nat.reduceLT, Nat.reduceEqDiff, Nat.reduceAdd, Nat.reduceLeDiff, Nat.reduceMul, Nat.reduceSub, Int.natCast_zero, Int.ofNat_zero, Int.natCast_one, Int.cast_ofNat_Int, bne_self_eq_false, beq_self_eq_true, Int.reduceBEq, Int.reduceBNe, Bool.not_true, Bool.not_false, r1, r3, r38, r39, r40, w1]
              refine ⟨by omega, by simp only [List.length_append, List.length_cons, List.length_nil]; omega, ?_⟩
              refine ⟨_, ?_, hs.new hir _, i + 1, by omega, rfl, ?_, ?_, ?_, ?_, ?_⟩
              · omega
              · simp -implicitDefEqProofs only [go_sem, ↓reduceIte, Nat.reduceLT, Nat.reduceEqDiff, Nat.reduceAdd, Nat.reduceLeDiff, Nat.reduceMul, Nat.reduceSub, Int.natCast_zero, Int.ofNat_zero, Int.natCast_one, Int.cast_ofNat_Int, bne_self_eq_false, beq_self_eq_true, Int.reduceBEq, Int.reduceBNe, Bool.not_true, Bool.not_false, r1, r3, r38, r39, r40, w1]
              · simp -implicitDefEqProofs only [go_sem, ↓reduceIte, Nat.reduceLT, Nat.reduceEqDiff, Nat.reduceAdd, Nat.reduceLeDiff, Nat.reduceMul, Nat.reduceSub, Int.natCast_zero, Int.ofNat_zero, Int.natCast_one, Int.cast_ofNat_Int, bne_self_eq_false, beq_self_eq_true, Int.reduceBEq, Int.reduceBNe, Bool.not_true, Bool.not_false]
                rw [flat_take _ _ _ hlt, hki']
                simp [kidT]
              all_goals simp -implicitDefEqProofs only [go_sem, ↓reduceIte, Nat.reduceLT, Nat.reduceEqDiff, Nat.reduceAdd, Nat.reduceLeDiff, Nat.reduceMul, Nat.reduceSub, Int.natCast_zero, Int.ofNat_zero, Int.natCast_one, Int.cast_ofNat_Int, bne_self_eq_false, beq_self_eq_true, Int.reduceBEq, Int.reduceBNe, Bool.not_true, Bool.not_false, r1, r3, r38, r39, r40, w1]
            · have hge : i = kids.length := by have := of_decide_eq_false e; omega
              subst hge
              rw [List.take_length] at r3
              have hipi := hs _ _ hbip
              have hk2 := hkf kids.length
              rw [List.take_length] at hk2
              have fd := sduties_ok obls g3 h''
              simp only [oblsA] at fd
              simp -implicitDefEqProofs only [go_sem, ↓reduceIte, Nat.reduceLT, Nat.reduceEqDiff, Nat.reduceAdd, Nat.reduceLeDiff, Nat.reduceMul, Nat.reduceSub, Int.natCast_zero, Int.ofNat_zero, Int.natCast_one, Int.cast_ofNat_Int, bne_self_eq_false, beq_self_eq_true, Int.reduceBEq, Int.reduceBNe, Bool.not_true, Bool.not_false, r1, r3, r38, r39, r40, hipi]
              refine ⟨by simp only [List.length_append, List.length_cons, List.length_nil]; omega, ?_⟩
              refine fd.pthen ?_
              simp -implicitDefEqProofs only [go_sem, ↓reduceIte, Nat.reduceLT, Nat.reduceEqDiff, Nat.reduceAdd, Nat.reduceLeDiff, Nat.reduceMul, Nat.reduceSub, Int.natCast_zero, Int.ofNat_zero, Int.natCast_one, Int.cast_ofNat_Int, bne_self_eq_false, beq_self_eq_true, Int.reduceBEq, Int.reduceBNe, Bool.not_true, Bool.not_false, r1, r3, r38, r39, r40, hipi]
              refine ⟨by simp only [List.length_append, List.length_cons, List.length_nil]; omega, ?_⟩
              refine .mk _ (.refl _) (hs0.trans hs) ⟨?_, rfl⟩
              simp only [oneOr, polT, kidsT_kid]
              rw [← eH2, ← eH]
              simp [headT]

theorem spolicy_ok (Q : Quoted) (p : PolD) (hi : inP p) (h : Heap) (ht : PowT h) : FnOK Tryd.prog 13 [polA p] h fun x h' => x = .s (showP p) ∧ h' = h := by
  have hr := fun h => right_ok p h
  have hx := fun hp h ht => stext_ok Q 4 1 p h rfl hp hi ht
  cases p with
  | mk id set alg tgt rules kids obls =>
  refine FnOK.body hU hm Tryd.func13 rfl (by kernel_rfl) 8 rfl [.tmp 2] rfl (Nat.le_of_ble_eq_true rfl) (fun hwf => ?_)
  simp -implicitDefEqProofs only [go_sem, ↓reduceIte, Nat.reduceLT, Nat.reduceEqDiff, Nat.reduceAdd, Nat.reduceLeDiff, Nat.reduceMul, Nat.reduceSub, Int.natCast_zero, Int.ofNat_zero, Int.natCast_one, Int.cast_ofNat_Int, bne_self_eq_false, beq_self_eq_true, Int.reduceBEq, Int.reduceBNe, Bool.not_true, Bool.not_false, polA, tgtA, oblsA]
  intro ip hip
  simp only [polA, tgtA, oblsA] at hr hx
  simp -implicitDefEqProofs only [go_sem, ↓reduceIte, Nat.reduceLT, Nat.reduceEqDiff, Nat.reduceAdd, Nat.reduceLeDiff, Nat.reduceMul, Nat.reduceSub, Int.natCast_zero, Int.ofNat_zero, Int.natCast_one, Int.cast_ofNat_Int, bne_self_eq_false, beq_self_eq_true, Int.reduceBEq, Int.reduceBNe, Bool.not_true, Bool.not_false]
  refine (hr _).pthen ?_
  cases d1 : (rightE (.mk id set alg tgt rules kids obls) != 0)
  case true =>
    have e1 : rightE (.mk id set alg tgt rules kids obls) ≠ 0 := by simpa using d1
    simp -implicitDefEqProofs only [go_sem, ↓reduceIte, Nat.reduceLT, Nat.reduceEqDiff, Nat.reduceAdd, Nat.reduceLeDiff, Nat.reduceMul, Nat.reduceSub, Int.natCast_zero, Int.ofNat_zero, Int.natCast_one, Int.cast_ofNat_Int, bne_self_eq_false, beq_self_eq_true, Int.reduceBEq, Int.reduceBNe, Bool.not_true, Bool.not_false, d1]
    exact .mk _ (.refl _) (.upd_new hip) ⟨by simp [showP, e1, oneOr], rfl⟩
  have e1 : rightE (.mk id set alg tgt rules kids obls) = 0 := by simpa using d1
  have hpe : polE 1 (.mk id set alg tgt rules kids obls) := by
    cases hw : polW ⟨[], 0⟩ 1 (.mk id set alg tgt rules kids obls) with
    | bad e =>
      have := polW_bad 4 1 _ _ e rfl hw
      rw [rightE, hw] at e1
      exact (this e1).elim
    | ok m => exact polW_ok _ _ _ _ hw
  simp -implicitDefEqProofs only [go_sem, ↓reduceIte, Nat.reduceLT, Nat.reduceEqDiff, Nat.reduceAdd, Nat.reduceLeDiff, Nat.reduceMul, Nat.reduceSub, Int.natCast_zero, Int.ofNat_zero, Int.natCast_one, Int.cast_ofNat_Int, bne_self_eq_false, beq_self_eq_true, Int.reduceBEq, Int.reduceBNe, Bool.not_true, Bool.not_false, d1]
  refine (hx hpe _ (ht.sub (.upd_new hip))).pthen ?_
  simp -implicitDefEqProofs only [go_sem, ↓reduceIte, Nat.reduceLT, Nat.reduceEqDiff, Nat.reduceAdd, Nat.reduceLeDiff, Nat.reduceMul, Nat.reduceSub, Int.natCast_zero, Int.ofNat_zero, Int.natCast_one, Int.cast_ofNat_Int, bne_self_eq_false, beq_self_eq_true, Int.reduceBEq, Int.reduceBNe, Bool.not_true, Bool.not_false]
  exact .mk _ (.refl _) (.upd_new hip) ⟨by simp [showP, e1, oneOr], rfl⟩
end Go.Proofs.YtdcchpbncckhlaaDoor

/- Contracts of the library's builder, laid by hand at this translation. -/
set_option linter.unusedVariables false
namespace Go.Proofs
open Go.Shelf
def Tryd.lays167_ren : Go.Shelf.Ren := ⟨fun | 166 => 72 | 167 => 96 | 169 => 73 | 240 => 97 | 276 => 114 | n => n, fun | 31 => 64 | 72 => 116 | 76 => 120 | 70 => 114 | 37 => 62 | 75 => 119 | 127 => 142 | 164 => 155 | 80 => 122 | n => n, fun | n => n⟩
theorem Tryd.lays167 : Go.Proofs.Lays.n167 Tryd.prog Tryd.lays167_ren := {
  mixed := by kernel_rfl
  f167 := Tryd.func96.trans (congrArg some (by kernel_rfl))
  f240 := Tryd.func97.trans (congrArg some (by kernel_rfl))
  f276 := Tryd.func114.trans (congrArg some (by kernel_rfl))
  t0 := Tryd.underlying0
  a0 := Tryd.isAgg0
  z0 := Tryd.sizeOf0
  v0 := Tryd.zeroValue0
  t4 := Tryd.underlying4
  a4 := Tryd.isAgg4
  z4 := Tryd.sizeOf4
  v4 := Tryd.zeroValue4
  t5 := Tryd.underlying5
  a5 := Tryd.isAgg5
  z5 := Tryd.sizeOf5
  v5 := Tryd.zeroValue5
  t9 := Tryd.underlying9
  a9 := Tryd.isAgg9
  z9 := Tryd.sizeOf9
  v9 := Tryd.zeroValue9
  t20 := Tryd.underlying20
  a20 := Tryd.isAgg20
  z20 := Tryd.sizeOf20
  v20 := Tryd.zeroValue20
  t37 := Tryd.underlying62
  a37 := Tryd.isAgg62
  z37 := Tryd.sizeOf62
  v37 := Tryd.zeroValue62
  t70 := Tryd.underlying114
  a70 := Tryd.isAgg114
  z70 := Tryd.sizeOf114
  v70 := Tryd.zeroValue114
  t72 := Tryd.underlying116
  a72 := Tryd.isAgg116
  z72 := Tryd.sizeOf116
  v72 := Tryd.zeroValue116
  t75 := Tryd.underlying119
  a75 := Tryd.isAgg119
  z75 := Tryd.sizeOf119
  v75 := Tryd.zeroValue119
  t164 := Tryd.underlying155
  a164 := Tryd.isAgg155
  z164 := Tryd.sizeOf155
  v164 := Tryd.zeroValue155
}
def Tryd.lays166_ren : Go.Shelf.Ren := ⟨fun | 166 => 72 | 167 => 96 | 169 => 73 | 240 => 97 | 276 => 114 | n => n, fun | 31 => 64 | 72 => 116 | 76 => 120 | 70 => 114 | 37 => 62 | 75 => 119 | 127 => 142 | 164 => 155 | 80 => 122 | n => n, fun | n => n⟩
theorem Tryd.lays166 : Go.Proofs.Lays.n166 Tryd.prog Tryd.lays166_ren := {
  mixed := by kernel_rfl
  f166 := Tryd.func72.trans (congrArg some (by kernel_rfl))
  f240 := Tryd.func97.trans (congrArg some (by kernel_rfl))
  f276 := Tryd.func114.trans (congrArg some (by kernel_rfl))
  t0 := Tryd.underlying0
  a0 := Tryd.isAgg0
  z0 := Tryd.sizeOf0
  v0 := Tryd.zeroValue0
  t3 := Tryd.underlying3
  a3 := Tryd.isAgg3
  z3 := Tryd.sizeOf3
  v3 := Tryd.zeroValue3
  t4 := Tryd.underlying4
  a4 := Tryd.isAgg4
  z4 := Tryd.sizeOf4
  v4 := Tryd.zeroValue4
  t9 := Tryd.underlying9
  a9 := Tryd.isAgg9
  z9 := Tryd.sizeOf9
  v9 := Tryd.zeroValue9
  t20 := Tryd.underlying20
  a20 := Tryd.isAgg20
  z20 := Tryd.sizeOf20
  v20 := Tryd.zeroValue20
  t37 := Tryd.underlying62
  a37 := Tryd.isAgg62
  z37 := Tryd.sizeOf62
  v37 := Tryd.zeroValue62
  t70 := Tryd.underlying114
  a70 := Tryd.isAgg114
  z70 := Tryd.sizeOf114
  v70 := Tryd.zeroValue114
  t72 := Tryd.underlying116
  a72 := Tryd.isAgg116
  z72 := Tryd.sizeOf116
  v72 := Tryd.zeroValue116
  t75 := Tryd.underlying119
  a75 := Tryd.isAgg119
  z75 := Tryd.sizeOf119
  v75 := Tryd.zeroValue119
  t164 := Tryd.underlying155
  a164 := Tryd.isAgg155
  z164 := Tryd.sizeOf155
  v164 := Tryd.zeroValue155
}
def Tryd.lays169_ren : Go.Shelf.Ren := ⟨fun | 166 => 72 | 167 => 96 | 169 => 73 | 240 => 97 | 276 => 114 | n => n, fun | 31 => 64 | 72 => 116 | 76 => 120 | 70 => 114 | 37 => 62 | 75 => 119 | 127 => 142 | 164 => 155 | 80 => 122 | n => n, fun | n => n⟩
theorem Tryd.lays169 : Go.Proofs.Lays.n169 Tryd.prog Tryd.lays169_ren := {
  mixed := by kernel_rfl
  f169 := Tryd.func73.trans (congrArg some (by kernel_rfl))
  t0 := Tryd.underlying0
  a0 := Tryd.isAgg0
  z0 := Tryd.sizeOf0
  v0 := Tryd.zeroValue0
  t3 := Tryd.underlying3
  a3 := Tryd.isAgg3
  z3 := Tryd.sizeOf3
  v3 := Tryd.zeroValue3
  t9 := Tryd.underlying9
  a9 := Tryd.isAgg9
  z9 := Tryd.sizeOf9
  v9 := Tryd.zeroValue9
  t37 := Tryd.underlying62
  a37 := Tryd.isAgg62
  z37 := Tryd.sizeOf62
  v37 := Tryd.zeroValue62
  t70 := Tryd.underlying114
  a70 := Tryd.isAgg114
  z70 := Tryd.sizeOf114
  v70 := Tryd.zeroValue114
  t72 := Tryd.underlying116
  a72 := Tryd.isAgg116
  z72 := Tryd.sizeOf116
  v72 := Tryd.zeroValue116
  t127 := Tryd.underlying142
  a127 := Tryd.isAgg142
  z127 := Tryd.sizeOf142
  v127 := Tryd.zeroValue142
}
theorem Tryd.Builder_Extra_167 : Builder.Extra Tryd.prog Tryd.lays167_ren where
  sizeBuilder := by kernel_rfl
  liesBuilder := by kernel_rfl
  t5 := Tryd.underlying5
  a5 := Tryd.isAgg5
  z5 := Tryd.sizeOf5
  v5 := Tryd.zeroValue5
  infoByte := by kernel_rfl
  cellsByte := by kernel_rfl
  sizeByte := by kernel_rfl
  neB5 := by decide
theorem Tryd.Builder_Extra_166 : Builder.Extra Tryd.prog Tryd.lays166_ren where
  sizeBuilder := by kernel_rfl
  liesBuilder := by kernel_rfl
  t5 := Tryd.underlying5
  a5 := Tryd.isAgg5
  z5 := Tryd.sizeOf5
  v5 := Tryd.zeroValue5
  infoByte := by kernel_rfl
  cellsByte := by kernel_rfl
  sizeByte := by kernel_rfl
  neB5 := by decide
theorem Tryd.Builder_Extra_169 : Builder.Extra Tryd.prog Tryd.lays169_ren where
  sizeBuilder := by kernel_rfl
  liesBuilder := by kernel_rfl
  t5 := Tryd.underlying5
  a5 := Tryd.isAgg5
  z5 := Tryd.sizeOf5
  v5 := Tryd.zeroValue5
  infoByte := by kernel_rfl
  cellsByte := by kernel_rfl
  sizeByte := by kernel_rfl
  neB5 := by decide
theorem Tryd.Builder_WriteByte_k (B b : Nat) (bs : List Value) (c : Int) (w : World) (h : Lib.IsBuilderF 116 5 B b bs w) (hlen : bs.length + 1 ≤ 140737488355328) (hBw : B ≤ w.heap.size) :
    Calls Tryd.prog 96 #[.pointer (some ⟨b, 0, none⟩), .int .u8 c] w fun e w' => e = .returned .nilIface ∧ (Lib.BuilderAtF 116 5 B b (.pointer (some ⟨b, 0, none⟩)) (bs ++ [.int .u8 c]) w' ∧ RowKit.Below B w w' ∧ Lib.OthersKept 5 (some b) w w') := Any.Builder_WriteByte_k Tryd.lays167 Tryd.Builder_Extra_167 B b bs c w h hlen hBw
theorem Tryd.Builder_WriteString_k (B b : Nat) (bs : List Value) (s : ByteArray) (w : World) (h : Lib.IsBuilderF 116 5 B b bs w) (hlen : bs.length + s.size ≤ 140737488355328) (hBw : B ≤ w.heap.size) :
    Calls Tryd.prog 72 #[.pointer (some ⟨b, 0, none⟩), .string s] w fun e w' => e = .returned (.tuple #[.int .i64 s.size, .nilIface]) ∧ (Lib.BuilderAtF 116 5 B b (.pointer (some ⟨b, 0, none⟩)) (bs ++ Lib.strCells s) w' ∧ RowKit.Below B w w' ∧ Lib.OthersKept 5 (some b) w w') := Any.Builder_WriteString_k Tryd.lays166 Tryd.Builder_Extra_166 B b bs s w h hlen hBw
theorem Tryd.Builder_String_k (B b : Nat) (l : List UInt8) (w : World) (h : Lib.IsBuilderF 116 5 B b (Lib.byteCells l) w) (h0 : l ≠ []) :
    Calls Tryd.prog 73 #[.pointer (some ⟨b, 0, none⟩)] w fun e w' => e = .returned (.string ⟨l.toArray⟩) ∧ (Lib.IsBuilderF 116 5 B b (Lib.byteCells l) w' ∧ RowKit.Below B w w' ∧ Lib.OthersKept 5 (some b) w w') := Any.Builder_String_k Tryd.lays169 Tryd.Builder_Extra_169 B b l w h h0
end Go.Proofs

/- The quoted text, walked. -/
namespace Go.Proofs
open Go.RowKit

/-- What is written by then. -/
def Tryd.quoteUpto (s : ByteArray) (k : Nat) : List UInt8 := [34] ++ ((s.data.toList.take k).map Bf.quoteB).flatten

set_option maxRecDepth 100000 in
theorem Tryd.low4 : ∀ c : Fin 256, bits BinOp.and IntKind.u8 (c.val : Int) 15 = ((c.val % 16 : Nat) : Int) := by decide
theorem Tryd.hexSlice (n : Nat) (hn : n < 16) (w : World) : (Instr.slice 9 (Value.string { data := #[48, 49, 50, 51, 52, 53, 54, 55, 56, 57, 97, 98, 99, 100, 101, 102] }) (some (.int .u8 (n : Int))) (some (.int .u8 (IntKind.u8.wrap ((n : Int) + 1)))) none).run Tryd.prog w = .ok (.string ⟨#[Bf.hexD n]⟩) w := by
  have e : IntKind.u8.wrap ((n : Int) + 1) = ((n + 1 : Nat) : Int) := by
    have : n = 0 ∨ n = 1 ∨ n = 2 ∨ n = 3 ∨ n = 4 ∨ n = 5 ∨ n = 6 ∨ n = 7 ∨ n = 8 ∨ n = 9 ∨ n = 10 ∨ n = 11 ∨ n = 12 ∨ n = 13 ∨ n = 14 ∨ n = 15 := by omega
    rcases this with rfl | rfl | rfl | rfl | rfl | rfl | rfl | rfl | rfl | rfl | rfl | rfl | rfl | rfl | rfl | rfl <;> decide
  rw [e, run_slice_string w 9 _ .u8 .u8 (n : Int) ((n + 1 : Nat) : Int) Tryd.underlying9 (by omega) (by omega) (by show ((n + 1 : Nat) : Int) ≤ 16; omega)]
  have : n = 0 ∨ n = 1 ∨ n = 2 ∨ n = 3 ∨ n = 4 ∨ n = 5 ∨ n = 6 ∨ n = 7 ∨ n = 8 ∨ n = 9 ∨ n = 10 ∨ n = 11 ∨ n = 12 ∨ n = 13 ∨ n = 14 ∨ n = 15 := by omega
  rcases this with rfl | rfl | rfl | rfl | rfl | rfl | rfl | rfl | rfl | rfl | rfl | rfl | rfl | rfl | rfl | rfl <;> rfl
theorem Tryd.quoteUpto_le (s : ByteArray) (k : Nat) (hk : k ≤ s.size) (hs : s.size ≤ 64) : (Tryd.quoteUpto s k).length ≤ 193 := by
  have : ∀ l : List UInt8, ((l.map Bf.quoteB).flatten).length ≤ 3 * l.length := fun l => by
    induction l with
    | nil => simp
    | cons c r ih =>
      have : (Bf.quoteB c).length ≤ 3 := by unfold Bf.quoteB; split <;> simp
      simp only [List.map_cons, List.flatten_cons, List.length_append, List.length_cons] at ih ⊢
      omega
  have h1 := this (s.data.toList.take k)
  have h2 : (s.data.toList.take k).length ≤ 64 := by
    have : s.size = s.data.toList.length := Array.length_toList.symm
    simp; omega
  unfold Tryd.quoteUpto
  simp only [List.length_append, List.length_cons, List.length_nil]
  omega
theorem Tryd.quoteUpto_succ (s : ByteArray) (k : Nat) (hk : k < s.size) : Tryd.quoteUpto s (k + 1) = Tryd.quoteUpto s k ++ Bf.quoteB s[k] := by
  have e : s.size = s.data.toList.length := Array.length_toList.symm
  have hk2 : k < s.data.toList.length := by omega
  unfold Tryd.quoteUpto
  rw [List.take_succ_eq_append_getElem hk2, List.map_append, List.flatten_append]
  simp only [List.map_cons, List.map_nil, List.flatten_cons, List.flatten_nil, List.append_nil, List.append_assoc]
  rfl
theorem Tryd.quoteUpto_all (s : ByteArray) : Tryd.quoteUpto s s.size ++ [34] = Bf.quoteT s.data.toList := by
  have e : s.size = s.data.toList.length := Array.length_toList.symm
  unfold Tryd.quoteUpto Bf.quoteT
  rw [e, List.take_length]
theorem Tryd.odd_cells (s : ByteArray) (k : Nat) (hk : k < s.size) (ho : Bf.oddB s[k] = true) :
    Lib.byteCells (Tryd.quoteUpto s k) ++ Lib.strCells (({ data := #[92] } : ByteArray) ++ { data := #[Bf.hexD (s[k].toNat / 16)] } ++ { data := #[Bf.hexD (s[k].toNat % 16)] }) = Lib.byteCells (Tryd.quoteUpto s (k + 1)) := by
  rw [Tryd.quoteUpto_succ s k hk, Lib.byteCells_append]
  congr 1
  rw [Bf.quoteB, if_pos ho]
  rfl
theorem Tryd.even_cells (s : ByteArray) (k : Nat) (hk : k < s.size) (ho : Bf.oddB s[k] = false) :
    Lib.byteCells (Tryd.quoteUpto s k) ++ [Value.int .u8 (s[k].toNat : Int)] = Lib.byteCells (Tryd.quoteUpto s (k + 1)) := by
  rw [Tryd.quoteUpto_succ s k hk, Lib.byteCells_append]
  congr 1
  rw [Bf.quoteB, if_neg (by simp [ho])]
  rfl
set_option maxHeartbeats 4000000 in
set_option maxRecDepth 1000000 in
theorem Tryd.quoted_walk (s : ByteArray) (w : World) (hs : s.size ≤ 64) :
    Calls Tryd.prog 70 #[.string s] w fun e w' => e = .returned (.string ⟨(Bf.quoteT s.data.toList).toArray⟩) ∧ Below w.heap.size w w' := by
  go_enter Tryd.func70, Tryd.ntmps70
  go_wp2_with (go_at_call 96; refine (Tryd.Builder_WriteByte_k w.heap.size w.heap.size [] 34 _ (Lib.IsBuilderF.of (Lib.fresh_isBuilder 116 5 w)) (by simp) (by simp)).mono ?_)
  rintro e W0 ⟨rfl, h0, b0, _⟩
  go_wp2
  go_loopw [9] (fun v wr => ∃ k : Nat, v = .int .i64 k ∧ k ≤ s.size ∧ Lib.IsBuilderF 116 5 w.heap.size w.heap.size (Lib.byteCells (Tryd.quoteUpto s k)) wr ∧ Below w.heap.size w wr) (fun v _ => s.size - (intOf v).toNat)
  case atStart =>
    refine ⟨0, rfl, by omega, ?_, ?_⟩
    · exact Or.inr h0
    · exact ((Below.refl _ w).alloc (Nat.le_refl _) _).trans b0
  case round =>
    obtain ⟨k, rfl, hk, hI, hbw⟩ := hrel
    by_cases hp : k < s.size
    · have hx1 : ∀ w, (Instr.slice 9 (Value.string { data := #[48, 49, 50, 51, 52, 53, 54, 55, 56, 57, 97, 98, 99, 100, 101, 102] }) (some (.int .u8 ((s[k].toNat : Int) / 16))) (some (.int .u8 (IntKind.u8.wrap ((s[k].toNat : Int) / 16 + 1)))) none).run Tryd.prog w = .ok (.string ⟨#[Bf.hexD (s[k].toNat / 16)]⟩) w :=
        fun w => Tryd.hexSlice (s[k].toNat / 16) (by have := s[k].toNat_lt; omega) w
      have hb : bits BinOp.and IntKind.u8 (s[k].toNat : Int) 15 = ((s[k].toNat % 16 : Nat) : Int) := Tryd.low4 ⟨s[k].toNat, s[k].toNat_lt⟩
      have hx2 : ∀ w, (Instr.slice 9 (Value.string { data := #[48, 49, 50, 51, 52, 53, 54, 55, 56, 57, 97, 98, 99, 100, 101, 102] }) (some (.int .u8 (bits BinOp.and IntKind.u8 (s[k].toNat : Int) 15))) (some (.int .u8 (IntKind.u8.wrap (bits BinOp.and IntKind.u8 (s[k].toNat : Int) 15 + 1)))) none).run Tryd.prog w = .ok (.string ⟨#[Bf.hexD (s[k].toNat % 16)]⟩) w := by
        intro w; rw [hb]; exact Tryd.hexSlice (s[k].toNat % 16) (by omega) w
      clear hb
      have hql := Tryd.quoteUpto_le s k hk hs
      by_cases d1 : (s[k].toNat : Int) < 32
      · go_wp2
        refine wp_region_still_tail 14 (by kernel_rfl) (by kernel_rfl) ?_
        simp only [List.take_succ_cons, List.take_zero, List.drop_succ_cons, List.drop_zero]
        (repeat still_step)
        try refine wpStill_nil ?_
        have hI2 : Lib.IsBuilderF 116 5 w.heap.size w.heap.size (Lib.byteCells (Tryd.quoteUpto s k)) wr.drew := hI
        have hbw2 : Below w.heap.size w wr.drew := hbw.drew
        change wpList _ _ _ _ _ wr.drew
        generalize wr.drew = w2 at hI2 hbw2 ⊢
        go_wp2_with (go_at_call 72; refine (Tryd.Builder_WriteString_k w.heap.size w.heap.size _ _ _ hI2 (by rw [Lib.byteCells_length]; show _ + 3 ≤ _; omega) hbw2.size).mono ?_)
        rintro e W1 ⟨rfl, h1, b1, _⟩
        go_wp2
        go_roundw
        case rel =>
          refine ⟨k + 1, by go_num, by omega, ?_, hbw2.trans b1⟩
          rw [← Tryd.odd_cells s k hp (by simp [Bf.oddB, d1])]
          exact Or.inr h1
        case measure => simp [intOf]; omega
      by_cases d2 : 126 < (s[k].toNat : Int)
      · go_wp2
        refine wp_region_still_tail 14 (by kernel_rfl) (by kernel_rfl) ?_
        simp only [List.take_succ_cons, List.take_zero, List.drop_succ_cons, List.drop_zero]
        (repeat still_step)
        try refine wpStill_nil ?_
        have hI2 : Lib.IsBuilderF 116 5 w.heap.size w.heap.size (Lib.byteCells (Tryd.quoteUpto s k)) wr.drew := hI
        have hbw2 : Below w.heap.size w wr.drew := hbw.drew
        change wpList _ _ _ _ _ wr.drew
        generalize wr.drew = w2 at hI2 hbw2 ⊢
        go_wp2_with (go_at_call 72; refine (Tryd.Builder_WriteString_k w.heap.size w.heap.size _ _ _ hI2 (by rw [Lib.byteCells_length]; show _ + 3 ≤ _; omega) hbw2.size).mono ?_)
        rintro e W1 ⟨rfl, h1, b1, _⟩
        go_wp2
        go_roundw
        case rel =>
          refine ⟨k + 1, by go_num, by omega, ?_, hbw2.trans b1⟩
          rw [← Tryd.odd_cells s k hp (by simp [Bf.oddB, d2])]
          exact Or.inr h1
        case measure => simp [intOf]; omega
      cases d3 : ((s[k].toNat : Int) == 34)
      case true =>
        go_wp2
        refine wp_region_still_tail 14 (by kernel_rfl) (by kernel_rfl) ?_
        simp only [List.take_succ_cons, List.take_zero, List.drop_succ_cons, List.drop_zero]
        (repeat still_step)
        try refine wpStill_nil ?_
        have hI2 : Lib.IsBuilderF 116 5 w.heap.size w.heap.size (Lib.byteCells (Tryd.quoteUpto s k)) wr.drew := hI
        have hbw2 : Below w.heap.size w wr.drew := hbw.drew
        change wpList _ _ _ _ _ wr.drew
        generalize wr.drew = w2 at hI2 hbw2 ⊢
        go_wp2_with (go_at_call 72; refine (Tryd.Builder_WriteString_k w.heap.size w.heap.size _ _ _ hI2 (by rw [Lib.byteCells_length]; show _ + 3 ≤ _; omega) hbw2.size).mono ?_)
        rintro e W1 ⟨rfl, h1, b1, _⟩
        go_wp2
        go_roundw
        case rel =>
          refine ⟨k + 1, by go_num, by omega, ?_, hbw2.trans b1⟩
          rw [← Tryd.odd_cells s k hp (by simp [Bf.oddB, d3])]
          exact Or.inr h1
        case measure => simp [intOf]; omega
      cases d4 : ((s[k].toNat : Int) == 92)
      case true =>
        go_wp2
        refine wp_region_still_tail 14 (by kernel_rfl) (by kernel_rfl) ?_
        simp only [List.take_succ_cons, List.take_zero, List.drop_succ_cons, List.drop_zero]
        (repeat still_step)
        try refine wpStill_nil ?_
        have hI2 : Lib.IsBuilderF 116 5 w.heap.size w.heap.size (Lib.byteCells (Tryd.quoteUpto s k)) wr.drew := hI
        have hbw2 : Below w.heap.size w wr.drew := hbw.drew
        change wpList _ _ _ _ _ wr.drew
        generalize wr.drew = w2 at hI2 hbw2 ⊢
        go_wp2_with (go_at_call 72; refine (Tryd.Builder_WriteString_k w.heap.size w.heap.size _ _ _ hI2 (by rw [Lib.byteCells_length]; show _ + 3 ≤ _; omega) hbw2.size).mono ?_)
        rintro e W1 ⟨rfl, h1, b1, _⟩
        go_wp2
        go_roundw
        case rel =>
          refine ⟨k + 1, by go_num, by omega, ?_, hbw2.trans b1⟩
          rw [← Tryd.odd_cells s k hp (by simp [Bf.oddB, d4])]
          exact Or.inr h1
        case measure => simp [intOf]; omega
      go_wp2_with (go_at_call 96; refine (Tryd.Builder_WriteByte_k w.heap.size w.heap.size _ _ _ hI (by rw [Lib.byteCells_length]; omega) hbw.size).mono ?_)
      rintro e W1 rfl h1 b1 _
      go_wp2
      go_roundw
      case rel =>
        refine ⟨k + 1, by go_num, by omega, ?_, hbw.trans b1⟩
        rw [← Tryd.even_cells s k hp (by simp [Bf.oddB, d1, d2, d3, d4])]
        exact Or.inr h1
      case measure => simp [intOf]; omega
    · have hk2 : k = s.size := by omega
      subst hk2
      have hql := Tryd.quoteUpto_le s s.size hk hs
      go_wp2_with (go_at_call 96; refine (Tryd.Builder_WriteByte_k w.heap.size w.heap.size _ _ _ hI (by rw [Lib.byteCells_length]; omega) hbw.size).mono ?_)
      rintro e W1 ⟨rfl, h1, b1, _⟩
      have e34 : Lib.byteCells (Tryd.quoteUpto s s.size) ++ [Value.int .u8 34] = Lib.byteCells (Bf.quoteT s.data.toList) := by
        rw [← Tryd.quoteUpto_all, Lib.byteCells_append]; rfl
      rw [e34] at h1
      go_wp2_with (go_at_call 73; refine (Tryd.Builder_String_k w.heap.size w.heap.size _ _ (Or.inr h1) (by simp [Bf.quoteT])).mono ?_)
      rintro e W2 ⟨rfl, _, b2, _⟩
      go_wp2
      go_ret
      exact ⟨rfl, (hbw.trans b1).trans b2⟩
end Go.Proofs

/- Quoted texts: the contract; policies as texts without a premise. -/
set_option linter.unusedSimpArgs false
set_option linter.unusedVariables false
namespace Go.Proofs.YtdcchpbncckhlaaDoor
open Go Go.Ab Go.Bf

theorem quoted_ok : Quoted := fun s h hs => by
  refine .lib ⟨_, Tryd.func70, by kernel_rfl, rfl⟩ fun c vs hs' g h1 h2 => ?_
  obtain ⟨v, rfl⟩ : ∃ v, vs = #[v] := Array.size_eq_one_iff.1 h1
  have e : v = .string ⟨s.toArray⟩ := ((h2 0 (by simp)).s_inv).1
  subst e
  refine (Tryd.quoted_walk ⟨s.toArray⟩ c.w (by simpa [ByteArray.size] using hs)).mono ?_
  rintro e w' ⟨rfl, hb⟩
  have hl := quoteT_le s hs
  exact ⟨⟨_, rfl, fun c' _ => .s _ (by show (quoteT s).length < lim; have : (194 : Nat) < lim := by decide
                                       omega)⟩, hb⟩
end Go.Proofs.YtdcchpbncckhlaaDoor

/- Chapter 10's runs. -/
set_option linter.unusedSimpArgs false
set_option linter.unusedVariables false
namespace Go.Proofs.YtdcchpbncckhlaaDoor
open Go Go.Ab Go.Bf

def runAttr : AttrD := ⟨3, [111, 119, 110, 101, 114], true⟩
def runPol : PolD := .mk [112] false 1 [] [⟨[114], true, [[[⟨runAttr, 1, ⟨5, 0, [97, 110, 110]⟩⟩], [⟨runAttr, 1, ⟨2, 1, []⟩⟩]]], [⟨1, ⟨1, 1, []⟩, ⟨0, [], false⟩⟩, ⟨11, ⟨0, 0, []⟩, ⟨0, [], false⟩⟩], []⟩] [] [⟨1, 1, [120]⟩]
theorem runPol_in : inP runPol := by
  simp [runPol, inP, inK, inT, inY, inA, inR, inL, inV]
set_option maxRecDepth 100000 in
theorem runPol_text : showP runPol = [112, 111, 108, 105, 99, 121, 32, 112, 32, 100, 101, 110, 121, 111, 118, 101, 114, 32, 123, 32, 100, 101, 110, 121, 32, 114, 32, 119, 104, 101, 110, 32, 40, 99, 97, 115, 101, 46, 111, 119, 110, 101, 114, 33, 32, 61, 32, 35, 97, 110, 110, 32, 111, 114, 32, 99, 97, 115, 101, 46, 111, 119, 110, 101, 114, 33, 32, 61, 32, 49, 41, 32, 105, 102, 32, 40, 110, 111, 116, 32, 116, 114, 117, 101, 41, 59, 32, 125, 32, 111, 110, 32, 112, 101, 114, 109, 105, 116, 32, 108, 111, 103, 32, 120] := by
  kernel_rfl

theorem showRuns_ok (h : Heap) (ht : PowT h) : FnOK Tryd.prog 3 [] h fun r h' => r = .v (.bool true) ∧ h' = h := by
  refine FnOK.body hU hm Tryd.func3 rfl (by kernel_rfl) 30 rfl [.tmp 0] rfl (Nat.le_of_ble_eq_true rfl) (fun hwf => ?_)
  simp -implicitDefEqProofs only [go_sem, ↓reduceIte, Nat.reduceLT, Nat.reduceEqDiff, Nat.reduceAdd, Nat.reduceLeDiff, Nat.reduceMul, Nat.reduceSub, Int.natCast_zero, Int.ofNat_zero, Int.natCast_one, Int.cast_ofNat_Int, bne_self_eq_false, beq_self_eq_true, Int.reduceBEq, Int.reduceBNe, Bool.not_true, Bool.not_false]
  intro i1 h1
  simp -implicitDefEqProofs only [go_sem, ↓reduceIte, Nat.reduceLT, Nat.reduceEqDiff, Nat.reduceAdd, Nat.reduceLeDiff, Nat.reduceMul, Nat.reduceSub, Int.natCast_zero, Int.ofNat_zero, Int.natCast_one, Int.cast_ofNat_Int, bne_self_eq_false, beq_self_eq_true, Int.reduceBEq, Int.reduceBNe, Bool.not_true, Bool.not_false]
  intro i2 h2
  simp -implicitDefEqProofs only [go_sem, ↓reduceIte, Nat.reduceLT, Nat.reduceEqDiff, Nat.reduceAdd, Nat.reduceLeDiff, Nat.reduceMul, Nat.reduceSub, Int.natCast_zero, Int.ofNat_zero, Int.natCast_one, Int.cast_ofNat_Int, bne_self_eq_false, beq_self_eq_true, Int.reduceBEq, Int.reduceBNe, Bool.not_true, Bool.not_false]
  intro i3 h3
  simp -implicitDefEqProofs only [go_sem, ↓reduceIte, Nat.reduceLT, Nat.reduceEqDiff, Nat.reduceAdd, Nat.reduceLeDiff, Nat.reduceMul, Nat.reduceSub, Int.natCast_zero, Int.ofNat_zero, Int.natCast_one, Int.cast_ofNat_Int, bne_self_eq_false, beq_self_eq_true, Int.reduceBEq, Int.reduceBNe, Bool.not_true, Bool.not_false]
  have hp := fun hh hs => spolicy_ok quoted_ok runPol runPol_in hh (ht.sub hs)
  rw [runPol_text] at hp
  refine FnOK.strip ?_
  have e : ∀ (a : List AV) (k : Heap), a = [polA runPol] → FnOK Tryd.prog 13 [polA runPol] k = FnOK Tryd.prog 13 a k := fun a k e => by rw [e]
  rw [← e _ _ (by simp [strip, stripL, polA, runPol, runAttr, kidsA, ruleA, tgtA, anyA, allA, matchA, condA, nodeA, oblsA, oblA])]
  refine (hp _ (((Sub.upd_new h1).trans (.upd_new h2)).trans (.upd_new h3))).pthen ?_
  simp -implicitDefEqProofs only [go_sem, ↓reduceIte, Nat.reduceLT, Nat.reduceEqDiff, Nat.reduceAdd, Nat.reduceLeDiff, Nat.reduceMul, Nat.reduceSub, Int.natCast_zero, Int.ofNat_zero, Int.natCast_one, Int.cast_ofNat_Int, bne_self_eq_false, beq_self_eq_true, Int.reduceBEq, Int.reduceBNe, Bool.not_true, Bool.not_false, List.append_eq, List.cons_append, List.nil_append, List.length_cons, List.length_nil, decide_true, Nat.zero_add]
  exact .mk _ (.refl _) (((Sub.upd_new h1).trans (.upd_new h2)).trans (.upd_new h3)) ⟨rfl, rfl⟩

theorem pow_tab : PowT (tabH [(1, pow10V)]) := ⟨0, rfl⟩
theorem showRuns_law : FnOK Tryd.prog 3 [] (tabH [(1, pow10V)]) fun r _ => r = .v (.bool true) := (showRuns_ok _ pow_tab).mono fun _ _ h => h.1
end Go.Proofs.YtdcchpbncckhlaaDoor
