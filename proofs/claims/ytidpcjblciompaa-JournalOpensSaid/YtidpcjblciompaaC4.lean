/- slices.Concat. -/
import Derived.Test.YtidpcjblciompaaC3
set_option linter.unusedSimpArgs false
set_option linter.unusedVariables false
namespace Go.Proofs.Ytidpcjblciompaa
open Go Go.Ab

theorem u27 : (U 27).sz = 1 := by simp only [go_sem]
theorem u27a : (U 27).k.agg = false := by simp only [go_sem]

theorem flat_take_len (ls : List (List UInt8)) (i : Nat) (hi : i < ls.length) : (ls.take (i + 1)).flatten = (ls.take i).flatten ++ ls[i] := by
  rw [List.take_succ_eq_append_getElem hi, List.flatten_append, List.flatten_cons, List.flatten_nil, List.append_nil]
theorem flat_take_le (ls : List (List UInt8)) (i : Nat) : (ls.take i).flatten.length ≤ ls.flatten.length := by
  conv => rhs; rw [← List.take_append_drop i ls, List.flatten_append, List.length_append]
  omega

theorem concat_ok (ys : List AV) (ls : List (List UInt8)) (q : Perm) (h : Heap) (hr : Ab.Rows 5 h ys ls) (hl : ls.flatten.length ≤ 20000000) (hn : ls.length ≤ 20000000) :
    FnOK Try.prog 45 [.sl ys q] h fun r h' => r = .sl (ls.flatten.map byteA) .no ∧ Sub h h' := by
  have hlen := hr.1
  refine FnOK.body hU hm Try.func45 rfl (by kernel_rfl) 36 rfl [.tmp 2] rfl (Nat.le_of_ble_eq_true rfl) (fun hwf => ?_)
  simp -implicitDefEqProofs only [go_sem, ↓reduceIte, Nat.reduceLT, Nat.reduceEqDiff, Nat.reduceAdd, Nat.reduceLeDiff, Nat.reduceMul, Nat.reduceSub]
  refine .intro (fun m ρ h' => h' = h ∧ ∃ i : Nat, i ≤ ls.length ∧ m = ls.length - i ∧ lk ρ 0 = some (.sl ys q) ∧ lk ρ 9 = some (.sl ys q) ∧ lk ρ 10 = some (.v (.int .i64 ys.length)) ∧
    lk ρ 11 = some (.v (.int .i64 i)) ∧ lk ρ 3 = some (.v (.int .i64 (ls.take i).flatten.length))) ls.length ?_ ?_
  · refine ⟨rfl, 0, Nat.zero_le _, rfl, ?_, ?_, ?_, ?_, ?_⟩ <;> simp -implicitDefEqProofs only [go_sem, ↓reduceIte, Nat.reduceLT, Nat.reduceEqDiff, Nat.reduceAdd, Nat.reduceLeDiff, Nat.reduceMul, Nat.reduceSub]
    · rfl
    · simp
  · rintro m ρ h' ⟨rfl, i, hi, rfl, r0, r9, r10, r11, r3⟩
    simp -implicitDefEqProofs only [go_sem, ↓reduceIte, Nat.reduceLT, Nat.reduceEqDiff, Nat.reduceAdd, Nat.reduceLeDiff, Nat.reduceMul, Nat.reduceSub, r0, r9, r10, r11, r3]
    refine .intro (fun e => ?_) (fun e => ?_)
    · have hlt : i < ys.length := by simpa using e
      have hlt2 : i < ls.length := by omega
      have hb := hr.2 i hlt hlt2
      simp -implicitDefEqProofs only [go_sem, ↓reduceIte, Nat.reduceLT, Nat.reduceEqDiff, Nat.reduceAdd, Nat.reduceLeDiff, Nat.reduceMul, Nat.reduceSub, r0, r9, r10, r11, r3]
      refine .at i hlt (by rw [hb.cells]; rfl) ?_
      have t1 := flat_take_le ls (i + 1)
      have t2 := flat_take_len ls i hlt2
      have w1 : IntKind.i64.wrap (((ls.take i).flatten.length : Int) + (ls[i].length : Int)) = ((ls.take (i + 1)).flatten.length : Nat) := by
        rw [t2, List.length_append] at t1 ⊢
        rw [IntWalk.i64_in _ (by omega)]; omega
      simp -implicitDefEqProofs only [go_sem, ↓reduceIte, Nat.reduceLT, Nat.reduceEqDiff, Nat.reduceAdd, Nat.reduceLeDiff, Nat.reduceMul, Nat.reduceSub, r0, r9, r10, r11, r3, hb.cells, hb.noAgg, and_self, hb.len, w1]
      refine .no (decide_eq_false (by omega)) ?_
      have w2 : IntKind.i64.wrap ((i : Int) + 1) = ((i + 1 : Nat) : Int) := by rw [IntWalk.i64_in _ (by omega)]; omega
      simp -implicitDefEqProofs only [go_sem, ↓reduceIte, Nat.reduceLT, Nat.reduceEqDiff, Nat.reduceAdd, Nat.reduceLeDiff, Nat.reduceMul, Nat.reduceSub, r0, r9, r10, r11, r3, w2]
      refine ⟨ls.length - (i + 1), by omega, rfl, i + 1, hlt2, rfl, ?_, ?_, ?_, ?_, ?_⟩ <;> simp -implicitDefEqProofs only [go_sem, ↓reduceIte, Nat.reduceLT, Nat.reduceEqDiff, Nat.reduceAdd, Nat.reduceLeDiff, Nat.reduceMul, Nat.reduceSub, r0, r9, r10, r11, r3]
    · have hge : i = ls.length := by
        have : ¬ (i < ys.length) := by simpa using e
        omega
      subst hge
      rw [List.take_length] at r3
      simp -implicitDefEqProofs only [go_sem, ↓reduceIte, Nat.reduceLT, Nat.reduceEqDiff, Nat.reduceAdd, Nat.reduceLeDiff, Nat.reduceMul, Nat.reduceSub, r0, r9, r10, r11, r3]
      refine (grow_ok ls.flatten.length hl h').mono fun g1 h1 ⟨ha, hk⟩ => ?_
      simp -implicitDefEqProofs only [go_sem, ↓reduceIte, Nat.reduceLT, Nat.reduceEqDiff, Nat.reduceAdd, Nat.reduceLeDiff, Nat.reduceMul, Nat.reduceSub, r0, r9, r10, r11, r3]
      refine .intro (fun m ρ h2 => ∃ g : AV, ∃ i : Nat, Acc U 5 h' h2 g ((ls.take i).flatten.map byteA) ∧ KeepObj h' h2 ∧ i ≤ ls.length ∧ m = ls.length - i ∧ lk ρ 25 = some (.sl ys q) ∧ lk ρ 26 = some (.v (.int .i64 ys.length)) ∧
        lk ρ 27 = some (.v (.int .i64 i)) ∧ lk ρ 6 = some g) ls.length ?_ ?_
      · refine ⟨g1, 0, ha, hk, Nat.zero_le _, rfl, ?_, ?_, ?_, ?_⟩ <;> simp -implicitDefEqProofs only [go_sem, ↓reduceIte, Nat.reduceLT, Nat.reduceEqDiff, Nat.reduceAdd, Nat.reduceLeDiff, Nat.reduceMul, Nat.reduceSub]
        rfl
      · rintro m ρ h2 ⟨g, i, ha, hk, hi, rfl, r25, r26, r27, r6⟩
        simp -implicitDefEqProofs only [go_sem, ↓reduceIte, Nat.reduceLT, Nat.reduceEqDiff, Nat.reduceAdd, Nat.reduceLeDiff, Nat.reduceMul, Nat.reduceSub, r25, r26, r27, r6]
        refine .intro (fun e => ?_) (fun e => ?_)
        · have hlt : i < ys.length := by simpa using e
          have hlt2 : i < ls.length := by omega
          have hb := (hr.2 i hlt hlt2).keepObj hk
          have t1 := flat_take_le ls (i + 1)
          have t2 := flat_take_len ls i hlt2
          simp -implicitDefEqProofs only [go_sem, ↓reduceIte, Nat.reduceLT, Nat.reduceEqDiff, Nat.reduceAdd, Nat.reduceLeDiff, Nat.reduceMul, Nat.reduceSub, r25, r26, r27, r6]
          refine .at i hlt (by rw [hb.cells]; rfl) ?_
          simp -implicitDefEqProofs only [go_sem, ↓reduceIte, Nat.reduceLT, Nat.reduceEqDiff, Nat.reduceAdd, Nat.reduceLeDiff, Nat.reduceMul, Nat.reduceSub, r25, r26, r27, r6, hb.cells, hb.noAgg, and_self]
          refine ha.app (zs := ls[i].map byteA) (by rw [u5]; decide) (by rw [u5b]; decide) (fun k hk => by rw [hb.src u5]; exact hk) (by rw [u5, Sized_bytes]; trivial) (by rw [u5, Sized_bytes]; trivial) ?_ fun g' h3 ha' hk' => ?_
          · rw [u5b, List.length_map, List.length_map]
            rw [t2, List.length_append] at t1
            omega
          · have w2 : IntKind.i64.wrap ((i : Int) + 1) = ((i + 1 : Nat) : Int) := by rw [IntWalk.i64_in _ (by omega)]; omega
            simp -implicitDefEqProofs only [go_sem, ↓reduceIte, Nat.reduceLT, Nat.reduceEqDiff, Nat.reduceAdd, Nat.reduceLeDiff, Nat.reduceMul, Nat.reduceSub, r25, r26, r27, r6, w2]
            rw [← List.map_append, ← t2] at ha'
            refine ⟨ls.length - (i + 1), by omega, g', i + 1, ha', hk.trans hk', hlt2, rfl, ?_, ?_, ?_, ?_⟩ <;> simp -implicitDefEqProofs only [go_sem, ↓reduceIte, Nat.reduceLT, Nat.reduceEqDiff, Nat.reduceAdd, Nat.reduceLeDiff, Nat.reduceMul, Nat.reduceSub, r25, r26, r27, r6]
        · have hge : i = ls.length := by
            have : ¬ (i < ys.length) := by simpa using e
            omega
          subst hge
          rw [List.take_length] at ha
          simp -implicitDefEqProofs only [go_sem, ↓reduceIte, Nat.reduceLT, Nat.reduceEqDiff, Nat.reduceAdd, Nat.reduceLeDiff, Nat.reduceMul, Nat.reduceSub, r25, r26, r27, r6]
          exact .mk _ ha.weak (.refl _) ⟨rfl, ha.1⟩
end Go.Proofs.Ytidpcjblciompaa
