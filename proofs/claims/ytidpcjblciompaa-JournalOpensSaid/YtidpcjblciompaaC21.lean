/- The law JournalRuns. -/
import Derived.Test.YtidpcjblciompaaC20
import Derived.Test.YtidpcjblciompaaAb29
set_option linter.unusedSimpArgs false
set_option linter.unusedVariables false
namespace Go.Proofs.Ytidpcjblciompaa
open Go Go.Ab

theorem runs_scan : scan (frame [97] ++ frame [98, 99] ++ [1, 0]) = ([[97], [98, 99]], 19) := by
  have h := scan_frames [[97], [98, 99]] [1, 0] (by simp)
  rw [scan_none (l := [1, 0]) (beginsL_short _ (by decide))] at h
  have e : frames [[97], [98, 99]] = frame [97] ++ frame [98, 99] := by simp [frames]
  rw [e] at h
  rw [h]
  simp [frame_length]

set_option maxRecDepth 20000 in
theorem journalRuns_ok (h : Heap) : FnOK Try.prog 6 [] h fun r h' => r = .v (.bool true) ∧ Sub h h' := by
  refine FnOK.of_wp hU Try.func6 rfl (by kernel_rfl) 31 rfl [.tmp 0] rfl (Nat.le_of_ble_eq_true rfl) ?_
  refine WP.seq (vcCode_sound hU hm _ _ _ _ ?_)
  simp -implicitDefEqProofs only [go_sem, ↓reduceIte, Nat.reduceLT, Nat.reduceEqDiff, Nat.reduceAdd, Nat.reduceLeDiff, Nat.reduceMul, Nat.reduceSub, Int.natCast_zero, Int.ofNat_zero, Int.natCast_one, Int.cast_ofNat_Int, bne_self_eq_false, beq_self_eq_true, Int.reduceBEq, Int.reduceBNe, Bool.not_true, Bool.not_false]
  show WP _ _ _ _ _ _
  refine WP.seq (WP.opsC hU [false, true, false, false, true, false, false, false, false, false] ?_)
  simp -implicitDefEqProofs only [go_sem, ↓reduceIte, Nat.reduceLT, Nat.reduceEqDiff, Nat.reduceAdd, Nat.reduceLeDiff, Nat.reduceMul, Nat.reduceSub, Int.natCast_zero, Int.ofNat_zero, Int.natCast_one, Int.cast_ofNat_Int, bne_self_eq_false, beq_self_eq_true, Int.reduceBEq, Int.reduceBNe, Bool.not_true, Bool.not_false, List.range, List.range.loop]
  refine (frame_ok _ [97] h (.inl ⟨.full, rfl⟩) (by decide)).sthen fun h1 hs1 => ?_
  simp -implicitDefEqProofs only [go_sem, ↓reduceIte, Nat.reduceLT, Nat.reduceEqDiff, Nat.reduceAdd, Nat.reduceLeDiff, Nat.reduceMul, Nat.reduceSub, Int.natCast_zero, Int.ofNat_zero, Int.natCast_one, Int.cast_ofNat_Int, bne_self_eq_false, beq_self_eq_true, Int.reduceBEq, Int.reduceBNe, Bool.not_true, Bool.not_false]
  refine ⟨by rw [frame_length]; decide, .acc fun z1 h2 ha1 hk1 => ?_⟩
  rw [List.nil_append] at ha1
  simp -implicitDefEqProofs only [go_sem, ↓reduceIte, Nat.reduceLT, Nat.reduceEqDiff, Nat.reduceAdd, Nat.reduceLeDiff, Nat.reduceMul, Nat.reduceSub, Int.natCast_zero, Int.ofNat_zero, Int.natCast_one, Int.cast_ofNat_Int, bne_self_eq_false, beq_self_eq_true, Int.reduceBEq, Int.reduceBNe, Bool.not_true, Bool.not_false, List.range, List.range.loop]
  refine (frame_ok _ [98, 99] h2 (.inl ⟨.full, rfl⟩) (by decide)).sthen fun h3 hs3 => ?_
  simp -implicitDefEqProofs only [go_sem, ↓reduceIte, Nat.reduceLT, Nat.reduceEqDiff, Nat.reduceAdd, Nat.reduceLeDiff, Nat.reduceMul, Nat.reduceSub, Int.natCast_zero, Int.ofNat_zero, Int.natCast_one, Int.cast_ofNat_Int, bne_self_eq_false, beq_self_eq_true, Int.reduceBEq, Int.reduceBNe, Bool.not_true, Bool.not_false]
  refine (ha1.sub hs3).app (zs := (frame [98, 99]).map byteA) (by rw [u5]; decide) (by rw [u5b]; decide) (fun k hk => hk) (by rw [u5, Sized_bytes]; trivial) (by rw [u5, Sized_bytes]; trivial) (by rw [u5b, List.length_map, List.length_map, frame_length, frame_length]; decide) fun z2 h4 ha2 hk2 => ?_
  rw [← List.map_append] at ha2
  simp -implicitDefEqProofs only [go_sem, ↓reduceIte, Nat.reduceLT, Nat.reduceEqDiff, Nat.reduceAdd, Nat.reduceLeDiff, Nat.reduceMul, Nat.reduceSub, Int.natCast_zero, Int.ofNat_zero, Int.natCast_one, Int.cast_ofNat_Int, bne_self_eq_false, beq_self_eq_true, Int.reduceBEq, Int.reduceBNe, Bool.not_true, Bool.not_false]
  refine ha2.app (zs := [byteA 1, byteA 0]) (by rw [u5]; decide) (by rw [u5b]; decide) (fun k hk => hk) (by rw [u5, Sized_bytes]; trivial) (by rw [u5]; simp [Sized, byteA, AV.cells]) (by rw [u5b, List.length_map, List.length_append, frame_length, frame_length]; decide) fun z3 h5 ha3 hk3 => ?_
  rw [show (frame [97] ++ frame [98, 99]).map byteA ++ [byteA 1, byteA 0] = (frame [97] ++ frame [98, 99] ++ [1, 0]).map byteA by simp] at ha3
  have hsub : Sub h h5 := hs1.trans ha3.1
  have hz3 : By h5 z3 (frame [97] ++ frame [98, 99] ++ [1, 0]) := ha3.bytes
  clear ha1 ha2 ha3
  simp -implicitDefEqProofs only [go_sem, ↓reduceIte, Nat.reduceLT, Nat.reduceEqDiff, Nat.reduceAdd, Nat.reduceLeDiff, Nat.reduceMul, Nat.reduceSub, Int.natCast_zero, Int.ofNat_zero, Int.natCast_one, Int.cast_ofNat_Int, bne_self_eq_false, beq_self_eq_true, Int.reduceBEq, Int.reduceBNe, Bool.not_true, Bool.not_false]
  show WP _ _ _ _ _ _
  refine WP.seq (vcCode_sound hU hm _ _ _ _ ?_)
  simp -implicitDefEqProofs only [go_sem, ↓reduceIte, Nat.reduceLT, Nat.reduceEqDiff, Nat.reduceAdd, Nat.reduceLeDiff, Nat.reduceMul, Nat.reduceSub, Int.natCast_zero, Int.ofNat_zero, Int.natCast_one, Int.cast_ofNat_Int, bne_self_eq_false, beq_self_eq_true, Int.reduceBEq, Int.reduceBNe, Bool.not_true, Bool.not_false]
  refine (scan_ok z3 _ h5 hz3 (by rw [List.length_append, List.length_append, frame_length, frame_length]; decide)).mono fun r h6 ⟨z, sp, e1, hg, hs6, hsp⟩ => ?_
  rw [runs_scan] at e1 hg
  subst e1
  simp -implicitDefEqProofs only [go_sem, ↓reduceIte, Nat.reduceLT, Nat.reduceEqDiff, Nat.reduceAdd, Nat.reduceLeDiff, Nat.reduceMul, Nat.reduceSub, Int.natCast_zero, Int.ofNat_zero, Int.natCast_one, Int.cast_ofNat_Int, bne_self_eq_false, beq_self_eq_true, Int.reduceBEq, Int.reduceBNe, Bool.not_true, Bool.not_false]
  show WP _ _ _ _ _ _
  refine WP.seq (WP.opsC hU [false, true, true] ?_)
  obtain ⟨q, rfl⟩ : ∃ q, z = .sl ([[97], [98, 99]].map rowA) q := by
    rcases hg with ⟨rfl, _⟩ | ⟨k, rfl, _⟩ <;> exact ⟨_, rfl⟩
  have hw : ∀ (h : Heap), Ab.Rows 5 h [.sl [.v (.int .u8 97)] .full, .sl [.v (.int .u8 98), .v (.int .u8 99)] .full] [[97], [98, 99]] := fun h => .cons (.inl ⟨.full, rfl⟩) (.cons (.inl ⟨.full, rfl⟩) .nil)
  simp -implicitDefEqProofs only [go_sem, ↓reduceIte, Nat.reduceLT, Nat.reduceEqDiff, Nat.reduceAdd, Nat.reduceLeDiff, Nat.reduceMul, Nat.reduceSub, Int.natCast_zero, Int.ofNat_zero, Int.natCast_one, Int.cast_ofNat_Int, bne_self_eq_false, beq_self_eq_true, Int.reduceBEq, Int.reduceBNe, Bool.not_true, Bool.not_false, List.range, List.range.loop]
  refine (rows_ok (.sl [] .no) (.sl [] .no) _ _ q .full [[97], [98, 99]] [[97], [98, 99]] h6 (rows_of _ h6) (hw h6) (by decide) (by decide)).pthen ?_
  rw [decide_eq_true rfl]
  simp -implicitDefEqProofs only [go_sem, ↓reduceIte, Nat.reduceLT, Nat.reduceEqDiff, Nat.reduceAdd, Nat.reduceLeDiff, Nat.reduceMul, Nat.reduceSub, Int.natCast_zero, Int.ofNat_zero, Int.natCast_one, Int.cast_ofNat_Int, bne_self_eq_false, beq_self_eq_true, Int.reduceBEq, Int.reduceBNe, Bool.not_true, Bool.not_false]
  show WP _ _ _ _ _ _
  refine vcCode_sound hU hm _ _ _ _ ?_
  simp -implicitDefEqProofs only [go_sem, ↓reduceIte, Nat.reduceLT, Nat.reduceEqDiff, Nat.reduceAdd, Nat.reduceLeDiff, Nat.reduceMul, Nat.reduceSub, Int.natCast_zero, Int.ofNat_zero, Int.natCast_one, Int.cast_ofNat_Int, bne_self_eq_false, beq_self_eq_true, Int.reduceBEq, Int.reduceBNe, Bool.not_true, Bool.not_false]
  exact .same (.refl _) ⟨rfl, hsub.trans hs6⟩
theorem journalRuns_law : FnOK Try.prog 6 [] noHeap fun r _ => r = .v (.bool true) := (journalRuns_ok noHeap).mono fun _ _ h => h.1
end Go.Proofs.Ytidpcjblciompaa
