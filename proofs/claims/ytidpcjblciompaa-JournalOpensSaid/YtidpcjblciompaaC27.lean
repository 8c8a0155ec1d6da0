/- The law JournalOpens. -/
import Derived.Test.YtidpcjblciompaaC26
set_option linter.unusedSimpArgs false
set_option linter.unusedVariables false
namespace Go.Proofs.Ytidpcjblciompaa
open Go Go.Ab

theorem GrowAt.keepObj {g g' : Heap} {y : AV} {xs : List AV} {sp : List Nat} (hg : GrowAt g y xs sp) (ht : Touch sp g g') : KeepObj g g' := fun j cs t hj => ht _ _ (fun hi => by
  obtain ⟨n, hn⟩ := hg.has j hi
  rw [hj] at hn; cases hn) hj
theorem GrowAt.keepD {g g' : Heap} {y : AV} {xs : List AV} {sp : List Nat} {id : Nat} {d : D} (hg : GrowAt g y xs sp) (hd : DiskAt g id d) (hk : Keep id g g') : GrowAt g' y xs sp :=
  hg.touch (Touch.keep hk) fun i hi => by
    obtain ⟨n, hn⟩ := hg.has i hi
    obtain ⟨z, hz, _⟩ := hd
    simp
    rintro rfl
    rw [hz] at hn; cases hn
theorem GrowAt.sub {g g' : Heap} {y : AV} {xs : List AV} {sp : List Nat} (hg : GrowAt g y xs sp) (hs : Ab.Sub g g') : GrowAt g' y xs sp := hg.touch (S := []) (.of hs) (by simp)
theorem JAt.keepD {g g' : Heap} {t jid : Nat} {ps : List (List UInt8)} {down : Bool} {sp : List Nat} {id did : Nat} {d : D} (hj : JAt g t jid did ps down sp) (hd : DiskAt g id d) (hne : jid ≠ id) (hk : Keep id g g') : JAt g' t jid did ps down sp := by
  obtain ⟨y, xs, a, b, c⟩ := hj
  exact ⟨y, xs, hk _ _ hne a, b.keepD hd hk, c⟩

/-- Opened with the power on and no fuse. -/
theorem D.openD0 {d : D} (hd : d.ok) (h1 : d.off = false) (h2 : d.f = 0) : d.openD = ({ d with b := d.b.take (scan d.b).2, sy := (scan d.b).2 }, 0) := by
  have hl := scan_le d.b
  have sync0 : ∀ e : D, e.off = false → e.f = 0 → e.sync = ({ e with sy := e.b.length }, 0) := fun e h1 h2 => by
    unfold D.sync
    rw [if_neg (by simp [h1]), D.burn0 h2, if_neg (by simp [h1])]
  unfold D.openD
  by_cases h : (scan d.b).2 < d.b.length
  · rw [if_pos h, D.cut0 h1 h2 hl]
    show (if (0 : Nat) = 0 then _ else _) = _
    rw [if_pos rfl]
    refine (sync0 ({ d with b := d.b.take (scan d.b).2, sy := min d.sy (scan d.b).2 } : D) h1 h2).trans ?_
    simp only [List.length_take, Nat.min_eq_left hl]
  · have e : (scan d.b).2 = d.b.length := by omega
    rw [if_neg h]
    show (if (0 : Nat) = 0 then _ else _) = _
    rw [if_pos rfl, sync0 _ h1 h2, e, List.take_length]
theorem scan_tail (ps : List (List UInt8)) (r : List UInt8) (h : ∀ p ∈ ps, 1 ≤ p.length ∧ p.length ≤ 8192) (hr : r.length < 8) : scan (frames ps ++ r) = (ps, (frames ps).length) := by
  rw [scan_frames ps r h, scan_none (beginsL_short r hr)]
  simp

set_option maxRecDepth 20000 in
theorem journalOpens_ok (b : List UInt8) (ls : List (List UInt8)) (hl : ls.length ≤ maxLen) (hb : b.length ≤ maxLen) (hls : ∀ p ∈ ls, p.length ≤ maxLen) (h : Heap) :
    FnOK Try.prog 11 [.sl (b.map byteA) .no, .sl (ls.map rowA) .no] h fun r _ => r = .v (.bool true) := by
  unfold maxLen at hl hb hls
  refine FnOK.of_wp hU Try.func11 rfl (by kernel_rfl) 140 rfl [.tmp 4] rfl (Nat.le_of_ble_eq_true rfl) ?_
  refine .one hU hm ?_
  simp -implicitDefEqProofs only [go_sem, ↓reduceIte, Nat.reduceLT, Nat.reduceEqDiff, Nat.reduceAdd, Nat.reduceLeDiff, Nat.reduceMul, Nat.reduceSub, Int.natCast_zero, Int.ofNat_zero, Int.natCast_one, Int.cast_ofNat_Int, bne_self_eq_false, beq_self_eq_true, Int.reduceBEq, Int.reduceBNe, Bool.not_true, Bool.not_false]
  refine .one hU hm ?_
  simp -implicitDefEqProofs only [go_sem, ↓reduceIte, Nat.reduceLT, Nat.reduceEqDiff, Nat.reduceAdd, Nat.reduceLeDiff, Nat.reduceMul, Nat.reduceSub, Int.natCast_zero, Int.ofNat_zero, Int.natCast_one, Int.cast_ofNat_Int, bne_self_eq_false, beq_self_eq_true, Int.reduceBEq, Int.reduceBNe, Bool.not_true, Bool.not_false]
  refine (new_ok 4000 (by omega) h).mono fun r g ⟨id, hid, e1, hd0, hs0⟩ => ?_
  subst e1
  simp -implicitDefEqProofs only [go_sem, ↓reduceIte, Nat.reduceLT, Nat.reduceEqDiff, Nat.reduceAdd, Nat.reduceLeDiff, Nat.reduceMul, Nat.reduceSub, Int.natCast_zero, Int.ofNat_zero, Int.natCast_one, Int.cast_ofNat_Int, bne_self_eq_false, beq_self_eq_true, Int.reduceBEq, Int.reduceBNe, Bool.not_true, Bool.not_false]
  refine .one hU hm ?_
  simp -implicitDefEqProofs only [go_sem, ↓reduceIte, Nat.reduceLT, Nat.reduceEqDiff, Nat.reduceAdd, Nat.reduceLeDiff, Nat.reduceMul, Nat.reduceSub, Int.natCast_zero, Int.ofNat_zero, Int.natCast_one, Int.cast_ofNat_Int, bne_self_eq_false, beq_self_eq_true, Int.reduceBEq, Int.reduceBNe, Bool.not_true, Bool.not_false]
  refine .one hU hm ?_
  simp -implicitDefEqProofs only [go_sem, ↓reduceIte, Nat.reduceLT, Nat.reduceEqDiff, Nat.reduceAdd, Nat.reduceLeDiff, Nat.reduceMul, Nat.reduceSub, Int.natCast_zero, Int.ofNat_zero, Int.natCast_one, Int.cast_ofNat_Int, bne_self_eq_false, beq_self_eq_true, Int.reduceBEq, Int.reduceBNe, Bool.not_true, Bool.not_false]
  refine .cut (fun ρ g => ∃ (w : AV) (xs : List AV) (sp : List Nat) (ps : List (List UInt8)), DiskAt g id ⟨4000, frames ps, 0, 0, false⟩ ∧ GrowAt g w xs sp ∧ (∀ g, Ab.Rows 5 g xs ps) ∧ (∀ p ∈ ps, 1 ≤ p.length ∧ p.length ≤ 41) ∧ ps.length ≤ 6 ∧ (frames ps).length ≤ 49 * 6 ∧
    lk ρ 0 = some (.sl (b.map byteA) .no) ∧ lk ρ 5 = some (.ptr id 0) ∧ lk ρ 7 = some w) (.vc hU hm ?_) ?_
  · simp -implicitDefEqProofs only [go_sem, ↓reduceIte, Nat.reduceLT, Nat.reduceEqDiff, Nat.reduceAdd, Nat.reduceLeDiff, Nat.reduceMul, Nat.reduceSub, Int.natCast_zero, Int.ofNat_zero, Int.natCast_one, Int.cast_ofNat_Int, bne_self_eq_false, beq_self_eq_true, Int.reduceBEq, Int.reduceBNe, Bool.not_true, Bool.not_false]
    refine .intro (fun m ρ g => ∃ (i : Nat) (w : AV) (xs : List AV) (sp : List Nat) (ps : List (List UInt8)), DiskAt g id ⟨4000, frames ps, 0, 0, false⟩ ∧ GrowAt g w xs sp ∧ (∀ g, Ab.Rows 5 g xs ps) ∧ (∀ p ∈ ps, 1 ≤ p.length ∧ p.length ≤ 41) ∧ ps.length = i ∧ (frames ps).length ≤ 49 * i ∧ i ≤ 6 ∧ i ≤ ls.length ∧ m = ls.length - i ∧
      lk ρ 0 = some (.sl (b.map byteA) .no) ∧ lk ρ 1 = some (.sl (ls.map rowA) .no) ∧ lk ρ 5 = some (.ptr id 0) ∧ lk ρ 7 = some w ∧ lk ρ 8 = some (.v (.int .i64 i))) (ls.length - 0) ?_ ?_
    · refine ⟨0, _, [], [], [], hd0, .inl ⟨rfl, rfl⟩, fun _ => .nil, by simp, rfl, by simp [frames], by omega, by omega, rfl, ?_, ?_, ?_, ?_, ?_⟩ <;> simp -implicitDefEqProofs only [go_sem, ↓reduceIte, Nat.reduceLT, Nat.reduceEqDiff, Nat.reduceAdd, Nat.reduceLeDiff, Nat.reduceMul, Nat.reduceSub, Int.natCast_zero, Int.ofNat_zero, Int.natCast_one, Int.cast_ofNat_Int, bne_self_eq_false, beq_self_eq_true, Int.reduceBEq, Int.reduceBNe, Bool.not_true, Bool.not_false]
    · rintro m ρ g ⟨i, w, xs, sp, ps, hd, hg, hrs, hps, hpl, hfl, hi6, hi, rfl, r0, r1, r5, r7, r8⟩
      by_cases hc : i < ls.length ∧ i < 6
      · obtain ⟨hc1, hc2⟩ := hc
        have d1 : decide ((i : Int) < (ls.length : Int)) = true := decide_eq_true (by omega)
        have d2 : decide ((i : Int) < 6) = true := decide_eq_true (by omega)
        have w1 : IntKind.i64.wrap ((i : Int) + 1) = ((i + 1 : Nat) : Int) := by rw [wrap64 _ (by omega)]; omega
        obtain ⟨p, hp⟩ : ∃ p, ls[i] = p := ⟨_, rfl⟩
        have hpl2 := hls _ (List.getElem_mem hc1)
        rw [hp] at hpl2
        have m40 : (if (40 : Int) < (p.length : Int) then (40 : Int) else (p.length : Int)) = ((min p.length 40 : Nat) : Int) := by split <;> omega
        simp -implicitDefEqProofs only [go_sem, ↓reduceIte, Nat.reduceLT, Nat.reduceEqDiff, Nat.reduceAdd, Nat.reduceLeDiff, Nat.reduceMul, Nat.reduceSub, Int.natCast_zero, Int.ofNat_zero, Int.natCast_one, Int.cast_ofNat_Int, bne_self_eq_false, beq_self_eq_true, Int.reduceBEq, Int.reduceBNe, Bool.not_true, Bool.not_false, r0, r1, r5, r7, r8, List.length_map, d1, d2]
        refine .calls noHeap [0, 1, 2, 3, 4, 5, 6, 7, 8, 9, 10, 11, 12, 13, 14, 15] (fun _ _ h => by cases h) (by kernel_rfl) rfl ?_
        simp -implicitDefEqProofs only [go_sem, ↓reduceIte, Nat.reduceLT, Nat.reduceEqDiff, Nat.reduceAdd, Nat.reduceLeDiff, Nat.reduceMul, Nat.reduceSub, Int.natCast_zero, Int.ofNat_zero, Int.natCast_one, Int.cast_ofNat_Int, bne_self_eq_false, beq_self_eq_true, Int.reduceBEq, Int.reduceBNe, Bool.not_true, Bool.not_false, r0, r1, r5, r7, r8, List.length_map, w8]
        refine .at i (by simpa using hc1) (by rw [get_map]; rfl) ?_
        simp -implicitDefEqProofs only [go_sem, ↓reduceIte, Nat.reduceLT, Nat.reduceEqDiff, Nat.reduceAdd, Nat.reduceLeDiff, Nat.reduceMul, Nat.reduceSub, Int.natCast_zero, Int.ofNat_zero, Int.natCast_one, Int.cast_ofNat_Int, bne_self_eq_false, beq_self_eq_true, Int.reduceBEq, Int.reduceBNe, Bool.not_true, Bool.not_false, r0, r1, r5, r7, r8, get_map, hp, rowA]
        refine .at i (by simpa using hc1) (by rw [get_map]; rfl) ?_
        simp -implicitDefEqProofs only [go_sem, ↓reduceIte, Nat.reduceLT, Nat.reduceEqDiff, Nat.reduceAdd, Nat.reduceLeDiff, Nat.reduceMul, Nat.reduceSub, Int.natCast_zero, Int.ofNat_zero, Int.natCast_one, Int.cast_ofNat_Int, bne_self_eq_false, beq_self_eq_true, Int.reduceBEq, Int.reduceBNe, Bool.not_true, Bool.not_false, r0, r1, r5, r7, r8, get_map, hp, rowA, m40]
        have htk : (p.take (min p.length 40)).length ≤ 40 := by rw [List.length_take]; omega
        refine ⟨by omega, by omega, by omega, .acc fun z g1 hz hk => ?_⟩
        obtain ⟨P, hP⟩ : ∃ P, UInt8.ofNat i :: p.take (min p.length 40) = P := ⟨_, rfl⟩
        have hPl : 1 ≤ P.length ∧ P.length ≤ 41 := by rw [← hP]; simp only [List.length_cons]; omega
        have hz' : Acc U 5 g g1 z (P.map byteA) := by rw [← hP]; exact hz
        clear hz
        obtain ⟨qz, rfl⟩ := hz'.row
        have hs1 := hz'.1
        refine ⟨fun _ _ h => (by cases h), ?_⟩
        simp -implicitDefEqProofs only [go_sem, ↓reduceIte, Nat.reduceLT, Nat.reduceEqDiff, Nat.reduceAdd, Nat.reduceLeDiff, Nat.reduceMul, Nat.reduceSub, Int.natCast_zero, Int.ofNat_zero, Int.natCast_one, Int.cast_ofNat_Int, bne_self_eq_false, beq_self_eq_true, Int.reduceBEq, Int.reduceBNe, Bool.not_true, Bool.not_false, r0, r1, r5, r7, r8]
        refine (hg.sub hs1).app (v := .sl [.sl (P.map byteA) qz] .full) (zs := [.sl (P.map byteA) qz]) (fun k hk => hk) (hrs h).sized (by simp [Sized, AV.cells]) (by have := (hrs h).1; simp; omega) fun w2 g2 sp2 hg2 ht2 _ => ?_
        have hd2 := (hd.keep hs1.keepObj).keep ((hg.sub hs1).keepObj ht2)
        simp -implicitDefEqProofs only [go_sem, ↓reduceIte, Nat.reduceLT, Nat.reduceEqDiff, Nat.reduceAdd, Nat.reduceLeDiff, Nat.reduceMul, Nat.reduceSub, Int.natCast_zero, Int.ofNat_zero, Int.natCast_one, Int.cast_ofNat_Int, bne_self_eq_false, beq_self_eq_true, Int.reduceBEq, Int.reduceBNe, Bool.not_true, Bool.not_false, r0, r1, r5, r7, r8]
        refine (frame_ok _ P g2 (.sl _ _) (by omega)).sthen fun g3 hs3 => ?_
        simp -implicitDefEqProofs only [go_sem, ↓reduceIte, Nat.reduceLT, Nat.reduceEqDiff, Nat.reduceAdd, Nat.reduceLeDiff, Nat.reduceMul, Nat.reduceSub, Int.natCast_zero, Int.ofNat_zero, Int.natCast_one, Int.cast_ofNat_Int, bne_self_eq_false, beq_self_eq_true, Int.reduceBEq, Int.reduceBNe, Bool.not_true, Bool.not_false, r0, r1, r5, r7, r8]
        have hPf := frame_length P
        have ok3 : D.ok ⟨4000, frames ps, 0, 0, false⟩ := ⟨by show (frames ps).length ≤ 4000; omega, by show 4000 ≤ 1048576; decide, by show 0 ≤ _; omega, by show 0 < _; decide⟩
        refine dthen (append_ok _ ok3 id g3 _ (frame P) (hd2.keep hs3.keepObj) (.sl _ _) (by omega)) fun g4 hd4 kp4 => ?_
        rw [D.append0 rfl rfl (by show (frames ps).length + (frame P).length ≤ 4000; omega)] at hd4 ⊢
        simp -implicitDefEqProofs only [go_sem, ↓reduceIte, Nat.reduceLT, Nat.reduceEqDiff, Nat.reduceAdd, Nat.reduceLeDiff, Nat.reduceMul, Nat.reduceSub, Int.natCast_zero, Int.ofNat_zero, Int.natCast_one, Int.cast_ofNat_Int, bne_self_eq_false, beq_self_eq_true, Int.reduceBEq, Int.reduceBNe, Bool.not_true, Bool.not_false, r0, r1, r5, r7, r8, w1]
        refine ⟨_, ?_, i + 1, w2, xs ++ [.sl (P.map byteA) qz], sp2, ps ++ [P], by rw [frames_snoc]; exact hd4, (hg2.sub hs3).keepD (hd2.keep hs3.keepObj) kp4, fun g => rows_snoc (hrs g) (.sl _ _), ?_, by simp; omega, by rw [frames_snoc, List.length_append]; omega, by omega, by omega, rfl, ?_, ?_, ?_, ?_, ?_⟩
        · omega
        · intro q hq
          rcases List.mem_append.1 hq with h1 | h1
          · exact hps q h1
          · rw [List.mem_singleton.1 h1]; exact hPl
        all_goals simp -implicitDefEqProofs only [go_sem, ↓reduceIte, Nat.reduceLT, Nat.reduceEqDiff, Nat.reduceAdd, Nat.reduceLeDiff, Nat.reduceMul, Nat.reduceSub, Int.natCast_zero, Int.ofNat_zero, Int.natCast_one, Int.cast_ofNat_Int, bne_self_eq_false, beq_self_eq_true, Int.reduceBEq, Int.reduceBNe, Bool.not_true, Bool.not_false, r0, r1, r5, r7, r8, w1]
      · have exit : (decide ((i : Int) < (ls.length : Int)) = false) ∨ (decide ((i : Int) < (ls.length : Int)) = true ∧ decide ((i : Int) < 6) = false) := by
          by_cases h1 : i < ls.length
          · exact .inr ⟨decide_eq_true (by omega), decide_eq_false (by omega)⟩
          · exact .inl (decide_eq_false (by omega))
        rcases exit with d1 | ⟨d1, d2⟩
        · simp -implicitDefEqProofs only [go_sem, ↓reduceIte, Nat.reduceLT, Nat.reduceEqDiff, Nat.reduceAdd, Nat.reduceLeDiff, Nat.reduceMul, Nat.reduceSub, Int.natCast_zero, Int.ofNat_zero, Int.natCast_one, Int.cast_ofNat_Int, bne_self_eq_false, beq_self_eq_true, Int.reduceBEq, Int.reduceBNe, Bool.not_true, Bool.not_false, r0, r1, r5, r7, r8, List.length_map, d1]
          refine ⟨w, xs, sp, ps, hd, hg, hrs, hps, by omega, by omega, ?_, ?_, ?_⟩ <;> simp -implicitDefEqProofs only [go_sem, ↓reduceIte, Nat.reduceLT, Nat.reduceEqDiff, Nat.reduceAdd, Nat.reduceLeDiff, Nat.reduceMul, Nat.reduceSub, Int.natCast_zero, Int.ofNat_zero, Int.natCast_one, Int.cast_ofNat_Int, bne_self_eq_false, beq_self_eq_true, Int.reduceBEq, Int.reduceBNe, Bool.not_true, Bool.not_false, r0, r5, r7]
        · simp -implicitDefEqProofs only [go_sem, ↓reduceIte, Nat.reduceLT, Nat.reduceEqDiff, Nat.reduceAdd, Nat.reduceLeDiff, Nat.reduceMul, Nat.reduceSub, Int.natCast_zero, Int.ofNat_zero, Int.natCast_one, Int.cast_ofNat_Int, bne_self_eq_false, beq_self_eq_true, Int.reduceBEq, Int.reduceBNe, Bool.not_true, Bool.not_false, r0, r1, r5, r7, r8, List.length_map, d1, d2]
          refine ⟨w, xs, sp, ps, hd, hg, hrs, hps, by omega, by omega, ?_, ?_, ?_⟩ <;> simp -implicitDefEqProofs only [go_sem, ↓reduceIte, Nat.reduceLT, Nat.reduceEqDiff, Nat.reduceAdd, Nat.reduceLeDiff, Nat.reduceMul, Nat.reduceSub, Int.natCast_zero, Int.ofNat_zero, Int.natCast_one, Int.cast_ofNat_Int, bne_self_eq_false, beq_self_eq_true, Int.reduceBEq, Int.reduceBNe, Bool.not_true, Bool.not_false, r0, r5, r7]
  rintro ρ g1 ⟨w, xs, sp, ps, hd, hg, hrs, hps, hpl, hfl, r0, r5, r7⟩
  obtain ⟨B, hB⟩ : ∃ B, b.take (min b.length 7) = B := ⟨_, rfl⟩
  have hBl : B.length < 8 := by rw [← hB, List.length_take]; omega
  have ok1 : D.ok ⟨4000, frames ps, 0, 0, false⟩ := ⟨by show (frames ps).length ≤ 4000; omega, by show 4000 ≤ 1048576; decide, by show 0 ≤ _; omega, by show 0 < _; decide⟩
  have m7 : (if (7 : Int) < (b.length : Int) then (7 : Int) else (b.length : Int)) = ((min b.length 7 : Nat) : Int) := by split <;> omega
  have hps2 : ∀ p ∈ ps, 1 ≤ p.length ∧ p.length ≤ 8192 := fun p hp => ⟨(hps p hp).1, by have := (hps p hp).2; omega⟩
  have hps3 : ∀ p ∈ ps, p.length ≤ 1000000 := fun p hp => by have := (hps p hp).2; omega
  refine .one hU hm ?_
  simp -implicitDefEqProofs only [go_sem, ↓reduceIte, Nat.reduceLT, Nat.reduceEqDiff, Nat.reduceAdd, Nat.reduceLeDiff, Nat.reduceMul, Nat.reduceSub, Int.natCast_zero, Int.ofNat_zero, Int.natCast_one, Int.cast_ofNat_Int, bne_self_eq_false, beq_self_eq_true, Int.reduceBEq, Int.reduceBNe, Bool.not_true, Bool.not_false, r0, r5, r7, List.length_map, m7, hB]
  refine ⟨by omega, by omega, ?_⟩
  refine .one hU hm ?_
  simp -implicitDefEqProofs only [go_sem, ↓reduceIte, Nat.reduceLT, Nat.reduceEqDiff, Nat.reduceAdd, Nat.reduceLeDiff, Nat.reduceMul, Nat.reduceSub, Int.natCast_zero, Int.ofNat_zero, Int.natCast_one, Int.cast_ofNat_Int, bne_self_eq_false, beq_self_eq_true, Int.reduceBEq, Int.reduceBNe, Bool.not_true, Bool.not_false, r0, r5, r7]
  refine dthen (append_ok _ ok1 id g1 _ B hd (.sl _ _) (by omega)) fun g2 hd2 kp2 => ?_
  rw [D.append0 rfl rfl (by show (frames ps).length + B.length ≤ 4000; omega)] at hd2 ⊢
  have hg2 := hg.keepD hd kp2
  simp -implicitDefEqProofs only [go_sem, ↓reduceIte, Nat.reduceLT, Nat.reduceEqDiff, Nat.reduceAdd, Nat.reduceLeDiff, Nat.reduceMul, Nat.reduceSub, Int.natCast_zero, Int.ofNat_zero, Int.natCast_one, Int.cast_ofNat_Int, bne_self_eq_false, beq_self_eq_true, Int.reduceBEq, Int.reduceBNe, Bool.not_true, Bool.not_false, r0, r5, r7]
  refine .one hU hm ?_
  simp -implicitDefEqProofs only [go_sem, ↓reduceIte, Nat.reduceLT, Nat.reduceEqDiff, Nat.reduceAdd, Nat.reduceLeDiff, Nat.reduceMul, Nat.reduceSub, Int.natCast_zero, Int.ofNat_zero, Int.natCast_one, Int.cast_ofNat_Int, bne_self_eq_false, beq_self_eq_true, Int.reduceBEq, Int.reduceBNe, Bool.not_true, Bool.not_false, r0, r5, r7]
  have ok2 : D.ok ⟨4000, frames ps ++ B, 0, 0, false⟩ := ⟨by show (frames ps ++ B).length ≤ 4000; rw [List.length_append]; omega, by show 4000 ≤ 1048576; decide, by show 0 ≤ _; omega, by show 0 < _; decide⟩
  have hO1 := D.openD0 ok2 rfl rfl
  have hsc := scan_tail ps B hps2 hBl
  refine (open_ok _ ok2 id g2 hd2).mono fun r g3 ⟨J, e1, hd3, kp3, hJ⟩ => ?_
  rw [hO1] at e1 hd3 hJ
  simp only [hsc, List.take_left, if_true] at e1 hd3 hJ
  obtain ⟨jid, sp2, rfl, hjn, hj3, hsp2⟩ := hJ
  subst e1
  have hg3 := hg2.keepD hd2 kp3
  obtain ⟨qw, rfl⟩ := hg3.row
  simp -implicitDefEqProofs only [go_sem, ↓reduceIte, Nat.reduceLT, Nat.reduceEqDiff, Nat.reduceAdd, Nat.reduceLeDiff, Nat.reduceMul, Nat.reduceSub, Int.natCast_zero, Int.ofNat_zero, Int.natCast_one, Int.cast_ofNat_Int, bne_self_eq_false, beq_self_eq_true, Int.reduceBEq, Int.reduceBNe, Bool.not_true, Bool.not_false, r0, r5, r7]
  refine .one hU hm ?_
  simp -implicitDefEqProofs only [go_sem, ↓reduceIte, Nat.reduceLT, Nat.reduceEqDiff, Nat.reduceAdd, Nat.reduceLeDiff, Nat.reduceMul, Nat.reduceSub, Int.natCast_zero, Int.ofNat_zero, Int.natCast_one, Int.cast_ofNat_Int, bne_self_eq_false, beq_self_eq_true, Int.reduceBEq, Int.reduceBNe, Bool.not_true, Bool.not_false, r0, r5, r7]
  refine (records_ok jid id ps false sp2 g3 hj3 (by omega) hps3).mono fun r g4 ⟨q4, e1, hs4⟩ => ?_
  subst e1
  simp -implicitDefEqProofs only [go_sem, ↓reduceIte, Nat.reduceLT, Nat.reduceEqDiff, Nat.reduceAdd, Nat.reduceLeDiff, Nat.reduceMul, Nat.reduceSub, Int.natCast_zero, Int.ofNat_zero, Int.natCast_one, Int.cast_ofNat_Int, bne_self_eq_false, beq_self_eq_true, Int.reduceBEq, Int.reduceBNe, Bool.not_true, Bool.not_false, r0, r5, r7]
  refine (rows_ok (.sl [] .no) (.sl [] .no) _ _ q4 qw ps ps g4 (rows_of _ g4) (hrs g4) (by omega) hps3).pthen ?_
  rw [decide_eq_true rfl]
  simp -implicitDefEqProofs only [go_sem, ↓reduceIte, Nat.reduceLT, Nat.reduceEqDiff, Nat.reduceAdd, Nat.reduceLeDiff, Nat.reduceMul, Nat.reduceSub, Int.natCast_zero, Int.ofNat_zero, Int.natCast_one, Int.cast_ofNat_Int, bne_self_eq_false, beq_self_eq_true, Int.reduceBEq, Int.reduceBNe, Bool.not_true, Bool.not_false, r0, r5, r7]
  refine .one hU hm ?_
  simp -implicitDefEqProofs only [go_sem, ↓reduceIte, Nat.reduceLT, Nat.reduceEqDiff, Nat.reduceAdd, Nat.reduceLeDiff, Nat.reduceMul, Nat.reduceSub, Int.natCast_zero, Int.ofNat_zero, Int.natCast_one, Int.cast_ofNat_Int, bne_self_eq_false, beq_self_eq_true, Int.reduceBEq, Int.reduceBNe, Bool.not_true, Bool.not_false, r0, r5, r7]
  refine .cut (fun ρ g => g = g4 ∧ lk ρ 5 = some (.ptr id 0) ∧ lk ρ 7 = some (.sl xs qw) ∧ lk ρ 12 = some (.v (.int .i64 (frames ps).length))) (.vc hU hm ?_) ?_
  · have hxl := (hrs g4).1
    simp -implicitDefEqProofs only [go_sem, ↓reduceIte, Nat.reduceLT, Nat.reduceEqDiff, Nat.reduceAdd, Nat.reduceLeDiff, Nat.reduceMul, Nat.reduceSub, Int.natCast_zero, Int.ofNat_zero, Int.natCast_one, Int.cast_ofNat_Int, bne_self_eq_false, beq_self_eq_true, Int.reduceBEq, Int.reduceBNe, Bool.not_true, Bool.not_false, r5, r7]
    refine .intro (fun m ρ g => g = g4 ∧ ∃ (i : Nat), i ≤ ps.length ∧ m = ps.length - i ∧ lk ρ 5 = some (.ptr id 0) ∧ lk ρ 7 = some (.sl xs qw) ∧ lk ρ 90 = some (.sl xs qw) ∧ lk ρ 91 = some (.v (.int .i64 xs.length)) ∧ lk ρ 92 = some (.v (.int .i64 i)) ∧ lk ρ 12 = some (.v (.int .i64 (frames (ps.take i)).length))) (ps.length - 0) ?_ ?_
    · refine ⟨rfl, 0, by omega, rfl, ?_, ?_, ?_, ?_, ?_, ?_⟩ <;> simp -implicitDefEqProofs only [go_sem, ↓reduceIte, Nat.reduceLT, Nat.reduceEqDiff, Nat.reduceAdd, Nat.reduceLeDiff, Nat.reduceMul, Nat.reduceSub, Int.natCast_zero, Int.ofNat_zero, Int.natCast_one, Int.cast_ofNat_Int, bne_self_eq_false, beq_self_eq_true, Int.reduceBEq, Int.reduceBNe, Bool.not_true, Bool.not_false, r5, r7]
      simp [frames]
    · rintro m ρ g ⟨rfl, i, hi, rfl, r5, r7, r90, r91, r92, r12⟩
      by_cases hc : i < ps.length
      · have d1 : decide ((i : Int) < (xs.length : Int)) = true := decide_eq_true (by omega)
        have w1 : IntKind.i64.wrap ((i : Int) + 1) = ((i + 1 : Nat) : Int) := by rw [wrap64 _ (by omega)]; omega
        have hx := (hrs g).2 i (by omega) hc
        have hpp := hps _ (List.getElem_mem hc)
        have hfs : (frames (ps.take (i + 1))).length = (frames (ps.take i)).length + 8 + ps[i].length := by
          rw [List.take_succ_eq_append_getElem hc, frames_snoc, List.length_append, frame_length]; omega
        have hle : (frames (ps.take i)).length ≤ (frames ps).length := by
          have : frames ps = frames (ps.take i) ++ frames (ps.drop i) := by rw [frames, frames, frames, ← List.flatten_append, ← List.map_append, List.take_append_drop]
          rw [this, List.length_append]; omega
        have w2 : IntKind.i64.wrap (((frames (ps.take i)).length : Int) + 8) = (((frames (ps.take i)).length + 8 : Nat) : Int) := by rw [wrap64 _ (by omega)]; omega
        have w3 : IntKind.i64.wrap ((((frames (ps.take i)).length + 8 : Nat) : Int) + (ps[i].length : Int)) = (((frames (ps.take i)).length + 8 + ps[i].length : Nat) : Int) := by rw [wrap64 _ (by omega)]; omega
        simp -implicitDefEqProofs only [go_sem, ↓reduceIte, Nat.reduceLT, Nat.reduceEqDiff, Nat.reduceAdd, Nat.reduceLeDiff, Nat.reduceMul, Nat.reduceSub, Int.natCast_zero, Int.ofNat_zero, Int.natCast_one, Int.cast_ofNat_Int, bne_self_eq_false, beq_self_eq_true, Int.reduceBEq, Int.reduceBNe, Bool.not_true, Bool.not_false, r5, r7, r90, r91, r92, r12, d1]
        refine .at i (by omega) (by rw [hx.cells]; rfl) ?_
        simp -implicitDefEqProofs only [go_sem, ↓reduceIte, Nat.reduceLT, Nat.reduceEqDiff, Nat.reduceAdd, Nat.reduceLeDiff, Nat.reduceMul, Nat.reduceSub, Int.natCast_zero, Int.ofNat_zero, Int.natCast_one, Int.cast_ofNat_Int, bne_self_eq_false, beq_self_eq_true, Int.reduceBEq, Int.reduceBNe, Bool.not_true, Bool.not_false, r5, r7, r90, r91, r92, r12, hx.cells, hx.noAgg, and_self, hx.len, w1, w2, w3]
        refine ⟨_, ?_, rfl, i + 1, by omega, rfl, ?_, ?_, ?_, ?_, ?_, ?_⟩
        rotate_left 6
        · simp -implicitDefEqProofs only [go_sem, ↓reduceIte, Nat.reduceLT, Nat.reduceEqDiff, Nat.reduceAdd, Nat.reduceLeDiff, Nat.reduceMul, Nat.reduceSub, Int.natCast_zero, Int.ofNat_zero, Int.natCast_one, Int.cast_ofNat_Int, bne_self_eq_false, beq_self_eq_true, Int.reduceBEq, Int.reduceBNe, Bool.not_true, Bool.not_false, r12]
          rw [hfs]
        · omega
        all_goals simp -implicitDefEqProofs only [go_sem, ↓reduceIte, Nat.reduceLT, Nat.reduceEqDiff, Nat.reduceAdd, Nat.reduceLeDiff, Nat.reduceMul, Nat.reduceSub, Int.natCast_zero, Int.ofNat_zero, Int.natCast_one, Int.cast_ofNat_Int, bne_self_eq_false, beq_self_eq_true, Int.reduceBEq, Int.reduceBNe, Bool.not_true, Bool.not_false, r5, r7, r90, r91, r92, r12, w1]
      · obtain rfl : i = ps.length := by omega
        have d1 : decide ((ps.length : Int) < (xs.length : Int)) = false := decide_eq_false (by omega)
        rw [List.take_length] at r12
        simp -implicitDefEqProofs only [go_sem, ↓reduceIte, Nat.reduceLT, Nat.reduceEqDiff, Nat.reduceAdd, Nat.reduceLeDiff, Nat.reduceMul, Nat.reduceSub, Int.natCast_zero, Int.ofNat_zero, Int.natCast_one, Int.cast_ofNat_Int, bne_self_eq_false, beq_self_eq_true, Int.reduceBEq, Int.reduceBNe, Bool.not_true, Bool.not_false, r5, r7, r90, r91, r92, r12, d1]
        refine ⟨rfl, ?_, ?_, ?_⟩ <;> simp -implicitDefEqProofs only [go_sem, ↓reduceIte, Nat.reduceLT, Nat.reduceEqDiff, Nat.reduceAdd, Nat.reduceLeDiff, Nat.reduceMul, Nat.reduceSub, Int.natCast_zero, Int.ofNat_zero, Int.natCast_one, Int.cast_ofNat_Int, bne_self_eq_false, beq_self_eq_true, Int.reduceBEq, Int.reduceBNe, Bool.not_true, Bool.not_false, r5, r7, r12]
  rintro ρ g ⟨rfl, r5, r7, r12⟩
  have hd4 := hd3.keep hs4.keepObj
  have ok4 : D.ok ⟨4000, frames ps, (frames ps).length, 0, false⟩ := ⟨by show (frames ps).length ≤ 4000; omega, by show 4000 ≤ 1048576; decide, by show (frames ps).length ≤ (frames ps).length; omega, by show 0 < _; decide⟩
  have hO2 := D.openD0 ok4 rfl rfl
  have hsc2 := scan_tail ps [] hps2 (by decide)
  rw [List.append_nil] at hsc2
  refine .one hU hm ?_
  simp -implicitDefEqProofs only [go_sem, ↓reduceIte, Nat.reduceLT, Nat.reduceEqDiff, Nat.reduceAdd, Nat.reduceLeDiff, Nat.reduceMul, Nat.reduceSub, Int.natCast_zero, Int.ofNat_zero, Int.natCast_one, Int.cast_ofNat_Int, bne_self_eq_false, beq_self_eq_true, Int.reduceBEq, Int.reduceBNe, Bool.not_true, Bool.not_false, r5, r7, r12]
  refine (open_ok _ ok4 id g hd4).mono fun r g5 ⟨J, e1, hd5, kp5, hJ⟩ => ?_
  rw [hO2] at e1 hd5 hJ
  simp only [hsc2, List.take_length, if_true] at e1 hd5 hJ
  obtain ⟨jid5, sp5, rfl, hjn5, hj5, hsp5⟩ := hJ
  subst e1
  simp -implicitDefEqProofs only [go_sem, ↓reduceIte, Nat.reduceLT, Nat.reduceEqDiff, Nat.reduceAdd, Nat.reduceLeDiff, Nat.reduceMul, Nat.reduceSub, Int.natCast_zero, Int.ofNat_zero, Int.natCast_one, Int.cast_ofNat_Int, bne_self_eq_false, beq_self_eq_true, Int.reduceBEq, Int.reduceBNe, Bool.not_true, Bool.not_false, r5, r7, r12]
  refine .one hU hm ?_
  simp -implicitDefEqProofs only [go_sem, ↓reduceIte, Nat.reduceLT, Nat.reduceEqDiff, Nat.reduceAdd, Nat.reduceLeDiff, Nat.reduceMul, Nat.reduceSub, Int.natCast_zero, Int.ofNat_zero, Int.natCast_one, Int.cast_ofNat_Int, bne_self_eq_false, beq_self_eq_true, Int.reduceBEq, Int.reduceBNe, Bool.not_true, Bool.not_false, r5, r7, r12]
  refine (open_nil g5).pthen ?_
  simp -implicitDefEqProofs only [go_sem, ↓reduceIte, Nat.reduceLT, Nat.reduceEqDiff, Nat.reduceAdd, Nat.reduceLeDiff, Nat.reduceMul, Nat.reduceSub, Int.natCast_zero, Int.ofNat_zero, Int.natCast_one, Int.cast_ofNat_Int, bne_self_eq_false, beq_self_eq_true, Int.reduceBEq, Int.reduceBNe, Bool.not_true, Bool.not_false, r5, r7, r12]
  refine .vc hU hm ?_
  simp -implicitDefEqProofs only [go_sem, ↓reduceIte, Nat.reduceLT, Nat.reduceEqDiff, Nat.reduceAdd, Nat.reduceLeDiff, Nat.reduceMul, Nat.reduceSub, Int.natCast_zero, Int.ofNat_zero, Int.natCast_one, Int.cast_ofNat_Int, bne_self_eq_false, beq_self_eq_true, Int.reduceBEq, Int.reduceBNe, Bool.not_true, Bool.not_false, r5, r7, r12]
  refine (len_ok' _ id g5 hd5).pthen ?_
  simp -implicitDefEqProofs only [go_sem, ↓reduceIte, Nat.reduceLT, Nat.reduceEqDiff, Nat.reduceAdd, Nat.reduceLeDiff, Nat.reduceMul, Nat.reduceSub, Int.natCast_zero, Int.ofNat_zero, Int.natCast_one, Int.cast_ofNat_Int, bne_self_eq_false, beq_self_eq_true, Int.reduceBEq, Int.reduceBNe, Bool.not_true, Bool.not_false, r5, r7, r12]
  refine (records_ok jid5 id ps false sp5 g5 hj5 (by omega) hps3).mono fun r g6 ⟨q6, e1, hs6⟩ => ?_
  subst e1
  simp -implicitDefEqProofs only [go_sem, ↓reduceIte, Nat.reduceLT, Nat.reduceEqDiff, Nat.reduceAdd, Nat.reduceLeDiff, Nat.reduceMul, Nat.reduceSub, Int.natCast_zero, Int.ofNat_zero, Int.natCast_one, Int.cast_ofNat_Int, bne_self_eq_false, beq_self_eq_true, Int.reduceBEq, Int.reduceBNe, Bool.not_true, Bool.not_false, r5, r7, r12]
  refine (rows_ok (.sl [] .no) (.sl [] .no) _ _ q6 qw ps ps g6 (rows_of _ g6) (hrs g6) (by omega) hps3).pthen ?_
  rw [decide_eq_true rfl]
  simp -implicitDefEqProofs only [go_sem, ↓reduceIte, Nat.reduceLT, Nat.reduceEqDiff, Nat.reduceAdd, Nat.reduceLeDiff, Nat.reduceMul, Nat.reduceSub, Int.natCast_zero, Int.ofNat_zero, Int.natCast_one, Int.cast_ofNat_Int, bne_self_eq_false, beq_self_eq_true, Int.reduceBEq, Int.reduceBNe, Bool.not_true, Bool.not_false, r5, r7, r12]
  refine (journalRuns_ok g6).sthen fun g7 _ => ?_
  simp -implicitDefEqProofs only [go_sem, ↓reduceIte, Nat.reduceLT, Nat.reduceEqDiff, Nat.reduceAdd, Nat.reduceLeDiff, Nat.reduceMul, Nat.reduceSub, Int.natCast_zero, Int.ofNat_zero, Int.natCast_one, Int.cast_ofNat_Int, bne_self_eq_false, beq_self_eq_true, Int.reduceBEq, Int.reduceBNe, Bool.not_true, Bool.not_false, r5, r7, r12]
  exact .same (.refl _) rfl

theorem journalOpens_law (x0 x1 : AV) (d0 : Dat U 27 x0) (d1 : Dat U 38 x1) : FnOK Try.prog 11 [x0, x1] noHeap fun r _ => r = .v (.bool true) := by
  obtain ⟨b, rfl, h0⟩ := d0.bytes rfl rfl
  obtain ⟨ls, rfl, h1, h2⟩ := d1.list (f := rowA) (p := fun l => l.length ≤ maxLen) rfl fun y hy => hy.bytes rfl rfl
  exact journalOpens_ok b ls h1 h0 h2 noHeap
end Go.Proofs.Ytidpcjblciompaa
