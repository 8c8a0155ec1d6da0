/- The journal: Add. -/
import Derived.Test.YtidpcjblciompaaC25
set_option linter.unusedSimpArgs false
set_option linter.unusedVariables false
namespace Go.Proofs.Ytidpcjblciompaa
open Go Go.Ab

/-- What Add comes to: the disk, the records, is it down; the answer. -/
def jadd (d : D) (ps : List (List UInt8)) (down : Bool) (p : List UInt8) : (D × List (List UInt8) × Bool) × Nat :=
  if down = true then ((d, ps, true), 9) else if p.length = 0 ∨ 8192 < p.length then ((d, ps, false), 1) else
    if (d.append (frame p)).2 = 8 then (((d.append (frame p)).1, ps, false), 8) else
      if (if (d.append (frame p)).2 = 0 then (d.append (frame p)).1.sync else d.append (frame p)).2 = 0 then
        (((if (d.append (frame p)).2 = 0 then (d.append (frame p)).1.sync else d.append (frame p)).1, ps ++ [p], false), 0)
      else (((if (d.append (frame p)).2 = 0 then (d.append (frame p)).1.sync else d.append (frame p)).1, ps, true), 9)
theorem D.append_code (d : D) (b : List UInt8) : (d.append b).2 = 0 ∨ (d.append b).2 = 8 ∨ (d.append b).2 = 9 := by
  unfold D.append
  split
  · simp
  · split
    · simp
    · simp only
      split <;> simp
theorem D.sync_code (d : D) : d.sync.2 = 0 ∨ d.sync.2 = 9 := by
  unfold D.sync
  split
  · simp
  · split <;> simp
theorem jadd_ok {d : D} (hd : d.ok) (ps : List (List UInt8)) (down : Bool) (p : List UInt8) : (jadd d ps down p).1.1.ok := by
  have h1 := D.append_ok hd (frame p)
  have h2 : (if (d.append (frame p)).2 = 0 then (d.append (frame p)).1.sync else d.append (frame p)).1.ok := by
    split
    · exact D.sync_ok h1
    · exact h1
  unfold jadd
  generalize (if (d.append (frame p)).2 = 0 then (d.append (frame p)).1.sync else d.append (frame p)) = s at h2
  by_cases c1 : down = true
  · rw [if_pos c1]; exact hd
  · rw [if_neg c1]
    by_cases c2 : p.length = 0 ∨ 8192 < p.length
    · rw [if_pos c2]; exact hd
    · rw [if_neg c2]
      by_cases c3 : (d.append (frame p)).2 = 8
      · rw [if_pos c3]; exact h1
      · rw [if_neg c3]
        by_cases c4 : s.2 = 0
        · rw [if_pos c4]; exact h2
        · rw [if_neg c4]; exact h2

theorem add_ok (d : D) (hd : d.ok) (id jid : Nat) (ps : List (List UInt8)) (down : Bool) (sp : List Nat) (h : Heap) (x : AV) (p : List UInt8) (hdk : DiskAt h id d) (hj : JAt h 84 jid id ps down sp) (hx : By h x p) (hp : p.length ≤ 1000000) (hps : ps.length ≤ 1000000) :
    FnOK Try.prog 41 [.ptr jid 0, x] h fun r h' => r = .v (.int .i64 ((jadd d ps down p).2 : Nat)) ∧ ∃ sp', DiskAt h' id (jadd d ps down p).1.1 ∧ JAt h' 84 jid id (jadd d ps down p).1.2.1 (jadd d ps down p).1.2.2 sp' ∧
      Touch (id :: jid :: sp) h h' ∧ ∀ i ∈ sp', i ∈ sp ∨ h i = none := by
  obtain ⟨y, xs, hjid, hg, hrs⟩ := hj
  have hne : jid ≠ id := fun e => by
    obtain ⟨z, hz, _⟩ := hdk
    rw [← e, hjid] at hz
    simp only [Option.some.injEq, Blk.obj.injEq] at hz
    exact absurd hz.2 (by decide)
  refine FnOK.of_wp hU Try.func41 rfl (by kernel_rfl) 51 rfl [.tmp 4] rfl (Nat.le_of_ble_eq_true rfl) ?_
  refine .one hU hm ?_
  simp -implicitDefEqProofs only [go_sem, ↓reduceIte, Nat.reduceLT, Nat.reduceEqDiff, Nat.reduceAdd, Nat.reduceLeDiff, Nat.reduceMul, Nat.reduceSub, Int.natCast_zero, Int.ofNat_zero, Int.natCast_one, Int.cast_ofNat_Int, bne_self_eq_false, beq_self_eq_true, Int.reduceBEq, Int.reduceBNe, Bool.not_true, Bool.not_false]
  show WP _ _ _ _ _ _
  refine .one hU hm ?_
  cases down with
  | true =>
    have hJ : jadd d ps true p = ((d, ps, true), 9) := by simp [jadd]
    simp -implicitDefEqProofs only [go_sem, ↓reduceIte, Nat.reduceLT, Nat.reduceEqDiff, Nat.reduceAdd, Nat.reduceLeDiff, Nat.reduceMul, Nat.reduceSub, Int.natCast_zero, Int.ofNat_zero, Int.natCast_one, Int.cast_ofNat_Int, bne_self_eq_false, beq_self_eq_true, Int.reduceBEq, Int.reduceBNe, Bool.not_true, Bool.not_false, hjid]
    refine .same (.refl _) ?_
    rw [hJ]
    exact ⟨rfl, sp, hdk, ⟨y, xs, hjid, hg, hrs⟩, .refl _ _, fun i hi => .inl hi⟩
  | false =>
    simp -implicitDefEqProofs only [go_sem, ↓reduceIte, Nat.reduceLT, Nat.reduceEqDiff, Nat.reduceAdd, Nat.reduceLeDiff, Nat.reduceMul, Nat.reduceSub, Int.natCast_zero, Int.ofNat_zero, Int.natCast_one, Int.cast_ofNat_Int, bne_self_eq_false, beq_self_eq_true, Int.reduceBEq, Int.reduceBNe, Bool.not_true, Bool.not_false, hjid]
    show WP _ _ _ _ _ _
    refine .one hU hm ?_
    have bad : (p.length = 0 ∨ 8192 < p.length) → RetOK [.v (.int .i64 1)] h fun r h' => r = .v (.int .i64 ((jadd d ps false p).2 : Nat)) ∧ ∃ sp', DiskAt h' id (jadd d ps false p).1.1 ∧ JAt h' 84 jid id (jadd d ps false p).1.2.1 (jadd d ps false p).1.2.2 sp' ∧
        Touch (id :: jid :: sp) h h' ∧ ∀ i ∈ sp', i ∈ sp ∨ h i = none := fun hb => by
      have hJ : jadd d ps false p = ((d, ps, false), 1) := by unfold jadd; rw [if_neg (by simp), if_pos hb]
      refine .same (.refl _) ?_
      rw [hJ]
      exact ⟨rfl, sp, hdk, ⟨y, xs, hjid, hg, hrs⟩, .refl _ _, fun i hi => .inl hi⟩
    by_cases h0 : p.length = 0
    · have t0 : (((p.length : Nat) : Int) == 0) = true := by simp [h0]
      simp -implicitDefEqProofs only [go_sem, ↓reduceIte, Nat.reduceLT, Nat.reduceEqDiff, Nat.reduceAdd, Nat.reduceLeDiff, Nat.reduceMul, Nat.reduceSub, Int.natCast_zero, Int.ofNat_zero, Int.natCast_one, Int.cast_ofNat_Int, bne_self_eq_false, beq_self_eq_true, Int.reduceBEq, Int.reduceBNe, Bool.not_true, Bool.not_false, hx.len, t0]
      exact bad (.inl h0)
    · have t0 : (((p.length : Nat) : Int) == 0) = false := beq_eq_false_iff_ne.mpr (by omega)
      by_cases h1 : 8192 < p.length
      · have t1 : decide ((8192 : Int) < (p.length : Int)) = true := decide_eq_true (by omega)
        simp -implicitDefEqProofs only [go_sem, ↓reduceIte, Nat.reduceLT, Nat.reduceEqDiff, Nat.reduceAdd, Nat.reduceLeDiff, Nat.reduceMul, Nat.reduceSub, Int.natCast_zero, Int.ofNat_zero, Int.natCast_one, Int.cast_ofNat_Int, bne_self_eq_false, beq_self_eq_true, Int.reduceBEq, Int.reduceBNe, Bool.not_true, Bool.not_false, hx.len, t0, t1]
        exact bad (.inr h1)
      · have t1 : decide ((8192 : Int) < (p.length : Int)) = false := decide_eq_false (by omega)
        have hJ : jadd d ps false p = if (d.append (frame p)).2 = 8 then (((d.append (frame p)).1, ps, false), 8) else
            if (if (d.append (frame p)).2 = 0 then (d.append (frame p)).1.sync else d.append (frame p)).2 = 0 then
              (((if (d.append (frame p)).2 = 0 then (d.append (frame p)).1.sync else d.append (frame p)).1, ps ++ [p], false), 0)
            else (((if (d.append (frame p)).2 = 0 then (d.append (frame p)).1.sync else d.append (frame p)).1, ps, true), 9) := by
          have hno : ¬ (p.length = 0 ∨ 8192 < p.length) := by omega
          unfold jadd; rw [if_neg (by simp), if_neg hno]
        have hcode := D.append_code d (frame p)
        simp -implicitDefEqProofs only [go_sem, ↓reduceIte, Nat.reduceLT, Nat.reduceEqDiff, Nat.reduceAdd, Nat.reduceLeDiff, Nat.reduceMul, Nat.reduceSub, Int.natCast_zero, Int.ofNat_zero, Int.natCast_one, Int.cast_ofNat_Int, bne_self_eq_false, beq_self_eq_true, Int.reduceBEq, Int.reduceBNe, Bool.not_true, Bool.not_false, hx.len, t0, t1]
        show WP _ _ _ _ _ _
        refine .one hU hm ?_
        simp -implicitDefEqProofs only [go_sem, ↓reduceIte, Nat.reduceLT, Nat.reduceEqDiff, Nat.reduceAdd, Nat.reduceLeDiff, Nat.reduceMul, Nat.reduceSub, Int.natCast_zero, Int.ofNat_zero, Int.natCast_one, Int.cast_ofNat_Int, bne_self_eq_false, beq_self_eq_true, Int.reduceBEq, Int.reduceBNe, Bool.not_true, Bool.not_false]
        refine .calls (hm1 jid _) [0, 1, 2, 3, 4, 5, 6, 7] (.hm1 hjid) (by kernel_rfl) rfl ?_
        simp -implicitDefEqProofs only [go_sem, ↓reduceIte, Nat.reduceLT, Nat.reduceEqDiff, Nat.reduceAdd, Nat.reduceLeDiff, Nat.reduceMul, Nat.reduceSub, Int.natCast_zero, Int.ofNat_zero, Int.natCast_one, Int.cast_ofNat_Int, bne_self_eq_false, beq_self_eq_true, Int.reduceBEq, Int.reduceBNe, Bool.not_true, Bool.not_false, hjid]
        refine (frame_ok x p h hx hp).sthen fun g1 hs1 => ?_
        refine ⟨.hm1 (hs1 _ _ hjid), ?_⟩
        simp -implicitDefEqProofs only [go_sem, ↓reduceIte, Nat.reduceLT, Nat.reduceEqDiff, Nat.reduceAdd, Nat.reduceLeDiff, Nat.reduceMul, Nat.reduceSub, Int.natCast_zero, Int.ofNat_zero, Int.natCast_one, Int.cast_ofNat_Int, bne_self_eq_false, beq_self_eq_true, Int.reduceBEq, Int.reduceBNe, Bool.not_true, Bool.not_false]
        refine dthen (append_ok d hd id g1 _ (frame p) (hdk.keep hs1.keepObj) (.sl _ _) (by rw [frame_length]; omega)) fun g2 hd2 kp => ?_
        have hj2 : g2 jid = some (.obj [.ptr id 0, y, .v (.bool false)] 84) := kp _ _ hne (hs1 _ _ hjid)
        refine ⟨.hm1 hj2, ?_⟩
        have ok2 := D.append_ok hd (frame p)
        have hkp : Keep id h g2 := (hs1.keep id).trans kp
        have hgid : ∀ i ∈ sp, i ≠ id := fun i hi e => by
          obtain ⟨n, hn⟩ := hg.has i hi
          obtain ⟨z, hz, _⟩ := hdk
          rw [e, hz] at hn; cases hn
        have hg2 : GrowAt g2 y xs sp := hg.touch (Touch.keep hkp) (fun i hi => by simp [hgid i hi])
        have hx2 : By g2 x p := by
          obtain ⟨z, hz, _⟩ := hdk
          exact (hx.keep hkp hz (by decide))
        have hT2 : Touch (id :: jid :: sp) h g2 := (Touch.keep hkp).mono (fun i hi => .inl (by simp at hi; simp [hi]))
        generalize d.append (frame p) = A at hJ hcode hd2 ok2 ⊢
        obtain ⟨d2, c2⟩ := A
        simp only at hJ hcode hd2 ok2 ⊢
        simp -implicitDefEqProofs only [go_sem, ↓reduceIte, Nat.reduceLT, Nat.reduceEqDiff, Nat.reduceAdd, Nat.reduceLeDiff, Nat.reduceMul, Nat.reduceSub, Int.natCast_zero, Int.ofNat_zero, Int.natCast_one, Int.cast_ofNat_Int, bne_self_eq_false, beq_self_eq_true, Int.reduceBEq, Int.reduceBNe, Bool.not_true, Bool.not_false]
        show WP _ _ _ _ _ _
        refine .one hU hm ?_
        have downed : ∀ (g : Heap) (e : D) (ρ : Env), DiskAt g id e → g jid = some (.obj [.ptr id 0, y, .v (.bool false)] 84) → GrowAt g y xs sp → Touch (id :: jid :: sp) h g → jadd d ps false p = ((e, ps, true), 9) →
            (RetOK [.v (.int .i64 9)] (upd g jid (some (.obj [.ptr id 0, y, .v (.bool true)] 84))) fun r h' => r = .v (.int .i64 ((jadd d ps false p).2 : Nat)) ∧ ∃ sp', DiskAt h' id (jadd d ps false p).1.1 ∧ JAt h' 84 jid id (jadd d ps false p).1.2.1 (jadd d ps false p).1.2.2 sp' ∧
              Touch (id :: jid :: sp) h h' ∧ ∀ i ∈ sp', i ∈ sp ∨ h i = none) := fun g e ρ a1 a2 a3 a4 hJ => by
          rw [hJ]
          have hsj : ∀ i ∈ sp, i ≠ jid := fun i hi e => by
            obtain ⟨n, hn⟩ := hg.has i hi
            rw [e, hjid] at hn; cases hn
          have ht : Touch [jid] g (upd g jid (some (.obj [.ptr id 0, y, .v (.bool true)] 84))) := .upd
          refine .same (.refl _) ⟨rfl, sp, ?_, ⟨y, xs, upd_same .., a3.touch ht (fun i hi => by simp [hsj i hi]), hrs⟩, (a4.trans ht).mono (fun i hi => .inl (by simp at hi ⊢; rcases hi with h | h | h | h <;> simp [h])), fun i hi => .inl hi⟩
          obtain ⟨z, z1, z2⟩ := a1
          exact ⟨z, ht _ _ (by simp; exact fun e => hne e.symm) z1, z2.keep (Keep.upd jid _) a2 (by decide)⟩
        have hc0 := hcode
        rcases hcode with rfl | rfl | rfl
        · -- taken: sync
          simp -implicitDefEqProofs only [go_sem, ↓reduceIte, Nat.reduceLT, Nat.reduceEqDiff, Nat.reduceAdd, Nat.reduceLeDiff, Nat.reduceMul, Nat.reduceSub, Int.natCast_zero, Int.ofNat_zero, Int.natCast_one, Int.cast_ofNat_Int, bne_self_eq_false, beq_self_eq_true, Int.reduceBEq, Int.reduceBNe, Bool.not_true, Bool.not_false]
          refine .one hU hm ?_
          simp -implicitDefEqProofs only [go_sem, ↓reduceIte, Nat.reduceLT, Nat.reduceEqDiff, Nat.reduceAdd, Nat.reduceLeDiff, Nat.reduceMul, Nat.reduceSub, Int.natCast_zero, Int.ofNat_zero, Int.natCast_one, Int.cast_ofNat_Int, bne_self_eq_false, beq_self_eq_true, Int.reduceBEq, Int.reduceBNe, Bool.not_true, Bool.not_false, hj2]
          refine dthen (sync_ok d2 ok2 id g2 hd2) fun g3 hd3 kp3 => ?_
          have hj3 : g3 jid = some (.obj [.ptr id 0, y, .v (.bool false)] 84) := kp3 _ _ hne hj2
          have hg3 : GrowAt g3 y xs sp := hg2.touch (Touch.keep kp3) (fun i hi => by simp [hgid i hi])
          have hx3 : By g3 x p := by
            obtain ⟨z, hz, _⟩ := hd2
            exact (hx2.keep kp3 hz (by decide))
          have hT3 : Touch (id :: jid :: sp) h g3 := (hT2.trans (Touch.keep kp3)).mono (fun i hi => .inl (by simp at hi ⊢; rcases hi with h | h | h | h <;> simp [h]))
          have hcs := D.sync_code d2
          rw [if_neg (by decide), if_pos rfl] at hJ
          generalize d2.sync = A at hJ hcs hd3 ⊢
          obtain ⟨d3, c3⟩ := A
          simp only at hJ hcs hd3 ⊢
          rcases hcs with rfl | rfl
          · simp -implicitDefEqProofs only [go_sem, ↓reduceIte, Nat.reduceLT, Nat.reduceEqDiff, Nat.reduceAdd, Nat.reduceLeDiff, Nat.reduceMul, Nat.reduceSub, Int.natCast_zero, Int.ofNat_zero, Int.natCast_one, Int.cast_ofNat_Int, bne_self_eq_false, beq_self_eq_true, Int.reduceBEq, Int.reduceBNe, Bool.not_true, Bool.not_false]
            refine .one hU hm ?_
            simp -implicitDefEqProofs only [go_sem, ↓reduceIte, Nat.reduceLT, Nat.reduceEqDiff, Nat.reduceAdd, Nat.reduceLeDiff, Nat.reduceMul, Nat.reduceSub, Int.natCast_zero, Int.ofNat_zero, Int.natCast_one, Int.cast_ofNat_Int, bne_self_eq_false, beq_self_eq_true, Int.reduceBEq, Int.reduceBNe, Bool.not_true, Bool.not_false]
            refine .one hU hm ?_
            simp -implicitDefEqProofs only [go_sem, ↓reduceIte, Nat.reduceLT, Nat.reduceEqDiff, Nat.reduceAdd, Nat.reduceLeDiff, Nat.reduceMul, Nat.reduceSub, Int.natCast_zero, Int.ofNat_zero, Int.natCast_one, Int.cast_ofNat_Int, bne_self_eq_false, beq_self_eq_true, Int.reduceBEq, Int.reduceBNe, Bool.not_true, Bool.not_false]
            refine .last (hm1 jid _) [0, 1, 2, 3, 4, 5, 6, 7, 8, 9, 10] (.hm1 hj3) (by kernel_rfl) rfl (by kernel_rfl) rfl ?_
            simp -implicitDefEqProofs only [go_sem, ↓reduceIte, Nat.reduceLT, Nat.reduceEqDiff, Nat.reduceAdd, Nat.reduceLeDiff, Nat.reduceMul, Nat.reduceSub, Int.natCast_zero, Int.ofNat_zero, Int.natCast_one, Int.cast_ofNat_Int, bne_self_eq_false, beq_self_eq_true, Int.reduceBEq, Int.reduceBNe, Bool.not_true, Bool.not_false, hj3]
            refine (clone_sl x p g3 hx3 (by omega)).pthen' ?_
            obtain ⟨qy, rfl⟩ := hg3.row
            refine ⟨.hm1 hj3, ?_⟩
            simp -implicitDefEqProofs only [go_sem, ↓reduceIte, Nat.reduceLT, Nat.reduceEqDiff, Nat.reduceAdd, Nat.reduceLeDiff, Nat.reduceMul, Nat.reduceSub, Int.natCast_zero, Int.ofNat_zero, Int.natCast_one, Int.cast_ofNat_Int, bne_self_eq_false, beq_self_eq_true, Int.reduceBEq, Int.reduceBNe, Bool.not_true, Bool.not_false, hj3]
            refine hg3.app (v := .sl [rowA p] .full) (zs := [rowA p]) (fun k hk => hk) (hrs h).sized (by simp [Sized, rowA, AV.cells]) (by have := (hrs h).1; simp; omega) fun z g4 sp' hg4 ht4 hsp' => ?_
            have hsj : ∀ i ∈ sp, i ≠ jid := fun i hi e => by
              obtain ⟨n, hn⟩ := hg.has i hi
              rw [e, hjid] at hn; cases hn
            have hj4 : g4 jid = some (.obj [.ptr id 0, .sl xs qy, .v (.bool false)] 84) := ht4 _ _ (fun hi => hsj _ hi rfl) hj3
            refine ⟨.hm1 hj4, ?_⟩
            obtain ⟨qz, rfl⟩ := hg4.row
            simp -implicitDefEqProofs only [go_sem, ↓reduceIte, Nat.reduceLT, Nat.reduceEqDiff, Nat.reduceAdd, Nat.reduceLeDiff, Nat.reduceMul, Nat.reduceSub, Int.natCast_zero, Int.ofNat_zero, Int.natCast_one, Int.cast_ofNat_Int, bne_self_eq_false, beq_self_eq_true, Int.reduceBEq, Int.reduceBNe, Bool.not_true, Bool.not_false, hj4]
            refine .vc hU hm ?_
            simp -implicitDefEqProofs only [go_sem, ↓reduceIte, Nat.reduceLT, Nat.reduceEqDiff, Nat.reduceAdd, Nat.reduceLeDiff, Nat.reduceMul, Nat.reduceSub, Int.natCast_zero, Int.ofNat_zero, Int.natCast_one, Int.cast_ofNat_Int, bne_self_eq_false, beq_self_eq_true, Int.reduceBEq, Int.reduceBNe, Bool.not_true, Bool.not_false]
            have ht5 : Touch [jid] g4 (upd g4 jid (some (.obj [.ptr id 0, .sl (xs ++ [rowA p]) qz, .v (.bool false)] 84))) := .upd
            have hsj' : ∀ i ∈ sp', i ≠ jid := fun i hi e => by
              obtain ⟨n, hn⟩ := hg4.has i hi
              rw [e, hj4] at hn; cases hn
            rw [if_pos rfl] at hJ
            refine .same (.refl _) ?_
            rw [hJ]
            refine ⟨rfl, sp', ?_, ⟨_, _, upd_same .., hg4.touch ht5 (fun i hi => by simp [hsj' i hi]), fun g => rows_snoc (hrs g) (.sl _ _)⟩, ?_, fun i hi => ?_⟩
            · obtain ⟨z, z1, z2⟩ := hd3
              have hid4 : g4 id = some (.obj (d3.cells z) 75) := ht4 _ _ (fun hi => hgid _ hi rfl) z1
              have z4 : By g4 z d3.b := by
                rcases z2 with z2 | ⟨i, off, cs, rfl, a1, a2, a3⟩
                · exact .inl z2
                · exact .oa (ht4 _ _ (fun hi => by obtain ⟨n, hn⟩ := hg3.has i hi; rw [a1] at hn; cases hn) a1) a2 a3
              exact ⟨z, ht5 _ _ (by simp; exact fun e => hne e.symm) hid4, z4.keep (Keep.upd jid _) hj4 (by decide)⟩
            · exact ((hT3.trans ht4).trans ht5).mono (fun i hi => .inl (by simp at hi ⊢; grind))
            · rcases hsp' i hi with h1 | h1
              · exact .inl h1
              · cases hh : h i with
                | none => exact .inr rfl
                | some k =>
                  by_cases hin : i ∈ id :: jid :: sp
                  · simp only [List.mem_cons] at hin
                    rcases hin with e | e | e
                    · subst e; rw [hd3.choose_spec.1] at h1; cases h1
                    · subst e; rw [hj3] at h1; cases h1
                    · exact .inl e
                  · rw [hT3 i k hin hh] at h1; cases h1
          · simp -implicitDefEqProofs only [go_sem, ↓reduceIte, Nat.reduceLT, Nat.reduceEqDiff, Nat.reduceAdd, Nat.reduceLeDiff, Nat.reduceMul, Nat.reduceSub, Int.natCast_zero, Int.ofNat_zero, Int.natCast_one, Int.cast_ofNat_Int, bne_self_eq_false, beq_self_eq_true, Int.reduceBEq, Int.reduceBNe, Bool.not_true, Bool.not_false]
            refine .one hU hm ?_
            simp -implicitDefEqProofs only [go_sem, ↓reduceIte, Nat.reduceLT, Nat.reduceEqDiff, Nat.reduceAdd, Nat.reduceLeDiff, Nat.reduceMul, Nat.reduceSub, Int.natCast_zero, Int.ofNat_zero, Int.natCast_one, Int.cast_ofNat_Int, bne_self_eq_false, beq_self_eq_true, Int.reduceBEq, Int.reduceBNe, Bool.not_true, Bool.not_false, hj3]
            exact downed g3 d3 [] hd3 hj3 hg3 hT3 hJ
        · -- full
          simp -implicitDefEqProofs only [go_sem, ↓reduceIte, Nat.reduceLT, Nat.reduceEqDiff, Nat.reduceAdd, Nat.reduceLeDiff, Nat.reduceMul, Nat.reduceSub, Int.natCast_zero, Int.ofNat_zero, Int.natCast_one, Int.cast_ofNat_Int, bne_self_eq_false, beq_self_eq_true, Int.reduceBEq, Int.reduceBNe, Bool.not_true, Bool.not_false]
          refine .same (.refl _) ?_
          rw [hJ]
          exact ⟨rfl, sp, hd2, ⟨y, xs, hj2, hg2, hrs⟩, hT2, fun i hi => .inl hi⟩
        · simp -implicitDefEqProofs only [go_sem, ↓reduceIte, Nat.reduceLT, Nat.reduceEqDiff, Nat.reduceAdd, Nat.reduceLeDiff, Nat.reduceMul, Nat.reduceSub, Int.natCast_zero, Int.ofNat_zero, Int.natCast_one, Int.cast_ofNat_Int, bne_self_eq_false, beq_self_eq_true, Int.reduceBEq, Int.reduceBNe, Bool.not_true, Bool.not_false]
          refine .one hU hm ?_
          simp -implicitDefEqProofs only [go_sem, ↓reduceIte, Nat.reduceLT, Nat.reduceEqDiff, Nat.reduceAdd, Nat.reduceLeDiff, Nat.reduceMul, Nat.reduceSub, Int.natCast_zero, Int.ofNat_zero, Int.natCast_one, Int.cast_ofNat_Int, bne_self_eq_false, beq_self_eq_true, Int.reduceBEq, Int.reduceBNe, Bool.not_true, Bool.not_false, hj2]
          refine .one hU hm ?_
          simp -implicitDefEqProofs only [go_sem, ↓reduceIte, Nat.reduceLT, Nat.reduceEqDiff, Nat.reduceAdd, Nat.reduceLeDiff, Nat.reduceMul, Nat.reduceSub, Int.natCast_zero, Int.ofNat_zero, Int.natCast_one, Int.cast_ofNat_Int, bne_self_eq_false, beq_self_eq_true, Int.reduceBEq, Int.reduceBNe, Bool.not_true, Bool.not_false, hj2]
          exact downed g2 d2 [] hd2 hj2 hg2 hT2 hJ
end Go.Proofs.Ytidpcjblciompaa
