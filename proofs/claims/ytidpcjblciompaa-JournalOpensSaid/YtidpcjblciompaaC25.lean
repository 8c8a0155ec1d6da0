/- The journal. -/
import Derived.Test.YtidpcjblciompaaC24
set_option linter.unusedSimpArgs false
set_option linter.unusedVariables false
namespace Go.Proofs.Ytidpcjblciompaa
open Go Go.Ab

/-- All that is owned but some things is as it was. -/
def Touch (S : List Nat) (h h' : Heap) : Prop := ∀ j k, j ∉ S → h j = some k → h' j = some k
theorem Touch.refl (S : List Nat) (h : Heap) : Touch S h h := fun _ _ _ e => e
theorem Touch.trans {S T : List Nat} {a b c : Heap} (x : Touch S a b) (y : Touch T b c) : Touch (S ++ T) a c := fun j k e hj => y j k (fun h => e (by simp [h])) (x j k (fun h => e (by simp [h])) hj)
theorem Touch.of {S : List Nat} {h h' : Heap} (hs : Ab.Sub h h') : Touch S h h' := fun _ _ _ e => hs _ _ e
theorem Touch.keep {i : Nat} {h h' : Heap} (hs : Keep i h h') : Touch [i] h h' := fun j k e hj => hs j k (fun hh => e (by simp [hh])) hj
theorem Touch.upd {h : Heap} {i : Nat} {k : Option Blk} : Touch [i] h (upd h i k) := Touch.keep (Keep.upd i k)
theorem Touch.mono {S T : List Nat} {h h' : Heap} (ht : Touch S h h') (hs : ∀ i ∈ S, i ∈ T ∨ h i = none) : Touch T h h' := fun j k e hj => ht j k (fun h => by
  rcases hs j h with h1 | h1
  · exact e h1
  · rw [h1] at hj; cases hj) hj

theorem GrowAt.touch {h h' : Heap} {y : AV} {xs : List AV} {sp S : List Nat} (hg : GrowAt h y xs sp) (ht : Touch S h h') (hn : ∀ i ∈ sp, i ∉ S) : GrowAt h' y xs sp := by
  rcases hg with ⟨rfl, rfl⟩ | ⟨k, rfl, k1, rfl⟩
  · exact .inl ⟨rfl, rfl⟩
  · exact .inr ⟨k, rfl, ht _ _ (hn k (by simp)) k1, rfl⟩
theorem GrowAt.has {h : Heap} {y : AV} {xs : List AV} {sp : List Nat} (hg : GrowAt h y xs sp) : ∀ i ∈ sp, ∃ n, h i = some (.spare n 1) := by
  rcases hg with ⟨rfl, rfl⟩ | ⟨k, rfl, k1, rfl⟩
  · simp
  · simp [k1]
theorem GrowAt.app {h : Heap} {y v : AV} {xs zs : List AV} {sp : List Nat} {Q : AV → Heap → Prop} (hg : GrowAt h y xs sp) (hsrc : ∀ k : List AV → Prop, k zs → srcA U 27 h v k) (s1 : Sized 1 xs) (s2 : Sized 1 zs)
    (hlen : xs.length + zs.length ≤ 1000000000000) (hk : ∀ y' h' sp', GrowAt h' y' (xs ++ zs) sp' → Touch sp h h' → (∀ i ∈ sp', i ∈ sp ∨ h i = none) → Q y' h') : apK U h y v Q (.slice 27) := by
  have hl : (xs.length + zs.length) * 24 ≤ 140737488355328 := by omega
  rcases hg with ⟨rfl, rfl⟩ | ⟨k, rfl, k1, rfl⟩
  · refine (apK_full ..).mpr ⟨by rw [u27]; decide, by rw [u27b]; decide, hsrc _ ⟨by rw [u27]; exact s1, by rw [u27]; exact s2, by rw [u27b]; exact hl, fun hn => ?_, fun hn => .own fun id hid => ?_⟩⟩
    · subst hn
      exact hk _ _ [] (.inl ⟨by simp, rfl⟩) (.refl _ _) (by simp)
    · rw [u27]
      exact hk _ _ [id] (.inr ⟨id, rfl, by rw [upd_same, List.length_append], rfl⟩) (.of ((Ab.Sub.refl h).new hid _)) (by simp [hid])
  · refine (apK_own ..).mpr ⟨by rw [u27]; decide, by rw [u27b]; decide, hsrc _ ⟨by rw [u27]; exact s1, by rw [u27]; exact s2, by rw [u27b]; exact hl, by rw [u27]; exact k1, ?_⟩⟩
    rw [u27]
    exact hk _ _ [k] (.inr ⟨k, rfl, by rw [upd_same, List.length_append], rfl⟩) .upd (by simp)

/-- A journal. -/
def JAt (h : Heap) (t jid did : Nat) (ps : List (List UInt8)) (down : Bool) (sp : List Nat) : Prop :=
  ∃ y xs, h jid = some (.obj [.ptr did 0, y, .v (.bool down)] t) ∧ GrowAt h y xs sp ∧ ∀ g, Ab.Rows 5 g xs ps
theorem JAt.touch {h h' : Heap} {t jid did : Nat} {ps : List (List UInt8)} {down : Bool} {sp S : List Nat} (hj : JAt h t jid did ps down sp) (ht : Touch S h h') (h1 : jid ∉ S) (hn : ∀ i ∈ sp, i ∉ S) : JAt h' t jid did ps down sp := by
  obtain ⟨y, xs, a, b, c⟩ := hj
  exact ⟨y, xs, ht _ _ h1 a, b.touch ht hn, c⟩
theorem JAt.sub {h h' : Heap} {t jid did : Nat} {ps : List (List UInt8)} {down : Bool} {sp : List Nat} (hj : JAt h t jid did ps down sp) (ht : Ab.Sub h h') : JAt h' t jid did ps down sp :=
  hj.touch (S := []) (.of ht) (by simp) (by simp)

theorem down_ok (jid did : Nat) (ps : List (List UInt8)) (down : Bool) (sp : List Nat) (h : Heap) (hj : JAt h 84 jid did ps down sp) : FnOK Try.prog 42 [.ptr jid 0] h fun r h' => r = .v (.bool down) ∧ h' = h := by
  obtain ⟨y, xs, a, _, _⟩ := hj
  refine FnOK.body hU hm Try.func42 rfl (by kernel_rfl) 7 rfl [.tmp 2] rfl (Nat.le_of_ble_eq_true rfl) (fun hwf => ?_)
  simp -implicitDefEqProofs only [go_sem, ↓reduceIte, Nat.reduceLT, Nat.reduceEqDiff, Nat.reduceAdd, Nat.reduceLeDiff, Nat.reduceMul, Nat.reduceSub, Int.natCast_zero, Int.ofNat_zero, Int.natCast_one, Int.cast_ofNat_Int, bne_self_eq_false, beq_self_eq_true, Int.reduceBEq, Int.reduceBNe, Bool.not_true, Bool.not_false, a]
  exact .same (.refl _) ⟨rfl, rfl⟩

theorem records_ok (jid did : Nat) (ps : List (List UInt8)) (down : Bool) (sp : List Nat) (h : Heap) (hj : JAt h 84 jid did ps down sp) (hl : ps.length ≤ 1000000) (hp : ∀ p ∈ ps, p.length ≤ 1000000) :
    FnOK Try.prog 40 [.ptr jid 0] h fun r h' => ∃ q, r = .sl (ps.map rowA) q ∧ Ab.Sub h h' := by
  obtain ⟨y, xs, a, b, c⟩ := hj
  refine FnOK.body hU hm Try.func40 rfl (by kernel_rfl) 22 rfl [.tmp 2] rfl (Nat.le_of_ble_eq_true rfl) (fun hwf => ?_)
  obtain ⟨qy, rfl⟩ := b.row
  have hlen := (c h).1
  simp -implicitDefEqProofs only [go_sem, ↓reduceIte, Nat.reduceLT, Nat.reduceEqDiff, Nat.reduceAdd, Nat.reduceLeDiff, Nat.reduceMul, Nat.reduceSub, Int.natCast_zero, Int.ofNat_zero, Int.natCast_one, Int.cast_ofNat_Int, bne_self_eq_false, beq_self_eq_true, Int.reduceBEq, Int.reduceBNe, Bool.not_true, Bool.not_false, a]
  refine .intro (fun m ρ g => ∃ (i : Nat) (z : AV), Acc U 27 h g z ((ps.take i).map rowA) ∧ i ≤ ps.length ∧ m = ps.length - i ∧ lk ρ 3 = some z ∧ lk ρ 9 = some (.sl xs qy) ∧ lk ρ 10 = some (.v (.int .i64 xs.length)) ∧ lk ρ 11 = some (.v (.int .i64 i))) (ps.length - 0) ?_ ?_
  · refine ⟨0, _, .full (.refl h), by omega, rfl, ?_, ?_, ?_, ?_⟩ <;> simp -implicitDefEqProofs only [go_sem, ↓reduceIte, Nat.reduceLT, Nat.reduceEqDiff, Nat.reduceAdd, Nat.reduceLeDiff, Nat.reduceMul, Nat.reduceSub, Int.natCast_zero, Int.ofNat_zero, Int.natCast_one, Int.cast_ofNat_Int, bne_self_eq_false, beq_self_eq_true, Int.reduceBEq, Int.reduceBNe, Bool.not_true, Bool.not_false]
  · rintro m ρ g ⟨i, z, ha, hi, rfl, r3, r9, r10, r11⟩
    by_cases hc : i < ps.length
    · have d1 : decide ((i : Int) < (xs.length : Int)) = true := decide_eq_true (by omega)
      have w1 : IntKind.i64.wrap ((i : Int) + 1) = ((i + 1 : Nat) : Int) := by rw [wrap64 _ (by omega)]; omega
      have hx := (c g).2 i (by omega) hc
      simp -implicitDefEqProofs only [go_sem, ↓reduceIte, Nat.reduceLT, Nat.reduceEqDiff, Nat.reduceAdd, Nat.reduceLeDiff, Nat.reduceMul, Nat.reduceSub, Int.natCast_zero, Int.ofNat_zero, Int.natCast_one, Int.cast_ofNat_Int, bne_self_eq_false, beq_self_eq_true, Int.reduceBEq, Int.reduceBNe, Bool.not_true, Bool.not_false, r3, r9, r10, r11, d1]
      refine .at i (by omega) (by rw [hx.cells]; rfl) ?_
      simp -implicitDefEqProofs only [go_sem, ↓reduceIte, Nat.reduceLT, Nat.reduceEqDiff, Nat.reduceAdd, Nat.reduceLeDiff, Nat.reduceMul, Nat.reduceSub, Int.natCast_zero, Int.ofNat_zero, Int.natCast_one, Int.cast_ofNat_Int, bne_self_eq_false, beq_self_eq_true, Int.reduceBEq, Int.reduceBNe, Bool.not_true, Bool.not_false, r3, r9, r10, r11, hx.cells, hx.noAgg, and_self]
      refine (clone_sl xs[i] ps[i] g hx (by have := hp _ (List.getElem_mem hc); omega)).pthen' ?_
      simp -implicitDefEqProofs only [go_sem, ↓reduceIte, Nat.reduceLT, Nat.reduceEqDiff, Nat.reduceAdd, Nat.reduceLeDiff, Nat.reduceMul, Nat.reduceSub, Int.natCast_zero, Int.ofNat_zero, Int.natCast_one, Int.cast_ofNat_Int, bne_self_eq_false, beq_self_eq_true, Int.reduceBEq, Int.reduceBNe, Bool.not_true, Bool.not_false, r3, r9, r10, r11]
      refine ha.app (v := .sl [rowA ps[i]] .full) (zs := [rowA ps[i]]) (by rw [u27]; decide) (by rw [u27b]; decide) (fun k hk => hk) (by rw [u27]; exact rowA_sized _) (by rw [u27]; simp [Sized, rowA, AV.cells]) (by rw [u27b]; simp; omega) fun z' g2 ha' hk' => ?_
      simp -implicitDefEqProofs only [go_sem, ↓reduceIte, Nat.reduceLT, Nat.reduceEqDiff, Nat.reduceAdd, Nat.reduceLeDiff, Nat.reduceMul, Nat.reduceSub, Int.natCast_zero, Int.ofNat_zero, Int.natCast_one, Int.cast_ofNat_Int, bne_self_eq_false, beq_self_eq_true, Int.reduceBEq, Int.reduceBNe, Bool.not_true, Bool.not_false, r3, r9, r10, r11, w1]
      refine ⟨_, ?_, i + 1, z', ?_, by omega, rfl, ?_, ?_, ?_, ?_⟩
      · omega
      · rw [List.take_succ_eq_append_getElem hc, List.map_append]; exact ha'
      all_goals simp -implicitDefEqProofs only [go_sem, ↓reduceIte, Nat.reduceLT, Nat.reduceEqDiff, Nat.reduceAdd, Nat.reduceLeDiff, Nat.reduceMul, Nat.reduceSub, Int.natCast_zero, Int.ofNat_zero, Int.natCast_one, Int.cast_ofNat_Int, bne_self_eq_false, beq_self_eq_true, Int.reduceBEq, Int.reduceBNe, Bool.not_true, Bool.not_false, r3, r9, r10, r11, w1]
    · obtain rfl : i = ps.length := by omega
      have d1 : decide ((ps.length : Int) < (xs.length : Int)) = false := decide_eq_false (by omega)
      simp -implicitDefEqProofs only [go_sem, ↓reduceIte, Nat.reduceLT, Nat.reduceEqDiff, Nat.reduceAdd, Nat.reduceLeDiff, Nat.reduceMul, Nat.reduceSub, Int.natCast_zero, Int.ofNat_zero, Int.natCast_one, Int.cast_ofNat_Int, bne_self_eq_false, beq_self_eq_true, Int.reduceBEq, Int.reduceBNe, Bool.not_true, Bool.not_false, r3, r9, r10, r11, d1]
      rw [List.take_length] at ha
      obtain ⟨q, rfl⟩ := ha.row
      exact .same (.refl _) ⟨q, rfl, ha.1⟩

def D.openD (d : D) : D × Nat :=
  let c := if (scan d.b).2 < d.b.length then d.cut ((scan d.b).2 : Nat) else (d, 0)
  if c.2 = 0 then c.1.sync else c
theorem D.openD_ok {d : D} (hd : d.ok) : d.openD.1.ok := by
  have h1 : (if (scan d.b).2 < d.b.length then d.cut ((scan d.b).2 : Nat) else (d, 0)).1.ok := by
    split
    · exact D.cut_ok hd _
    · exact hd
  unfold D.openD
  generalize (if (scan d.b).2 < d.b.length then d.cut ((scan d.b).2 : Nat) else (d, 0)) = c at h1
  show (if c.2 = 0 then c.1.sync else c).1.ok
  split
  · exact D.sync_ok h1
  · exact h1

theorem open_nil (h : Heap) : FnOK Try.prog 39 [.v (.pointer none)] h fun r h' => r = .tup [.v (.pointer none), .v (.int .i64 1)] ∧ h' = h := by
  refine FnOK.body hU hm Try.func39 rfl (by kernel_rfl) 35 rfl [.tmp 2, .tmp 3] rfl (Nat.le_of_ble_eq_true rfl) (fun hwf => ?_)
  simp -implicitDefEqProofs only [go_sem, ↓reduceIte, Nat.reduceLT, Nat.reduceEqDiff, Nat.reduceAdd, Nat.reduceLeDiff, Nat.reduceMul, Nat.reduceSub, Int.natCast_zero, Int.ofNat_zero, Int.natCast_one, Int.cast_ofNat_Int, bne_self_eq_false, beq_self_eq_true, Int.reduceBEq, Int.reduceBNe, Bool.not_true, Bool.not_false]
  exact .same (.refl _) ⟨rfl, rfl⟩

theorem open_ok (d : D) (hd : d.ok) (id : Nat) (h : Heap) (hdk : DiskAt h id d) :
    FnOK Try.prog 39 [.ptr id 0] h fun r h' => ∃ J, r = .tup [J, .v (.int .i64 (d.openD.2 : Nat))] ∧ DiskAt h' id d.openD.1 ∧ Keep id h h' ∧
      if d.openD.2 = 0 then ∃ jid sp, J = .ptr jid 0 ∧ h jid = none ∧ JAt h' 84 jid id (scan d.b).1 false sp ∧ ∀ i ∈ sp, h i = none ∧ i ≠ jid else J = .v (.pointer none) := by
  refine FnOK.of_wp hU Try.func39 rfl (by kernel_rfl) 35 rfl [.tmp 2, .tmp 3] rfl (Nat.le_of_ble_eq_true rfl) ?_
  refine .one hU hm ?_
  simp -implicitDefEqProofs only [go_sem, ↓reduceIte, Nat.reduceLT, Nat.reduceEqDiff, Nat.reduceAdd, Nat.reduceLeDiff, Nat.reduceMul, Nat.reduceSub, Int.natCast_zero, Int.ofNat_zero, Int.natCast_one, Int.cast_ofNat_Int, bne_self_eq_false, beq_self_eq_true, Int.reduceBEq, Int.reduceBNe, Bool.not_true, Bool.not_false]
  show WP _ _ _ _ _ _
  refine .one hU hm ?_
  simp -implicitDefEqProofs only [go_sem, ↓reduceIte, Nat.reduceLT, Nat.reduceEqDiff, Nat.reduceAdd, Nat.reduceLeDiff, Nat.reduceMul, Nat.reduceSub, Int.natCast_zero, Int.ofNat_zero, Int.natCast_one, Int.cast_ofNat_Int, bne_self_eq_false, beq_self_eq_true, Int.reduceBEq, Int.reduceBNe, Bool.not_true, Bool.not_false]
  show WP _ _ _ _ _ _
  have hlen : d.b.length ≤ 2000000 := by have := hd.1; have := hd.2.1; omega
  obtain ⟨at_, hat⟩ : ∃ n, (scan d.b).2 = n := ⟨_, rfl⟩
  have hatl := scan_le d.b
  rw [hat] at hatl
  refine .cut (fun ρ g => ∃ z sp, GrowAt g z ((scan d.b).1.map rowA) sp ∧ Ab.Sub h g ∧ (∀ i ∈ sp, h i = none) ∧ lk ρ 0 = some (.ptr id 0) ∧ lk ρ 4 = some z ∧ lk ρ 5 = some (.v (.int .i64 at_))) (.vc hU hm ?_) ?_
  · simp -implicitDefEqProofs only [go_sem, ↓reduceIte, Nat.reduceLT, Nat.reduceEqDiff, Nat.reduceAdd, Nat.reduceLeDiff, Nat.reduceMul, Nat.reduceSub, Int.natCast_zero, Int.ofNat_zero, Int.natCast_one, Int.cast_ofNat_Int, bne_self_eq_false, beq_self_eq_true, Int.reduceBEq, Int.reduceBNe, Bool.not_true, Bool.not_false]
    refine (read_ok' d hd id h hdk).pthen ?_
    simp -implicitDefEqProofs only [go_sem, ↓reduceIte, Nat.reduceLT, Nat.reduceEqDiff, Nat.reduceAdd, Nat.reduceLeDiff, Nat.reduceMul, Nat.reduceSub, Int.natCast_zero, Int.ofNat_zero, Int.natCast_one, Int.cast_ofNat_Int, bne_self_eq_false, beq_self_eq_true, Int.reduceBEq, Int.reduceBNe, Bool.not_true, Bool.not_false]
    refine (scan_ok _ d.b h (.sl _ _) hlen).mono fun r g ⟨z, sp, e1, hg, hs, hsp⟩ => ?_
    subst e1
    rw [hat]
    simp -implicitDefEqProofs only [go_sem, ↓reduceIte, Nat.reduceLT, Nat.reduceEqDiff, Nat.reduceAdd, Nat.reduceLeDiff, Nat.reduceMul, Nat.reduceSub, Int.natCast_zero, Int.ofNat_zero, Int.natCast_one, Int.cast_ofNat_Int, bne_self_eq_false, beq_self_eq_true, Int.reduceBEq, Int.reduceBNe, Bool.not_true, Bool.not_false]
    refine ⟨z, sp, hg, hs, hsp, ?_, ?_, ?_⟩ <;> simp -implicitDefEqProofs only [go_sem, ↓reduceIte, Nat.reduceLT, Nat.reduceEqDiff, Nat.reduceAdd, Nat.reduceLeDiff, Nat.reduceMul, Nat.reduceSub, Int.natCast_zero, Int.ofNat_zero, Int.natCast_one, Int.cast_ofNat_Int, bne_self_eq_false, beq_self_eq_true, Int.reduceBEq, Int.reduceBNe, Bool.not_true, Bool.not_false]
  rintro ρ g ⟨z, sp, hg, hs, hsp, r0, r4, r5⟩
  have hdk1 := hdk.keep hs.keepObj
  have hob : ∀ i ∈ sp, i ≠ id := fun i hi e => by
    obtain ⟨y, hy, _⟩ := hdk
    have := hsp i hi
    rw [e, hy] at this
    cases this
  refine .cut (fun ρ g => ∃ d1, d.openD = d1.sync ∧ d1.ok ∧ DiskAt g id d1 ∧ GrowAt g z ((scan d.b).1.map rowA) sp ∧ Keep id h g ∧ lk ρ 0 = some (.ptr id 0) ∧ lk ρ 4 = some z) (.vc hU hm ?_) ?_
  · simp -implicitDefEqProofs only [go_sem, ↓reduceIte, Nat.reduceLT, Nat.reduceEqDiff, Nat.reduceAdd, Nat.reduceLeDiff, Nat.reduceMul, Nat.reduceSub, Int.natCast_zero, Int.ofNat_zero, Int.natCast_one, Int.cast_ofNat_Int, bne_self_eq_false, beq_self_eq_true, Int.reduceBEq, Int.reduceBNe, Bool.not_true, Bool.not_false, r0, r4, r5]
    refine (len_ok' d id g hdk1).pthen ?_
    simp -implicitDefEqProofs only [go_sem, ↓reduceIte, Nat.reduceLT, Nat.reduceEqDiff, Nat.reduceAdd, Nat.reduceLeDiff, Nat.reduceMul, Nat.reduceSub, Int.natCast_zero, Int.ofNat_zero, Int.natCast_one, Int.cast_ofNat_Int, bne_self_eq_false, beq_self_eq_true, Int.reduceBEq, Int.reduceBNe, Bool.not_true, Bool.not_false, r0, r4, r5]
    refine .intro (fun e => ?_) (fun e => ?_)
    · have e := of_decide_eq_true e
      have e' : at_ < d.b.length := by omega
      simp -implicitDefEqProofs only [go_sem, ↓reduceIte, Nat.reduceLT, Nat.reduceEqDiff, Nat.reduceAdd, Nat.reduceLeDiff, Nat.reduceMul, Nat.reduceSub, Int.natCast_zero, Int.ofNat_zero, Int.natCast_one, Int.cast_ofNat_Int, bne_self_eq_false, beq_self_eq_true, Int.reduceBEq, Int.reduceBNe, Bool.not_true, Bool.not_false, r0, r4, r5]
      refine dthen (cut_ok d hd id g at_ hdk1) fun g1 hd1 kp => ?_
      have hO : d.openD = if (d.cut (at_ : Nat)).2 = 0 then (d.cut (at_ : Nat)).1.sync else d.cut (at_ : Nat) := by
        unfold D.openD; rw [hat, if_pos e']
      have ok1 := D.cut_ok hd at_
      generalize d.cut (at_ : Nat) = D0 at hO hd1 ok1 ⊢
      obtain ⟨D1, c1⟩ := D0
      simp only at hO hd1 ok1 ⊢
      simp -implicitDefEqProofs only [go_sem, ↓reduceIte, Nat.reduceLT, Nat.reduceEqDiff, Nat.reduceAdd, Nat.reduceLeDiff, Nat.reduceMul, Nat.reduceSub, Int.natCast_zero, Int.ofNat_zero, Int.natCast_one, Int.cast_ofNat_Int, bne_self_eq_false, beq_self_eq_true, Int.reduceBEq, Int.reduceBNe, Bool.not_true, Bool.not_false, r0, r4, r5]
      by_cases hc : c1 = 0
      · subst hc
        rw [if_pos rfl] at hO
        simp -implicitDefEqProofs only [go_sem, ↓reduceIte, Nat.reduceLT, Nat.reduceEqDiff, Nat.reduceAdd, Nat.reduceLeDiff, Nat.reduceMul, Nat.reduceSub, Int.natCast_zero, Int.ofNat_zero, Int.natCast_one, Int.cast_ofNat_Int, bne_self_eq_false, beq_self_eq_true, Int.reduceBEq, Int.reduceBNe, Bool.not_true, Bool.not_false, r0, r4, r5]
        refine ⟨D1, hO, ok1, hd1, hg.touch (Touch.keep kp) (fun i hi => by simp [hob i hi]), (hs.keep id).trans kp, ?_, ?_⟩ <;> simp -implicitDefEqProofs only [go_sem, ↓reduceIte, Nat.reduceLT, Nat.reduceEqDiff, Nat.reduceAdd, Nat.reduceLeDiff, Nat.reduceMul, Nat.reduceSub, Int.natCast_zero, Int.ofNat_zero, Int.natCast_one, Int.cast_ofNat_Int, bne_self_eq_false, beq_self_eq_true, Int.reduceBEq, Int.reduceBNe, Bool.not_true, Bool.not_false, r0, r4]
      · rw [if_neg hc] at hO
        have t1 : (((c1 : Nat) : Int) != 0) = true := by simp [hc]
        simp -implicitDefEqProofs only [go_sem, ↓reduceIte, Nat.reduceLT, Nat.reduceEqDiff, Nat.reduceAdd, Nat.reduceLeDiff, Nat.reduceMul, Nat.reduceSub, Int.natCast_zero, Int.ofNat_zero, Int.natCast_one, Int.cast_ofNat_Int, bne_self_eq_false, beq_self_eq_true, Int.reduceBEq, Int.reduceBNe, Bool.not_true, Bool.not_false, r0, r4, r5, t1]
        refine .same (.refl _) ⟨_, by rw [hO]; rfl, by rw [hO]; exact hd1, (hs.keep id).trans kp, ?_⟩
        rw [hO, if_neg hc]
    · have e := of_decide_eq_false e
      have e' : ¬ at_ < d.b.length := by omega
      have hO : d.openD = d.sync := by
        unfold D.openD; rw [hat, if_neg e']; rfl
      simp -implicitDefEqProofs only [go_sem, ↓reduceIte, Nat.reduceLT, Nat.reduceEqDiff, Nat.reduceAdd, Nat.reduceLeDiff, Nat.reduceMul, Nat.reduceSub, Int.natCast_zero, Int.ofNat_zero, Int.natCast_one, Int.cast_ofNat_Int, bne_self_eq_false, beq_self_eq_true, Int.reduceBEq, Int.reduceBNe, Bool.not_true, Bool.not_false, r0, r4, r5]
      refine ⟨d, hO, hd, hdk1, hg, hs.keep id, ?_, ?_⟩ <;> simp -implicitDefEqProofs only [go_sem, ↓reduceIte, Nat.reduceLT, Nat.reduceEqDiff, Nat.reduceAdd, Nat.reduceLeDiff, Nat.reduceMul, Nat.reduceSub, Int.natCast_zero, Int.ofNat_zero, Int.natCast_one, Int.cast_ofNat_Int, bne_self_eq_false, beq_self_eq_true, Int.reduceBEq, Int.reduceBNe, Bool.not_true, Bool.not_false, r0, r4]
  rintro ρ g1 ⟨d1, hO, ok1, hd1, hg1, kp1, r0, r4⟩
  refine .vc hU hm ?_
  simp -implicitDefEqProofs only [go_sem, ↓reduceIte, Nat.reduceLT, Nat.reduceEqDiff, Nat.reduceAdd, Nat.reduceLeDiff, Nat.reduceMul, Nat.reduceSub, Int.natCast_zero, Int.ofNat_zero, Int.natCast_one, Int.cast_ofNat_Int, bne_self_eq_false, beq_self_eq_true, Int.reduceBEq, Int.reduceBNe, Bool.not_true, Bool.not_false, r0, r4]
  refine dthen (sync_ok d1 ok1 id g1 hd1) fun g2 hd2 kp2 => ?_
  rw [hO]
  generalize d1.sync = D0 at hd2 ⊢
  obtain ⟨D2, c2⟩ := D0
  simp only at hd2 ⊢
  have kp := kp1.trans kp2
  have hg2 := hg1.touch (Touch.keep kp2) (fun i hi => by simp [hob i hi])
  simp -implicitDefEqProofs only [go_sem, ↓reduceIte, Nat.reduceLT, Nat.reduceEqDiff, Nat.reduceAdd, Nat.reduceLeDiff, Nat.reduceMul, Nat.reduceSub, Int.natCast_zero, Int.ofNat_zero, Int.natCast_one, Int.cast_ofNat_Int, bne_self_eq_false, beq_self_eq_true, Int.reduceBEq, Int.reduceBNe, Bool.not_true, Bool.not_false, r0, r4]
  by_cases hc : c2 = 0
  · subst hc
    obtain ⟨qz, rfl⟩ := hg2.row
    simp -implicitDefEqProofs only [go_sem, ↓reduceIte, Nat.reduceLT, Nat.reduceEqDiff, Nat.reduceAdd, Nat.reduceLeDiff, Nat.reduceMul, Nat.reduceSub, Int.natCast_zero, Int.ofNat_zero, Int.natCast_one, Int.cast_ofNat_Int, bne_self_eq_false, beq_self_eq_true, Int.reduceBEq, Int.reduceBNe, Bool.not_true, Bool.not_false, r0, r4]
    intro jid hjid
    simp -implicitDefEqProofs only [go_sem, ↓reduceIte, Nat.reduceLT, Nat.reduceEqDiff, Nat.reduceAdd, Nat.reduceLeDiff, Nat.reduceMul, Nat.reduceSub, Int.natCast_zero, Int.ofNat_zero, Int.natCast_one, Int.cast_ofNat_Int, bne_self_eq_false, beq_self_eq_true, Int.reduceBEq, Int.reduceBNe, Bool.not_true, Bool.not_false, r0, r4]
    have hne : jid ≠ id := fun e => by
      obtain ⟨y, hy, _⟩ := hd2
      rw [e, hy] at hjid; cases hjid
    have hjh : h jid = none := by
      cases hh : h jid with
      | none => rfl
      | some k => rw [kp _ _ hne hh] at hjid; cases hjid
    have hsj : ∀ i ∈ sp, i ≠ jid := fun i hi e => by
      obtain ⟨n, hn⟩ := hg2.has i hi
      rw [e, hjid] at hn; cases hn
    refine .same (.refl _) ⟨_, rfl, hd2.keep (.new hjid), fun j k e hj => ?_, jid, sp, rfl, hjh, ⟨_, _, upd_same .., hg2.touch .upd (fun i hi => by simp [hsj i hi]), fun g => rows_of _ g⟩, fun i hi => ⟨hsp i hi, hsj i hi⟩⟩
    have h2 := kp j k e hj
    rw [upd_other _ _ (fun e => by subst e; rw [h2] at hjid; cases hjid)]
    exact h2
  · have t1 : (((c2 : Nat) : Int) != 0) = true := by simp [hc]
    simp -implicitDefEqProofs only [go_sem, ↓reduceIte, Nat.reduceLT, Nat.reduceEqDiff, Nat.reduceAdd, Nat.reduceLeDiff, Nat.reduceMul, Nat.reduceSub, Int.natCast_zero, Int.ofNat_zero, Int.natCast_one, Int.cast_ofNat_Int, bne_self_eq_false, beq_self_eq_true, Int.reduceBEq, Int.reduceBNe, Bool.not_true, Bool.not_false, r0, r4, t1]
    exact .same (.refl _) ⟨_, rfl, hd2, kp, by rw [if_neg hc]⟩
end Go.Proofs.Ytidpcjblciompaa
