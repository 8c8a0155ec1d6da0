/- The law JournalPlays: pack 4 of its texts. -/
import Derived.Test.YtidpcjblciompaaQ1
import Derived.Test.YtidpcjblciompaaQ2
import Derived.Test.YtidpcjblciompaaQ3
/- The journal. -/
set_option linter.unusedSimpArgs false
set_option linter.unusedVariables false
namespace Go.Proofs.Ytidpcjblciompaa
open Go Go.Ab

/-- All that is owned but some things is as it was. -/
def Touch (S : List Nat) (h h' : Heap) : Prop := ∀ j k, j ∉ S → h j = some k → h' j = some k
theorem Touch.refl (S : List Nat) (h : Heap) : Touch S h h := fun _ _ _ e => e
theorem Touch.trans {S T : List Nat} {a b c : Heap} (x : Touch S a b) (y : Touch T b c) : Touch (S ++ T) a c := fun j k e hj => y j k (fun h => e (by simp [h])) (x j k (fun h => e (by simp [h])) hj)
theorem Touch.of {S : List Nat} {h h' : Heap} (hs : Ab.Sub h h') : Touch S h h' := fun _ _ _ e => hs _ _ e
theorem Touch.keep {i : Nat} {h h' : Heap} (hs : Keep i h h') : Touch [i] h h' := fun j k e hj => hs j k (fun hh => e (by simp [hh])) hj
theorem Touch.upd {h : Heap} {i : Nat} {k : Option Blk} : Touch [i] h (upd h i k) := Touch.keep (Keep.upd i k)
theorem Touch.mono {S T : List Nat} {h h' : Heap} (ht : Touch S h h') (hs : ∀ i ∈ S, i ∈ T ∨ h i = none) : Touch T h h' := fun j k e hj => ht j k (fun h => by
  rcases hs j h with h1 | h1
  · exact e h1
  · rw [h1] at hj; cases hj) hj

theorem GrowAt.touch {h h' : Heap} {y : AV} {xs : List AV} {sp S : List Nat} (hg : GrowAt h y xs sp) (ht : Touch S h h') (hn : ∀ i ∈ sp, i ∉ S) : GrowAt h' y xs sp := by
  rcases hg with ⟨rfl, rfl⟩ | ⟨k, rfl, k1, rfl⟩
  · exact .inl ⟨rfl, rfl⟩
  · exact .inr ⟨k, rfl, ht _ _ (hn k (by simp)) k1, rfl⟩
theorem GrowAt.has {h : Heap} {y : AV} {xs : List AV} {sp : List Nat} (hg : GrowAt h y xs sp) : ∀ i ∈ sp, ∃ n, h i = some (.spare n 1) := by
  rcases hg with ⟨rfl, rfl⟩ | ⟨k, rfl, k1, rfl⟩
  · simp
  · simp [k1]
theorem GrowAt.app {h : Heap} {y v : AV} {xs zs : List AV} {sp : List Nat} {Q : AV → Heap → Prop} (hg : GrowAt h y xs sp) (hsrc : ∀ k : List AV → Prop, k zs → srcA U 27 h v k) (s1 : Sized 1 xs) (s2 : Sized 1 zs)
    (hlen : xs.length + zs.length ≤ 1000000000000) (hk : ∀ y' h' sp', GrowAt h' y' (xs ++ zs) sp' → Touch sp h h' → (∀ i ∈ sp', i ∈ sp ∨ h i = none) → Q y' h') : apK U h y v Q (.slice 27) := by
  have hl : (xs.length + zs.length) * 24 ≤ 140737488355328 := by omega
  rcases hg with ⟨rfl, rfl⟩ | ⟨k, rfl, k1, rfl⟩
  · refine (apK_full ..).mpr ⟨by rw [u27]; decide, by rw [u27b]; decide, hsrc _ ⟨by rw [u27]; exact s1, by rw [u27]; exact s2, by rw [u27b]; exact hl, fun hn => ?_, fun hn => .own fun id hid => ?_⟩⟩
    · subst hn
      exact hk _ _ [] (.inl ⟨by simp, rfl⟩) (.refl _ _) (by simp)
    · rw [u27]
      exact hk _ _ [id] (.inr ⟨id, rfl, by rw [upd_same, List.length_append], rfl⟩) (.of ((Ab.Sub.refl h).new hid _)) (by simp [hid])
  · refine (apK_own ..).mpr ⟨by rw [u27]; decide, by rw [u27b]; decide, hsrc _ ⟨by rw [u27]; exact s1, by rw [u27]; exact s2, by rw [u27b]; exact hl, by rw [u27]; exact k1, ?_⟩⟩
    rw [u27]
    exact hk _ _ [k] (.inr ⟨k, rfl, by rw [upd_same, List.length_append], rfl⟩) .upd (by simp)

/-- A journal. -/
def JAt (h : Heap) (t jid did : Nat) (ps : List (List UInt8)) (down : Bool) (sp : List Nat) : Prop :=
  ∃ y xs, h jid = some (.obj [.ptr did 0, y, .v (.bool down)] t) ∧ GrowAt h y xs sp ∧ ∀ g, Ab.Rows 5 g xs ps
theorem JAt.touch {h h' : Heap} {t jid did : Nat} {ps : List (List UInt8)} {down : Bool} {sp S : List Nat} (hj : JAt h t jid did ps down sp) (ht : Touch S h h') (h1 : jid ∉ S) (hn : ∀ i ∈ sp, i ∉ S) : JAt h' t jid did ps down sp := by
  obtain ⟨y, xs, a, b, c⟩ := hj
  exact ⟨y, xs, ht _ _ h1 a, b.touch ht hn, c⟩
theorem JAt.sub {h h' : Heap} {t jid did : Nat} {ps : List (List UInt8)} {down : Bool} {sp : List Nat} (hj : JAt h t jid did ps down sp) (ht : Ab.Sub h h') : JAt h' t jid did ps down sp :=
  hj.touch (S := []) (.of ht) (by simp) (by simp)

theorem down_ok (jid did : Nat) (ps : List (List UInt8)) (down : Bool) (sp : List Nat) (h : Heap) (hj : JAt h 84 jid did ps down sp) : FnOK Try.prog 42 [.ptr jid 0] h fun r h' => r = .v (.bool down) ∧ h' = h := by
  obtain ⟨y, xs, a, _, _⟩ := hj
  refine FnOK.body hU hm Try.func42 rfl (by kernel_rfl) 7 rfl [.tmp 2] rfl (Nat.le_of_ble_eq_true rfl) (fun hwf => ?_)
  simp -implicitDefEqProofs only [go_sem, ↓reduceIte, Nat.reduceLT, Nat.reduceEqDiff, Nat.reduceAdd, Nat.reduceLeDiff, Nat.reduceMul, Nat.reduceSub, Int.natCast_zero, Int.ofNat_zero, Int.natCast_one, Int.cast_ofNat_Int, bne_self_eq_false, beq_self_eq_true, Int.reduceBEq, Int.reduceBNe, Bool.not_true, Bool.not_false, a]
  exact .same (.refl _) ⟨rfl, rfl⟩

theorem records_ok (jid did : Nat) (ps : List (List UInt8)) (down : Bool) (sp : List Nat) (h : Heap) (hj : JAt h 84 jid did ps down sp) (hl : ps.length ≤ 1000000) (hp : ∀ p ∈ ps, p.length ≤ 1000000) :
    FnOK Try.prog 40 [.ptr jid 0] h fun r h' => ∃ q, r = .sl (ps.map rowA) q ∧ Ab.Sub h h' := by
  obtain ⟨y, xs, a, b, c⟩ := hj
  refine FnOK.body hU hm Try.func40 rfl (by kernel_rfl) 22 rfl [.tmp 2] rfl (Nat.le_of_ble_eq_true rfl) (fun hwf => ?_)
  obtain ⟨qy, rfl⟩ := b.row
  have hlen := (c h).1
  simp -implicitDefEqProofs only [go_sem, ↓reduceIte, Nat.reduceLT, Nat.reduceEqDiff, Nat.reduceAdd, Nat.reduceLeDiff, Nat.reduceMul, Nat.reduceSub, Int.natCast_zero, Int.ofNat_zero, Int.natCast_one, Int.cast_ofNat_Int, bne_self_eq_false, beq_self_eq_true, Int.reduceBEq, Int.reduceBNe, Bool.not_true, Bool.not_false, a]
  refine .intro (fun m ρ g => ∃ (i : Nat) (z : AV), Acc U 27 h g z ((ps.take i).map rowA) ∧ i ≤ ps.length ∧ m = ps.length - i ∧ lk ρ 3 = some z ∧ lk ρ 9 = some (.sl xs qy) ∧ lk ρ 10 = some (.v (.int .i64 xs.length)) ∧ lk ρ 11 = some (.v (.int .i64 i))) (ps.length - 0) ?_ ?_
  · refine ⟨0, _, .full (.refl h), by omega, rfl, ?_, ?_, ?_, ?_⟩ <;> simp -implicitDefEqProofs only [go_sem, ↓reduceIte, Nat.reduceLT, Nat.reduceEqDiff, Nat.reduceAdd, Nat.reduceLeDiff, Nat.reduceMul, Nat.reduceSub, Int.natCast_zero, Int.ofNat_zero, Int.natCast_one, Int.cast_ofNat_Int, bne_self_eq_false, beq_self_eq_true, Int.reduceBEq, Int.reduceBNe, Bool.not_true, Bool.not_false]
  · rintro m ρ g ⟨i, z, ha, hi, rfl, r3, r9, r10, r11⟩
    by_cases hc : i < ps.length
    · have d1 : decide ((i : Int) < (xs.length : Int)) = true := decide_eq_true (by omega)
      have w1 : IntKind.i64.wrap ((i : Int) + 1) = ((i + 1 : Nat) : Int) := by rw [wr64 _ (by omega)]; omega
      have hx := (c g).2 i (by omega) hc
      simp -implicitDefEqProofs only [go_sem, ↓reduceIte, Nat.reduceLT, Nat.reduceEqDiff, Nat.reduceAdd, Nat.reduceLeDiff, Nat.reduceMul, Nat.reduceSub, Int.natCast_zero, Int.ofNat_zero, Int.natCast_one, Int.cast_ofNat_Int, bne_self_eq_false, beq_self_eq_true, Int.reduceBEq, Int.reduceBNe, Bool.not_true, Bool.not_false, r3, r9, r10, r11, d1]
      refine .at i (by omega) (by rw [hx.cells]; rfl) ?_
      simp -implicitDefEqProofs only [go_sem, ↓reduceIte, Nat.reduceLT, Nat.reduceEqDiff, Nat.reduceAdd, Nat.reduceLeDiff, Nat.reduceMul, Nat.reduceSub, Int.natCast_zero, Int.ofNat_zero, Int.natCast_one, Int.cast_ofNat_Int, bne_self_eq_false, beq_self_eq_true, Int.reduceBEq, Int.reduceBNe, Bool.not_true, Bool.not_false, r3, r9, r10, r11, hx.cells, hx.noAgg, and_self]
      refine (clone_sl xs[i] ps[i] g hx (by have := hp _ (List.getElem_mem hc); omega)).pthen' ?_
      simp -implicitDefEqProofs only [go_sem, ↓reduceIte, Nat.reduceLT, Nat.reduceEqDiff, Nat.reduceAdd, Nat.reduceLeDiff, Nat.reduceMul, Nat.reduceSub, Int.natCast_zero, Int.ofNat_zero, Int.natCast_one, Int.cast_ofNat_Int, bne_self_eq_false, beq_self_eq_true, Int.reduceBEq, Int.reduceBNe, Bool.not_true, Bool.not_false, r3, r9, r10, r11]
      refine ha.app (v := .sl [rowA ps[i]] .full) (zs := [rowA ps[i]]) (by rw [u27]; decide) (by rw [u27b]; decide) (fun k hk => hk) (by rw [u27]; exact rowA_sized _) (by rw [u27]; simp [Sized, rowA, AV.cells]) (by rw [u27b]; simp; omega) fun z' g2 ha' hk' => ?_
      simp -implicitDefEqProofs only [go_sem, ↓reduceIte, Nat.reduceLT, Nat.reduceEqDiff, Nat.reduceAdd, Nat.reduceLeDiff, Nat.reduceMul, Nat.reduceSub, Int.natCast_zero, Int.ofNat_zero, Int.natCast_one, Int.cast_ofNat_Int, bne_self_eq_false, beq_self_eq_true, Int.reduceBEq, Int.reduceBNe, Bool.not_true, Bool.not_false, r3, r9, r10, r11, w1]
      refine ⟨_, ?_, i + 1, z', ?_, by omega, rfl, ?_, ?_, ?_, ?_⟩
      · omega
      · rw [List.take_succ_eq_append_getElem hc, List.map_append]; exact ha'
      all_goals simp -implicitDefEqProofs only [go_sem, ↓reduceIte, Nat.reduceLT, Nat.reduceEqDiff, Nat.reduceAdd, Nat.reduceLeDiff, Nat.reduceMul, Nat.reduceSub, Int.natCast_zero, Int.ofNat_zero, Int.natCast_one, Int.cast_ofNat_Int, bne_self_eq_false, beq_self_eq_true, Int.reduceBEq, Int.reduceBNe, Bool.not_true, Bool.not_false, r3, r9, r10, r11, w1]
    · obtain rfl : i = ps.length := by omega
      have d1 : decide ((ps.length : Int) < (xs.length : Int)) = false := decide_eq_false (by omega)
      simp -implicitDefEqProofs only [go_sem, ↓reduceIte, Nat.reduceLT, Nat.reduceEqDiff, Nat.reduceAdd, Nat.reduceLeDiff, Nat.reduceMul, Nat.reduceSub, Int.natCast_zero, Int.ofNat_zero, Int.natCast_one, Int.cast_ofNat_Int, bne_self_eq_false, beq_self_eq_true, Int.reduceBEq, Int.reduceBNe, Bool.not_true, Bool.not_false, r3, r9, r10, r11, d1]
      rw [List.take_length] at ha
      obtain ⟨q, rfl⟩ := ha.row
      exact .same (.refl _) ⟨q, rfl, ha.1⟩

def D.openD (d : D) : D × Nat :=
  let c := if (scan d.b).2 < d.b.length then d.cut ((scan d.b).2 : Nat) else (d, 0)
  if c.2 = 0 then c.1.sync else c
theorem D.openD_ok {d : D} (hd : d.ok) : d.openD.1.ok := by
  have h1 : (if (scan d.b).2 < d.b.length then d.cut ((scan d.b).2 : Nat) else (d, 0)).1.ok := by
    split
    · exact D.cut_ok hd _
    · exact hd
  unfold D.openD
  generalize (if (scan d.b).2 < d.b.length then d.cut ((scan d.b).2 : Nat) else (d, 0)) = c at h1
  show (if c.2 = 0 then c.1.sync else c).1.ok
  split
  · exact D.sync_ok h1
  · exact h1

theorem open_nil (h : Heap) : FnOK Try.prog 39 [.v (.pointer none)] h fun r h' => r = .tup [.v (.pointer none), .v (.int .i64 1)] ∧ h' = h := by
  refine FnOK.body hU hm Try.func39 rfl (by kernel_rfl) 35 rfl [.tmp 2, .tmp 3] rfl (Nat.le_of_ble_eq_true rfl) (fun hwf => ?_)
  simp -implicitDefEqProofs only [go_sem, ↓reduceIte, Nat.reduceLT, Nat.reduceEqDiff, Nat.reduceAdd, Nat.reduceLeDiff, Nat.reduceMul, Nat.reduceSub, Int.natCast_zero, Int.ofNat_zero, Int.natCast_one, Int.cast_ofNat_Int, bne_self_eq_false, beq_self_eq_true, Int.reduceBEq, Int.reduceBNe, Bool.not_true, Bool.not_false]
  exact .same (.refl _) ⟨rfl, rfl⟩

theorem open_ok (d : D) (hd : d.ok) (id : Nat) (h : Heap) (hdk : DiskAt h id d) :
    FnOK Try.prog 39 [.ptr id 0] h fun r h' => ∃ J, r = .tup [J, .v (.int .i64 (d.openD.2 : Nat))] ∧ DiskAt h' id d.openD.1 ∧ Keep id h h' ∧
      if d.openD.2 = 0 then ∃ jid sp, J = .ptr jid 0 ∧ h jid = none ∧ JAt h' 84 jid id (scan d.b).1 false sp ∧ ∀ i ∈ sp, h i = none ∧ i ≠ jid else J = .v (.pointer none) := by
  refine FnOK.of_wp hU Try.func39 rfl (by kernel_rfl) 35 rfl [.tmp 2, .tmp 3] rfl (Nat.le_of_ble_eq_true rfl) ?_
  refine .one hU hm ?_
  simp -implicitDefEqProofs only [go_sem, ↓reduceIte, Nat.reduceLT, Nat.reduceEqDiff, Nat.reduceAdd, Nat.reduceLeDiff, Nat.reduceMul, Nat.reduceSub, Int.natCast_zero, Int.ofNat_zero, Int.natCast_one, Int.cast_ofNat_Int, bne_self_eq_false, beq_self_eq_true, Int.reduceBEq, Int.reduceBNe, Bool.not_true, Bool.not_false]
  show WP _ _ _ _ _ _
  refine .one hU hm ?_
  simp -implicitDefEqProofs only [go_sem, ↓reduceIte, Nat.reduceLT, Nat.reduceEqDiff, Nat.reduceAdd, Nat.reduceLeDiff, Nat.reduceMul, Nat.reduceSub, Int.natCast_zero, Int.ofNat_zero, Int.natCast_one, Int.cast_ofNat_Int, bne_self_eq_false, beq_self_eq_true, Int.reduceBEq, Int.reduceBNe, Bool.not_true, Bool.not_false]
  show WP _ _ _ _ _ _
  have hlen : d.b.length ≤ 2000000 := by have := hd.1; have := hd.2.1; omega
  obtain ⟨at_, hat⟩ : ∃ n, (scan d.b).2 = n := ⟨_, rfl⟩
  have hatl := scan_le d.b
  rw [hat] at hatl
  refine .cut (fun ρ g => ∃ z sp, GrowAt g z ((scan d.b).1.map rowA) sp ∧ Ab.Sub h g ∧ (∀ i ∈ sp, h i = none) ∧ lk ρ 0 = some (.ptr id 0) ∧ lk ρ 4 = some z ∧ lk ρ 5 = some (.v (.int .i64 at_))) (.vc hU hm ?_) ?_
  · simp -implicitDefEqProofs only [go_sem, ↓reduceIte, Nat.reduceLT, Nat.reduceEqDiff, Nat.reduceAdd, Nat.reduceLeDiff, Nat.reduceMul, Nat.reduceSub, Int.natCast_zero, Int.ofNat_zero, Int.natCast_one, Int.cast_ofNat_Int, bne_self_eq_false, beq_self_eq_true, Int.reduceBEq, Int.reduceBNe, Bool.not_true, Bool.not_false]
    refine (read_ok' d hd id h hdk).pthen ?_
    simp -implicitDefEqProofs only [go_sem, ↓reduceIte, Nat.reduceLT, Nat.reduceEqDiff, Nat.reduceAdd, Nat.reduceLeDiff, Nat.reduceMul, Nat.reduceSub, Int.natCast_zero, Int.ofNat_zero, Int.natCast_one, Int.cast_ofNat_Int, bne_self_eq_false, beq_self_eq_true, Int.reduceBEq, Int.reduceBNe, Bool.not_true, Bool.not_false]
    refine (scan_ok _ d.b h (.sl _ _) hlen).mono fun r g ⟨z, sp, e1, hg, hs, hsp⟩ => ?_
    subst e1
    rw [hat]
    simp -implicitDefEqProofs only [go_sem, ↓reduceIte, Nat.reduceLT, Nat.reduceEqDiff, Nat.reduceAdd, Nat.reduceLeDiff, Nat.reduceMul, Nat.reduceSub, Int.natCast_zero, Int.ofNat_zero, Int.natCast_one, Int.cast_ofNat_Int, bne_self_eq_false, beq_self_eq_true, Int.reduceBEq, Int.reduceBNe, Bool.not_true, Bool.not_false]
    refine ⟨z, sp, hg, hs, hsp, ?_, ?_, ?_⟩ <;> simp -implicitDefEqProofs only [go_sem, ↓reduceIte, Nat.reduceLT, Nat.reduceEqDiff, Nat.reduceAdd, Nat.reduceLeDiff, Nat.reduceMul, Nat.reduceSub, Int.natCast_zero, Int.ofNat_zero, Int.natCast_one, Int.cast_ofNat_Int, bne_self_eq_false, beq_self_eq_true, Int.reduceBEq, Int.reduceBNe, Bool.not_true, Bool.not_false]
  rintro ρ g ⟨z, sp, hg, hs, hsp, r0, r4, r5⟩
  have hdk1 := hdk.keep hs.keepObj
  have hob : ∀ i ∈ sp, i ≠ id := fun i hi e => by
    obtain ⟨y, hy, _⟩ := hdk
    have := hsp i hi
    rw [e, hy] at this
    cases this
  refine .cut (fun ρ g => ∃ d1, d.openD = d1.sync ∧ d1.ok ∧ DiskAt g id d1 ∧ GrowAt g z ((scan d.b).1.map rowA) sp ∧ Keep id h g ∧ lk ρ 0 = some (.ptr id 0) ∧ lk ρ 4 = some z) (.vc hU hm ?_) ?_
  · simp -implicitDefEqProofs only [go_sem, ↓reduceIte, Nat.reduceLT, Nat.reduceEqDiff, Nat.reduceAdd, Nat.reduceLeDiff, Nat.reduceMul, Nat.reduceSub, Int.natCast_zero, Int.ofNat_zero, Int.natCast_one, Int.cast_ofNat_Int, bne_self_eq_false, beq_self_eq_true, Int.reduceBEq, Int.reduceBNe, Bool.not_true, Bool.not_false, r0, r4, r5]
    refine (len_ok' d id g hdk1).pthen ?_
    simp -implicitDefEqProofs only [go_sem, ↓reduceIte, Nat.reduceLT, Nat.reduceEqDiff, Nat.reduceAdd, Nat.reduceLeDiff, Nat.reduceMul, Nat.reduceSub, Int.natCast_zero, Int.ofNat_zero, Int.natCast_one, Int.cast_ofNat_Int, bne_self_eq_false, beq_self_eq_true, Int.reduceBEq, Int.reduceBNe, Bool.not_true, Bool.not_false, r0, r4, r5]
    refine .intro (fun e => ?_) (fun e => ?_)
    · have e := of_decide_eq_true e
      have e' : at_ < d.b.length := by omega
      simp -implicitDefEqProofs only [go_sem, ↓reduceIte, Nat.reduceLT, Nat.reduceEqDiff, Nat.reduceAdd, Nat.reduceLeDiff, Nat.reduceMul, Nat.reduceSub, Int.natCast_zero, Int.ofNat_zero, Int.natCast_one, Int.cast_ofNat_Int, bne_self_eq_false, beq_self_eq_true, Int.reduceBEq, Int.reduceBNe, Bool.not_true, Bool.not_false, r0, r4, r5]
      refine dthen (cut_ok d hd id g at_ hdk1) fun g1 hd1 kp => ?_
      have hO : d.openD = if (d.cut (at_ : Nat)).2 = 0 then (d.cut (at_ : Nat)).1.sync else d.cut (at_ : Nat) := by
        unfold D.openD; rw [hat, if_pos e']
      have ok1 := D.cut_ok hd at_
      generalize d.cut (at_ : Nat) = D0 at hO hd1 ok1 ⊢
      obtain ⟨D1, c1⟩ := D0
      simp only at hO hd1 ok1 ⊢
      simp -implicitDefEqProofs only [go_sem, ↓reduceIte, Nat.reduceLT, Nat.reduceEqDiff, Nat.reduceAdd, Nat.reduceLeDiff, Nat.reduceMul, Nat.reduceSub, Int.natCast_zero, Int.ofNat_zero, Int.natCast_one, Int.cast_ofNat_Int, bne_self_eq_false, beq_self_eq_true, Int.reduceBEq, Int.reduceBNe, Bool.not_true, Bool.not_false, r0, r4, r5]
      by_cases hc : c1 = 0
      · subst hc
        rw [if_pos rfl] at hO
        simp -implicitDefEqProofs only [go_sem, ↓reduceIte, Nat.reduceLT, Nat.reduceEqDiff, Nat.reduceAdd, Nat.reduceLeDiff, Nat.reduceMul, Nat.reduceSub, Int.natCast_zero, Int.ofNat_zero, Int.natCast_one, Int.cast_ofNat_Int, bne_self_eq_false, beq_self_eq_true, Int.reduceBEq, Int.reduceBNe, Bool.not_true, Bool.not_false, r0, r4, r5]
        refine ⟨D1, hO, ok1, hd1, hg.touch (Touch.keep kp) (fun i hi => by simp [hob i hi]), (hs.keep id).trans kp, ?_, ?_⟩ <;> simp -implicitDefEqProofs only [go_sem, ↓reduceIte, Nat.reduceLT, Nat.reduceEqDiff, Nat.reduceAdd, Nat.reduceLeDiff, Nat.reduceMul, Nat.reduceSub, Int.natCast_zero, Int.ofNat_zero, Int.natCast_one, Int.cast_ofNat_Int, bne_self_eq_false, beq_self_eq_true, Int.reduceBEq, Int.reduceBNe, Bool.not_true, Bool.not_false, r0, r4]
      · rw [if_neg hc] at hO
        have t1 : (((c1 : Nat) : Int) != 0) = true := by simp [hc]
        simp -implicitDefEqProofs only [go_sem, ↓reduceIte, Nat.reduceLT, Nat.reduceEqDiff, Nat.reduceAdd, Nat.reduceLeDiff, Nat.reduceMul, Nat.reduceSub, Int.natCast_zero, Int.ofNat_zero, Int.natCast_one, Int.cast_ofNat_Int, bne_self_eq_false, beq_self_eq_true, Int.reduceBEq, Int.reduceBNe, Bool.not_true, Bool.not_false, r0, r4, r5, t1]
        refine .same (.refl _) ⟨_, by rw [hO]; rfl, by rw [hO]; exact hd1, (hs.keep id).trans kp, ?_⟩
        rw [hO, if_neg hc]
    · have e := of_decide_eq_false e
      have e' : ¬ at_ < d.b.length := by omega
      have hO : d.openD = d.sync := by
        unfold D.openD; rw [hat, if_neg e']; rfl
      simp -implicitDefEqProofs only [go_sem, ↓reduceIte, Nat.reduceLT, Nat.reduceEqDiff, Nat.reduceAdd, Nat.reduceLeDiff, Nat.reduceMul, Nat.reduceSub, Int.natCast_zero, Int.ofNat_zero, Int.natCast_one, Int.cast_ofNat_Int, bne_self_eq_false, beq_self_eq_true, Int.reduceBEq, Int.reduceBNe, Bool.not_true, Bool.not_false, r0, r4, r5]
      refine ⟨d, hO, hd, hdk1, hg, hs.keep id, ?_, ?_⟩ <;> simp -implicitDefEqProofs only [go_sem, ↓reduceIte, Nat.reduceLT, Nat.reduceEqDiff, Nat.reduceAdd, Nat.reduceLeDiff, Nat.reduceMul, Nat.reduceSub, Int.natCast_zero, Int.ofNat_zero, Int.natCast_one, Int.cast_ofNat_Int, bne_self_eq_false, beq_self_eq_true, Int.reduceBEq, Int.reduceBNe, Bool.not_true, Bool.not_false, r0, r4]
  rintro ρ g1 ⟨d1, hO, ok1, hd1, hg1, kp1, r0, r4⟩
  refine .vc hU hm ?_
  simp -implicitDefEqProofs only [go_sem, ↓reduceIte, Nat.reduceLT, Nat.reduceEqDiff, Nat.reduceAdd, Nat.reduceLeDiff, Nat.reduceMul, Nat.reduceSub, Int.natCast_zero, Int.ofNat_zero, Int.natCast_one, Int.cast_ofNat_Int, bne_self_eq_false, beq_self_eq_true, Int.reduceBEq, Int.reduceBNe, Bool.not_true, Bool.not_false, r0, r4]
  refine dthen (sync_ok d1 ok1 id g1 hd1) fun g2 hd2 kp2 => ?_
  rw [hO]
  generalize d1.sync = D0 at hd2 ⊢
  obtain ⟨D2, c2⟩ := D0
  simp only at hd2 ⊢
  have kp := kp1.trans kp2
  have hg2 := hg1.touch (Touch.keep kp2) (fun i hi => by simp [hob i hi])
  simp -implicitDefEqProofs only [go_sem, ↓reduceIte, Nat.reduceLT, Nat.reduceEqDiff, Nat.reduceAdd, Nat.reduceLeDiff, Nat.reduceMul, Nat.reduceSub, Int.natCast_zero, Int.ofNat_zero, Int.natCast_one, Int.cast_ofNat_Int, bne_self_eq_false, beq_self_eq_true, Int.reduceBEq, Int.reduceBNe, Bool.not_true, Bool.not_false, r0, r4]
  by_cases hc : c2 = 0
  · subst hc
    obtain ⟨qz, rfl⟩ := hg2.row
    simp -implicitDefEqProofs only [go_sem, ↓reduceIte, Nat.reduceLT, Nat.reduceEqDiff, Nat.reduceAdd, Nat.reduceLeDiff, Nat.reduceMul, Nat.reduceSub, Int.natCast_zero, Int.ofNat_zero, Int.natCast_one, Int.cast_ofNat_Int, bne_self_eq_false, beq_self_eq_true, Int.reduceBEq, Int.reduceBNe, Bool.not_true, Bool.not_false, r0, r4]
    intro jid hjid
    simp -implicitDefEqProofs only [go_sem, ↓reduceIte, Nat.reduceLT, Nat.reduceEqDiff, Nat.reduceAdd, Nat.reduceLeDiff, Nat.reduceMul, Nat.reduceSub, Int.natCast_zero, Int.ofNat_zero, Int.natCast_one, Int.cast_ofNat_Int, bne_self_eq_false, beq_self_eq_true, Int.reduceBEq, Int.reduceBNe, Bool.not_true, Bool.not_false, r0, r4]
    have hne : jid ≠ id := fun e => by
      obtain ⟨y, hy, _⟩ := hd2
      rw [e, hy] at hjid; cases hjid
    have hjh : h jid = none := by
      cases hh : h jid with
      | none => rfl
      | some k => rw [kp _ _ hne hh] at hjid; cases hjid
    have hsj : ∀ i ∈ sp, i ≠ jid := fun i hi e => by
      obtain ⟨n, hn⟩ := hg2.has i hi
      rw [e, hjid] at hn; cases hn
    refine .same (.refl _) ⟨_, rfl, hd2.keep (.new hjid), fun j k e hj => ?_, jid, sp, rfl, hjh, ⟨_, _, upd_same .., hg2.touch .upd (fun i hi => by simp [hsj i hi]), fun g => rows_of _ g⟩, fun i hi => ⟨hsp i hi, hsj i hi⟩⟩
    have h2 := kp j k e hj
    rw [upd_other _ _ (fun e => by subst e; rw [h2] at hjid; cases hjid)]
    exact h2
  · have t1 : (((c2 : Nat) : Int) != 0) = true := by simp [hc]
    simp -implicitDefEqProofs only [go_sem, ↓reduceIte, Nat.reduceLT, Nat.reduceEqDiff, Nat.reduceAdd, Nat.reduceLeDiff, Nat.reduceMul, Nat.reduceSub, Int.natCast_zero, Int.ofNat_zero, Int.natCast_one, Int.cast_ofNat_Int, bne_self_eq_false, beq_self_eq_true, Int.reduceBEq, Int.reduceBNe, Bool.not_true, Bool.not_false, r0, r4, t1]
    exact .same (.refl _) ⟨_, rfl, hd2, kp, by rw [if_neg hc]⟩
end Go.Proofs.Ytidpcjblciompaa

/- The journal: Add. -/
set_option linter.unusedSimpArgs false
set_option linter.unusedVariables false
namespace Go.Proofs.Ytidpcjblciompaa
open Go Go.Ab

/-- What Add comes to: the disk, the records, is it down; the answer. -/
def jadd (d : D) (ps : List (List UInt8)) (down : Bool) (p : List UInt8) : (D × List (List UInt8) × Bool) × Nat :=
  if down = true then ((d, ps, true), 9) else if p.length = 0 ∨ 8192 < p.length then ((d, ps, false), 1) else
    if (d.append (frame p)).2 = 8 then (((d.append (frame p)).1, ps, false), 8) else
      if (if (d.append (frame p)).2 = 0 then (d.append (frame p)).1.sync else d.append (frame p)).2 = 0 then
        (((if (d.append (frame p)).2 = 0 then (d.append (frame p)).1.sync else d.append (frame p)).1, ps ++ [p], false), 0)
      else (((if (d.append (frame p)).2 = 0 then (d.append (frame p)).1.sync else d.append (frame p)).1, ps, true), 9)
theorem D.append_code (d : D) (b : List UInt8) : (d.append b).2 = 0 ∨ (d.append b).2 = 8 ∨ (d.append b).2 = 9 := by
  unfold D.append
  split
  · simp
  · split
    · simp
    · simp only
      split <;> simp
theorem D.sync_code (d : D) : d.sync.2 = 0 ∨ d.sync.2 = 9 := by
  unfold D.sync
  split
  · simp
  · split <;> simp
theorem jadd_ok {d : D} (hd : d.ok) (ps : List (List UInt8)) (down : Bool) (p : List UInt8) : (jadd d ps down p).1.1.ok := by
  have h1 := D.append_ok hd (frame p)
  have h2 : (if (d.append (frame p)).2 = 0 then (d.append (frame p)).1.sync else d.append (frame p)).1.ok := by
    split
    · exact D.sync_ok h1
    · exact h1
  unfold jadd
  generalize (if (d.append (frame p)).2 = 0 then (d.append (frame p)).1.sync else d.append (frame p)) = s at h2
  by_cases c1 : down = true
  · rw [if_pos c1]; exact hd
  · rw [if_neg c1]
    by_cases c2 : p.length = 0 ∨ 8192 < p.length
    · rw [if_pos c2]; exact hd
    · rw [if_neg c2]
      by_cases c3 : (d.append (frame p)).2 = 8
      · rw [if_pos c3]; exact h1
      · rw [if_neg c3]
        by_cases c4 : s.2 = 0
        · rw [if_pos c4]; exact h2
        · rw [if_neg c4]; exact h2

theorem add_ok (d : D) (hd : d.ok) (id jid : Nat) (ps : List (List UInt8)) (down : Bool) (sp : List Nat) (h : Heap) (x : AV) (p : List UInt8) (hdk : DiskAt h id d) (hj : JAt h 84 jid id ps down sp) (hx : By h x p) (hp : p.length ≤ 1000000) (hps : ps.length ≤ 1000000) :
    FnOK Try.prog 41 [.ptr jid 0, x] h fun r h' => r = .v (.int .i64 ((jadd d ps down p).2 : Nat)) ∧ ∃ sp', DiskAt h' id (jadd d ps down p).1.1 ∧ JAt h' 84 jid id (jadd d ps down p).1.2.1 (jadd d ps down p).1.2.2 sp' ∧
      Touch (id :: jid :: sp) h h' ∧ ∀ i ∈ sp', i ∈ sp ∨ h i = none := by
  obtain ⟨y, xs, hjid, hg, hrs⟩ := hj
  have hne : jid ≠ id := fun e => by
    obtain ⟨z, hz, _⟩ := hdk
    rw [← e, hjid] at hz
    simp only [Option.some.injEq, Blk.obj.injEq] at hz
    exact absurd hz.2 (by decide)
  refine FnOK.of_wp hU Try.func41 rfl (by kernel_rfl) 51 rfl [.tmp 4] rfl (Nat.le_of_ble_eq_true rfl) ?_
  refine .one hU hm ?_
  simp -implicitDefEqProofs only [go_sem, ↓reduceIte, Nat.reduceLT, Nat.reduceEqDiff, Nat.reduceAdd, Nat.reduceLeDiff, Nat.reduceMul, Nat.reduceSub, Int.natCast_zero, Int.ofNat_zero, Int.natCast_one, Int.cast_ofNat_Int, bne_self_eq_false, beq_self_eq_true, Int.reduceBEq, Int.reduceBNe, Bool.not_true, Bool.not_false]
  show WP _ _ _ _ _ _
  refine .one hU hm ?_
  cases down with
  | true =>
    have hJ : jadd d ps true p = ((d, ps, true), 9) := by simp [jadd]
    simp -implicitDefEqProofs only [go_sem, ↓reduceIte, Nat.reduceLT, Nat.reduceEqDiff, Nat.reduceAdd, Nat.reduceLeDiff, Nat.reduceMul, Nat.reduceSub, Int.natCast_zero, Int.ofNat_zero, Int.natCast_one, Int.cast_ofNat_Int, bne_self_eq_false, beq_self_eq_true, Int.reduceBEq, Int.reduceBNe, Bool.not_true, Bool.not_false, hjid]
    refine .same (.refl _) ?_
    rw [hJ]
    exact ⟨rfl, sp, hdk, ⟨y, xs, hjid, hg, hrs⟩, .refl _ _, fun i hi => .inl hi⟩
  | false =>
    simp -implicitDefEqProofs only [go_sem, ↓reduceIte, Nat.reduceLT, Nat.reduceEqDiff, Nat.reduceAdd, Nat.reduceLeDiff, Nat.reduceMul, Nat.reduceSub, Int.natCast_zero, Int.ofNat_zero, Int.natCast_one, Int.cast_ofNat_Int, bne_self_eq_false, beq_self_eq_true, Int.reduceBEq, Int.reduceBNe, Bool.not_true, Bool.not_false, hjid]
    show WP _ _ _ _ _ _
    refine .one hU hm ?_
    have bad : (p.length = 0 ∨ 8192 < p.length) → RetOK [.v (.int .i64 1)] h fun r h' => r = .v (.int .i64 ((jadd d ps false p).2 : Nat)) ∧ ∃ sp', DiskAt h' id (jadd d ps false p).1.1 ∧ JAt h' 84 jid id (jadd d ps false p).1.2.1 (jadd d ps false p).1.2.2 sp' ∧
        Touch (id :: jid :: sp) h h' ∧ ∀ i ∈ sp', i ∈ sp ∨ h i = none := fun hb => by
      have hJ : jadd d ps false p = ((d, ps, false), 1) := by unfold jadd; rw [if_neg (by simp), if_pos hb]
      refine .same (.refl _) ?_
      rw [hJ]
      exact ⟨rfl, sp, hdk, ⟨y, xs, hjid, hg, hrs⟩, .refl _ _, fun i hi => .inl hi⟩
    by_cases h0 : p.length = 0
    · have t0 : (((p.length : Nat) : Int) == 0) = true := by simp [h0]
      simp -implicitDefEqProofs only [go_sem, ↓reduceIte, Nat.reduceLT, Nat.reduceEqDiff, Nat.reduceAdd, Nat.reduceLeDiff, Nat.reduceMul, Nat.reduceSub, Int.natCast_zero, Int.ofNat_zero, Int.natCast_one, Int.cast_ofNat_Int, bne_self_eq_false, beq_self_eq_true, Int.reduceBEq, Int.reduceBNe, Bool.not_true, Bool.not_false, hx.len, t0]
      exact bad (.inl h0)
    · have t0 : (((p.length : Nat) : Int) == 0) = false := beq_eq_false_iff_ne.mpr (by omega)
      by_cases h1 : 8192 < p.length
      · have t1 : decide ((8192 : Int) < (p.length : Int)) = true := decide_eq_true (by omega)
        simp -implicitDefEqProofs only [go_sem, ↓reduceIte, Nat.reduceLT, Nat.reduceEqDiff, Nat.reduceAdd, Nat.reduceLeDiff, Nat.reduceMul, Nat.reduceSub, Int.natCast_zero, Int.ofNat_zero, Int.natCast_one, Int.cast_ofNat_Int, bne_self_eq_false, beq_self_eq_true, Int.reduceBEq, Int.reduceBNe, Bool.not_true, Bool.not_false, hx.len, t0, t1]
        exact bad (.inr h1)
      · have t1 : decide ((8192 : Int) < (p.length : Int)) = false := decide_eq_false (by omega)
        have hJ : jadd d ps false p = if (d.append (frame p)).2 = 8 then (((d.append (frame p)).1, ps, false), 8) else
            if (if (d.append (frame p)).2 = 0 then (d.append (frame p)).1.sync else d.append (frame p)).2 = 0 then
              (((if (d.append (frame p)).2 = 0 then (d.append (frame p)).1.sync else d.append (frame p)).1, ps ++ [p], false), 0)
            else (((if (d.append (frame p)).2 = 0 then (d.append (frame p)).1.sync else d.append (frame p)).1, ps, true), 9) := by
          have hno : ¬ (p.length = 0 ∨ 8192 < p.length) := by omega
          unfold jadd; rw [if_neg (by simp), if_neg hno]
        have hcode := D.append_code d (frame p)
        simp -implicitDefEqProofs only [go_sem, ↓reduceIte, Nat.reduceLT, Nat.reduceEqDiff, Nat.reduceAdd, Nat.reduceLeDiff, Nat.reduceMul, Nat.reduceSub, Int.natCast_zero, Int.ofNat_zero, Int.natCast_one, Int.cast_ofNat_Int, bne_self_eq_false, beq_self_eq_true, Int.reduceBEq, Int.reduceBNe, Bool.not_true, Bool.not_false, hx.len, t0, t1]
        show WP _ _ _ _ _ _
        refine .one hU hm ?_
        simp -implicitDefEqProofs only [go_sem, ↓reduceIte, Nat.reduceLT, Nat.reduceEqDiff, Nat.reduceAdd, Nat.reduceLeDiff, Nat.reduceMul, Nat.reduceSub, Int.natCast_zero, Int.ofNat_zero, Int.natCast_one, Int.cast_ofNat_Int, bne_self_eq_false, beq_self_eq_true, Int.reduceBEq, Int.reduceBNe, Bool.not_true, Bool.not_false]
        refine .calls (hm1 jid _) [0, 1, 2, 3, 4, 5, 6, 7] (.hm1 hjid) (by kernel_rfl) rfl ?_
        simp -implicitDefEqProofs only [go_sem, ↓reduceIte, Nat.reduceLT, Nat.reduceEqDiff, Nat.reduceAdd, Nat.reduceLeDiff, Nat.reduceMul, Nat.reduceSub, Int.natCast_zero, Int.ofNat_zero, Int.natCast_one, Int.cast_ofNat_Int, bne_self_eq_false, beq_self_eq_true, Int.reduceBEq, Int.reduceBNe, Bool.not_true, Bool.not_false, hjid]
        refine (frame_ok x p h hx hp).sthen fun g1 hs1 => ?_
        refine ⟨.hm1 (hs1 _ _ hjid), ?_⟩
        simp -implicitDefEqProofs only [go_sem, ↓reduceIte, Nat.reduceLT, Nat.reduceEqDiff, Nat.reduceAdd, Nat.reduceLeDiff, Nat.reduceMul, Nat.reduceSub, Int.natCast_zero, Int.ofNat_zero, Int.natCast_one, Int.cast_ofNat_Int, bne_self_eq_false, beq_self_eq_true, Int.reduceBEq, Int.reduceBNe, Bool.not_true, Bool.not_false]
        refine dthen (append_ok d hd id g1 _ (frame p) (hdk.keep hs1.keepObj) (.sl _ _) (by rw [frame_length]; omega)) fun g2 hd2 kp => ?_
        have hj2 : g2 jid = some (.obj [.ptr id 0, y, .v (.bool false)] 84) := kp _ _ hne (hs1 _ _ hjid)
        refine ⟨.hm1 hj2, ?_⟩
        have ok2 := D.append_ok hd (frame p)
        have hkp : Keep id h g2 := (hs1.keep id).trans kp
        have hgid : ∀ i ∈ sp, i ≠ id := fun i hi e => by
          obtain ⟨n, hn⟩ := hg.has i hi
          obtain ⟨z, hz, _⟩ := hdk
          rw [e, hz] at hn; cases hn
        have hg2 : GrowAt g2 y xs sp := hg.touch (Touch.keep hkp) (fun i hi => by simp [hgid i hi])
        have hx2 : By g2 x p := by
          obtain ⟨z, hz, _⟩ := hdk
          exact (hx.keep hkp hz (by decide))
        have hT2 : Touch (id :: jid :: sp) h g2 := (Touch.keep hkp).mono (fun i hi => .inl (by simp at hi; simp [hi]))
        generalize d.append (frame p) = A at hJ hcode hd2 ok2 ⊢
        obtain ⟨d2, c2⟩ := A
        simp only at hJ hcode hd2 ok2 ⊢
        simp -implicitDefEqProofs only [go_sem, ↓reduceIte, Nat.reduceLT, Nat.reduceEqDiff, Nat.reduceAdd, Nat.reduceLeDiff, Nat.reduceMul, Nat.reduceSub, Int.natCast_zero, Int.ofNat_zero, Int.natCast_one, Int.cast_ofNat_Int, bne_self_eq_false, beq_self_eq_true, Int.reduceBEq, Int.reduceBNe, Bool.not_true, Bool.not_false]
        show WP _ _ _ _ _ _
        refine .one hU hm ?_
        have downed : ∀ (g : Heap) (e : D) (ρ : Env), DiskAt g id e → g jid = some (.obj [.ptr id 0, y, .v (.bool false)] 84) → GrowAt g y xs sp → Touch (id :: jid :: sp) h g → jadd d ps false p = ((e, ps, true), 9) →
            (RetOK [.v (.int .i64 9)] (upd g jid (some (.obj [.ptr id 0, y, .v (.bool true)] 84))) fun r h' => r = .v (.int .i64 ((jadd d ps false p).2 : Nat)) ∧ ∃ sp', DiskAt h' id (jadd d ps false p).1.1 ∧ JAt h' 84 jid id (jadd d ps false p).1.2.1 (jadd d ps false p).1.2.2 sp' ∧
              Touch (id :: jid :: sp) h h' ∧ ∀ i ∈ sp', i ∈ sp ∨ h i = none) := fun g e ρ a1 a2 a3 a4 hJ => by
          rw [hJ]
          have hsj : ∀ i ∈ sp, i ≠ jid := fun i hi e => by
            obtain ⟨n, hn⟩ := hg.has i hi
            rw [e, hjid] at hn; cases hn
          have ht : Touch [jid] g (upd g jid (some (.obj [.ptr id 0, y, .v (.bool true)] 84))) := .upd
          refine .same (.refl _) ⟨rfl, sp, ?_, ⟨y, xs, upd_same .., a3.touch ht (fun i hi => by simp [hsj i hi]), hrs⟩, (a4.trans ht).mono (fun i hi => .inl (by simp at hi ⊢; rcases hi with h | h | h | h <;> simp [h])), fun i hi => .inl hi⟩
          obtain ⟨z, z1, z2⟩ := a1
          exact ⟨z, ht _ _ (by simp; exact fun e => hne e.symm) z1, z2.keep (Keep.upd jid _) a2 (by decide)⟩
        have hc0 := hcode
        rcases hcode with rfl | rfl | rfl
        · -- taken: sync
          simp -implicitDefEqProofs only [go_sem, ↓reduceIte, Nat.reduceLT, Nat.reduceEqDiff, Nat.reduceAdd, Nat.reduceLeDiff, Nat.reduceMul, Nat.reduceSub, Int.natCast_zero, Int.ofNat_zero, Int.natCast_one, Int.cast_ofNat_Int, bne_self_eq_false, beq_self_eq_true, Int.reduceBEq, Int.reduceBNe, Bool.not_true, Bool.not_false]
          refine .one hU hm ?_
          simp -implicitDefEqProofs only [go_sem, ↓reduceIte, Nat.reduceLT, Nat.reduceEqDiff, Nat.reduceAdd, Nat.reduceLeDiff, Nat.reduceMul, Nat.reduceSub, Int.natCast_zero, Int.ofNat_zero, Int.natCast_one, Int.cast_ofNat_Int, bne_self_eq_false, beq_self_eq_true, Int.reduceBEq, Int.reduceBNe, Bool.not_true, Bool.not_false, hj2]
          refine dthen (sync_ok d2 ok2 id g2 hd2) fun g3 hd3 kp3 => ?_
          have hj3 : g3 jid = some (.obj [.ptr id 0, y, .v (.bool false)] 84) := kp3 _ _ hne hj2
          have hg3 : GrowAt g3 y xs sp := hg2.touch (Touch.keep kp3) (fun i hi => by simp [hgid i hi])
          have hx3 : By g3 x p := by
            obtain ⟨z, hz, _⟩ := hd2
            exact (hx2.keep kp3 hz (by decide))
          have hT3 : Touch (id :: jid :: sp) h g3 := (hT2.trans (Touch.keep kp3)).mono (fun i hi => .inl (by simp at hi ⊢; rcases hi with h | h | h | h <;> simp [h]))
          have hcs := D.sync_code d2
          rw [if_neg (by decide), if_pos rfl] at hJ
          generalize d2.sync = A at hJ hcs hd3 ⊢
          obtain ⟨d3, c3⟩ := A
          simp only at hJ hcs hd3 ⊢
          rcases hcs with rfl | rfl
          · simp -implicitDefEqProofs only [go_sem, ↓reduceIte, Nat.reduceLT, Nat.reduceEqDiff, Nat.reduceAdd, Nat.reduceLeDiff, Nat.reduceMul, Nat.reduceSub, Int.natCast_zero, Int.ofNat_zero, Int.natCast_one, Int.cast_ofNat_Int, bne_self_eq_false, beq_self_eq_true, Int.reduceBEq, Int.reduceBNe, Bool.not_true, Bool.not_false]
            refine .one hU hm ?_
            simp -implicitDefEqProofs only [go_sem, ↓reduceIte, Nat.reduceLT, Nat.reduceEqDiff, Nat.reduceAdd, Nat.reduceLeDiff, Nat.reduceMul, Nat.reduceSub, Int.natCast_zero, Int.ofNat_zero, Int.natCast_one, Int.cast_ofNat_Int, bne_self_eq_false, beq_self_eq_true, Int.reduceBEq, Int.reduceBNe, Bool.not_true, Bool.not_false]
            refine .one hU hm ?_
            simp -implicitDefEqProofs only [go_sem, ↓reduceIte, Nat.reduceLT, Nat.reduceEqDiff, Nat.reduceAdd, Nat.reduceLeDiff, Nat.reduceMul, Nat.reduceSub, Int.natCast_zero, Int.ofNat_zero, Int.natCast_one, Int.cast_ofNat_Int, bne_self_eq_false, beq_self_eq_true, Int.reduceBEq, Int.reduceBNe, Bool.not_true, Bool.not_false]
            refine .last (hm1 jid _) [0, 1, 2, 3, 4, 5, 6, 7, 8, 9, 10] (.hm1 hj3) (by kernel_rfl) rfl (by kernel_rfl) rfl ?_
            simp -implicitDefEqProofs only [go_sem, ↓reduceIte, Nat.reduceLT, Nat.reduceEqDiff, Nat.reduceAdd, Nat.reduceLeDiff, Nat.reduceMul, Nat.reduceSub, Int.natCast_zero, Int.ofNat_zero, Int.natCast_one, Int.cast_ofNat_Int, bne_self_eq_false, beq_self_eq_true, Int.reduceBEq, Int.reduceBNe, Bool.not_true, Bool.not_false, hj3]
            refine (clone_sl x p g3 hx3 (by omega)).pthen' ?_
            obtain ⟨qy, rfl⟩ := hg3.row
            refine ⟨.hm1 hj3, ?_⟩
            simp -implicitDefEqProofs only [go_sem, ↓reduceIte, Nat.reduceLT, Nat.reduceEqDiff, Nat.reduceAdd, Nat.reduceLeDiff, Nat.reduceMul, Nat.reduceSub, Int.natCast_zero, Int.ofNat_zero, Int.natCast_one, Int.cast_ofNat_Int, bne_self_eq_false, beq_self_eq_true, Int.reduceBEq, Int.reduceBNe, Bool.not_true, Bool.not_false, hj3]
            refine hg3.app (v := .sl [rowA p] .full) (zs := [rowA p]) (fun k hk => hk) (hrs h).sized (by simp [Sized, rowA, AV.cells]) (by have := (hrs h).1; simp; omega) fun z g4 sp' hg4 ht4 hsp' => ?_
            have hsj : ∀ i ∈ sp, i ≠ jid := fun i hi e => by
              obtain ⟨n, hn⟩ := hg.has i hi
              rw [e, hjid] at hn; cases hn
            have hj4 : g4 jid = some (.obj [.ptr id 0, .sl xs qy, .v (.bool false)] 84) := ht4 _ _ (fun hi => hsj _ hi rfl) hj3
            refine ⟨.hm1 hj4, ?_⟩
            obtain ⟨qz, rfl⟩ := hg4.row
            simp -implicitDefEqProofs only [go_sem, ↓reduceIte, Nat.reduceLT, Nat.reduceEqDiff, Nat.reduceAdd, Nat.reduceLeDiff, Nat.reduceMul, Nat.reduceSub, Int.natCast_zero, Int.ofNat_zero, Int.natCast_one, Int.cast_ofNat_Int, bne_self_eq_false, beq_self_eq_true, Int.reduceBEq, Int.reduceBNe, Bool.not_true, Bool.not_false, hj4]
            refine .vc hU hm ?_
            simp -implicitDefEqProofs only [go_sem, ↓reduceIte, Nat.reduceLT, Nat.reduceEqDiff, Nat.reduceAdd, Nat.reduceLeDiff, Nat.reduceMul, Nat.reduceSub, Int.natCast_zero, Int.ofNat_zero, Int.natCast_one, Int.cast_ofNat_Int, bne_self_eq_false, beq_self_eq_true, Int.reduceBEq, Int.reduceBNe, Bool.not_true, Bool.not_false]
            have ht5 : Touch [jid] g4 (upd g4 jid (some (.obj [.ptr id 0, .sl (xs ++ [rowA p]) qz, .v (.bool false)] 84))) := .upd
            have hsj' : ∀ i ∈ sp', i ≠ jid := fun i hi e => by
              obtain ⟨n, hn⟩ := hg4.has i hi
              rw [e, hj4] at hn; cases hn
            rw [if_pos rfl] at hJ
            refine .same (.refl _) ?_
            rw [hJ]
            refine ⟨rfl, sp', ?_, ⟨_, _, upd_same .., hg4.touch ht5 (fun i hi => by simp [hsj' i hi]), fun g => rows_snoc (hrs g) (.sl _ _)⟩, ?_, fun i hi => ?_⟩
            · obtain ⟨z, z1, z2⟩ := hd3
              have hid4 : g4 id = some (.obj (d3.cells z) 75) := ht4 _ _ (fun hi => hgid _ hi rfl) z1
              have z4 : By g4 z d3.b := by
                rcases z2 with z2 | ⟨i, off, cs, rfl, a1, a2, a3⟩
                · exact .inl z2
                · exact .oa (ht4 _ _ (fun hi => by obtain ⟨n, hn⟩ := hg3.has i hi; rw [a1] at hn; cases hn) a1) a2 a3
              exact ⟨z, ht5 _ _ (by simp; exact fun e => hne e.symm) hid4, z4.keep (Keep.upd jid _) hj4 (by decide)⟩
            · exact ((hT3.trans ht4).trans ht5).mono (fun i hi => .inl (by simp at hi ⊢; grind))
            · rcases hsp' i hi with h1 | h1
              · exact .inl h1
              · cases hh : h i with
                | none => exact .inr rfl
                | some k =>
                  by_cases hin : i ∈ id :: jid :: sp
                  · simp only [List.mem_cons] at hin
                    rcases hin with e | e | e
                    · subst e; rw [hd3.choose_spec.1] at h1; cases h1
                    · subst e; rw [hj3] at h1; cases h1
                    · exact .inl e
                  · rw [hT3 i k hin hh] at h1; cases h1
          · simp -implicitDefEqProofs only [go_sem, ↓reduceIte, Nat.reduceLT, Nat.reduceEqDiff, Nat.reduceAdd, Nat.reduceLeDiff, Nat.reduceMul, Nat.reduceSub, Int.natCast_zero, Int.ofNat_zero, Int.natCast_one, Int.cast_ofNat_Int, bne_self_eq_false, beq_self_eq_true, Int.reduceBEq, Int.reduceBNe, Bool.not_true, Bool.not_false]
            refine .one hU hm ?_
            simp -implicitDefEqProofs only [go_sem, ↓reduceIte, Nat.reduceLT, Nat.reduceEqDiff, Nat.reduceAdd, Nat.reduceLeDiff, Nat.reduceMul, Nat.reduceSub, Int.natCast_zero, Int.ofNat_zero, Int.natCast_one, Int.cast_ofNat_Int, bne_self_eq_false, beq_self_eq_true, Int.reduceBEq, Int.reduceBNe, Bool.not_true, Bool.not_false, hj3]
            exact downed g3 d3 [] hd3 hj3 hg3 hT3 hJ
        · -- full
          simp -implicitDefEqProofs only [go_sem, ↓reduceIte, Nat.reduceLT, Nat.reduceEqDiff, Nat.reduceAdd, Nat.reduceLeDiff, Nat.reduceMul, Nat.reduceSub, Int.natCast_zero, Int.ofNat_zero, Int.natCast_one, Int.cast_ofNat_Int, bne_self_eq_false, beq_self_eq_true, Int.reduceBEq, Int.reduceBNe, Bool.not_true, Bool.not_false]
          refine .same (.refl _) ?_
          rw [hJ]
          exact ⟨rfl, sp, hd2, ⟨y, xs, hj2, hg2, hrs⟩, hT2, fun i hi => .inl hi⟩
        · simp -implicitDefEqProofs only [go_sem, ↓reduceIte, Nat.reduceLT, Nat.reduceEqDiff, Nat.reduceAdd, Nat.reduceLeDiff, Nat.reduceMul, Nat.reduceSub, Int.natCast_zero, Int.ofNat_zero, Int.natCast_one, Int.cast_ofNat_Int, bne_self_eq_false, beq_self_eq_true, Int.reduceBEq, Int.reduceBNe, Bool.not_true, Bool.not_false]
          refine .one hU hm ?_
          simp -implicitDefEqProofs only [go_sem, ↓reduceIte, Nat.reduceLT, Nat.reduceEqDiff, Nat.reduceAdd, Nat.reduceLeDiff, Nat.reduceMul, Nat.reduceSub, Int.natCast_zero, Int.ofNat_zero, Int.natCast_one, Int.cast_ofNat_Int, bne_self_eq_false, beq_self_eq_true, Int.reduceBEq, Int.reduceBNe, Bool.not_true, Bool.not_false, hj2]
          refine .one hU hm ?_
          simp -implicitDefEqProofs only [go_sem, ↓reduceIte, Nat.reduceLT, Nat.reduceEqDiff, Nat.reduceAdd, Nat.reduceLeDiff, Nat.reduceMul, Nat.reduceSub, Int.natCast_zero, Int.ofNat_zero, Int.natCast_one, Int.cast_ofNat_Int, bne_self_eq_false, beq_self_eq_true, Int.reduceBEq, Int.reduceBNe, Bool.not_true, Bool.not_false, hj2]
          exact downed g2 d2 [] hd2 hj2 hg2 hT2 hJ
end Go.Proofs.Ytidpcjblciompaa

/- The law JournalOpens. -/
set_option linter.unusedSimpArgs false
set_option linter.unusedVariables false
namespace Go.Proofs.Ytidpcjblciompaa
open Go Go.Ab

theorem GrowAt.keepObj {g g' : Heap} {y : AV} {xs : List AV} {sp : List Nat} (hg : GrowAt g y xs sp) (ht : Touch sp g g') : KeepObj g g' := fun j cs t hj => ht _ _ (fun hi => by
  obtain ⟨n, hn⟩ := hg.has j hi
  rw [hj] at hn; cases hn) hj
theorem GrowAt.keepD {g g' : Heap} {y : AV} {xs : List AV} {sp : List Nat} {id : Nat} {d : D} (hg : GrowAt g y xs sp) (hd : DiskAt g id d) (hk : Keep id g g') : GrowAt g' y xs sp :=
  hg.touch (Touch.keep hk) fun i hi => by
    obtain ⟨n, hn⟩ := hg.has i hi
    obtain ⟨z, hz, _⟩ := hd
    simp
    rintro rfl
    rw [hz] at hn; cases hn
theorem GrowAt.sub {g g' : Heap} {y : AV} {xs : List AV} {sp : List Nat} (hg : GrowAt g y xs sp) (hs : Ab.Sub g g') : GrowAt g' y xs sp := hg.touch (S := []) (.of hs) (by simp)
theorem JAt.keepD {g g' : Heap} {t jid : Nat} {ps : List (List UInt8)} {down : Bool} {sp : List Nat} {id did : Nat} {d : D} (hj : JAt g t jid did ps down sp) (hd : DiskAt g id d) (hne : jid ≠ id) (hk : Keep id g g') : JAt g' t jid did ps down sp := by
  obtain ⟨y, xs, a, b, c⟩ := hj
  exact ⟨y, xs, hk _ _ hne a, b.keepD hd hk, c⟩

/-- Opened with the power on and no fuse. -/
theorem D.openD0 {d : D} (hd : d.ok) (h1 : d.off = false) (h2 : d.f = 0) : d.openD = ({ d with b := d.b.take (scan d.b).2, sy := (scan d.b).2 }, 0) := by
  have hl := scan_le d.b
  have sync0 : ∀ e : D, e.off = false → e.f = 0 → e.sync = ({ e with sy := e.b.length }, 0) := fun e h1 h2 => by
    unfold D.sync
    rw [if_neg (by simp [h1]), D.burn0 h2, if_neg (by simp [h1])]
  unfold D.openD
  by_cases h : (scan d.b).2 < d.b.length
  · rw [if_pos h, D.cut0 h1 h2 hl]
    show (if (0 : Nat) = 0 then _ else _) = _
    rw [if_pos rfl]
    refine (sync0 ({ d with b := d.b.take (scan d.b).2, sy := min d.sy (scan d.b).2 } : D) h1 h2).trans ?_
    simp only [List.length_take, Nat.min_eq_left hl]
  · have e : (scan d.b).2 = d.b.length := by omega
    rw [if_neg h]
    show (if (0 : Nat) = 0 then _ else _) = _
    rw [if_pos rfl, sync0 _ h1 h2, e, List.take_length]
theorem scan_tail (ps : List (List UInt8)) (r : List UInt8) (h : ∀ p ∈ ps, 1 ≤ p.length ∧ p.length ≤ 8192) (hr : r.length < 8) : scan (frames ps ++ r) = (ps, (frames ps).length) := by
  rw [scan_frames ps r h, scan_none (beginsL_short r hr)]
  simp

set_option maxRecDepth 20000 in
theorem journalOpens_ok (b : List UInt8) (ls : List (List UInt8)) (hl : ls.length ≤ maxLen) (hb : b.length ≤ maxLen) (hls : ∀ p ∈ ls, p.length ≤ maxLen) (h : Heap) :
    FnOK Try.prog 11 [.sl (b.map byteA) .no, .sl (ls.map rowA) .no] h fun r _ => r = .v (.bool true) := by
  unfold maxLen at hl hb hls
  refine FnOK.of_wp hU Try.func11 rfl (by kernel_rfl) 140 rfl [.tmp 4] rfl (Nat.le_of_ble_eq_true rfl) ?_
  refine .one hU hm ?_
  simp -implicitDefEqProofs only [go_sem, ↓reduceIte, Nat.reduceLT, Nat.reduceEqDiff, Nat.reduceAdd, Nat.reduceLeDiff, Nat.reduceMul, Nat.reduceSub, Int.natCast_zero, Int.ofNat_zero, Int.natCast_one, Int.cast_ofNat_Int, bne_self_eq_false, beq_self_eq_true, Int.reduceBEq, Int.reduceBNe, Bool.not_true, Bool.not_false]
  refine .one hU hm ?_
  simp -implicitDefEqProofs only [go_sem, ↓reduceIte, Nat.reduceLT, Nat.reduceEqDiff, Nat.reduceAdd, Nat.reduceLeDiff, Nat.reduceMul, Nat.reduceSub, Int.natCast_zero, Int.ofNat_zero, Int.natCast_one, Int.cast_ofNat_Int, bne_self_eq_false, beq_self_eq_true, Int.reduceBEq, Int.reduceBNe, Bool.not_true, Bool.not_false]
  refine (new_ok 4000 (by omega) h).mono fun r g ⟨id, hid, e1, hd0, hs0⟩ => ?_
  subst e1
  simp -implicitDefEqProofs only [go_sem, ↓reduceIte, Nat.reduceLT, Nat.reduceEqDiff, Nat.reduceAdd, Nat.reduceLeDiff, Nat.reduceMul, Nat.reduceSub, Int.natCast_zero, Int.ofNat_zero, Int.natCast_one, Int.cast_ofNat_Int, bne_self_eq_false, beq_self_eq_true, Int.reduceBEq, Int.reduceBNe, Bool.not_true, Bool.not_false]
  refine .one hU hm ?_
  simp -implicitDefEqProofs only [go_sem, ↓reduceIte, Nat.reduceLT, Nat.reduceEqDiff, Nat.reduceAdd, Nat.reduceLeDiff, Nat.reduceMul, Nat.reduceSub, Int.natCast_zero, Int.ofNat_zero, Int.natCast_one, Int.cast_ofNat_Int, bne_self_eq_false, beq_self_eq_true, Int.reduceBEq, Int.reduceBNe, Bool.not_true, Bool.not_false]
  refine .one hU hm ?_
  simp -implicitDefEqProofs only [go_sem, ↓reduceIte, Nat.reduceLT, Nat.reduceEqDiff, Nat.reduceAdd, Nat.reduceLeDiff, Nat.reduceMul, Nat.reduceSub, Int.natCast_zero, Int.ofNat_zero, Int.natCast_one, Int.cast_ofNat_Int, bne_self_eq_false, beq_self_eq_true, Int.reduceBEq, Int.reduceBNe, Bool.not_true, Bool.not_false]
  refine .cut (fun ρ g => ∃ (w : AV) (xs : List AV) (sp : List Nat) (ps : List (List UInt8)), DiskAt g id ⟨4000, frames ps, 0, 0, false⟩ ∧ GrowAt g w xs sp ∧ (∀ g, Ab.Rows 5 g xs ps) ∧ (∀ p ∈ ps, 1 ≤ p.length ∧ p.length ≤ 41) ∧ ps.length ≤ 6 ∧ (frames ps).length ≤ 49 * 6 ∧
    lk ρ 0 = some (.sl (b.map byteA) .no) ∧ lk ρ 5 = some (.ptr id 0) ∧ lk ρ 7 = some w) (.vc hU hm ?_) ?_
  · simp -implicitDefEqProofs only [go_sem, ↓reduceIte, Nat.reduceLT, Nat.reduceEqDiff, Nat.reduceAdd, Nat.reduceLeDiff, Nat.reduceMul, Nat.reduceSub, Int.natCast_zero, Int.ofNat_zero, Int.natCast_one, Int.cast_ofNat_Int, bne_self_eq_false, beq_self_eq_true, Int.reduceBEq, Int.reduceBNe, Bool.not_true, Bool.not_false]
    refine .intro (fun m ρ g => ∃ (i : Nat) (w : AV) (xs : List AV) (sp : List Nat) (ps : List (List UInt8)), DiskAt g id ⟨4000, frames ps, 0, 0, false⟩ ∧ GrowAt g w xs sp ∧ (∀ g, Ab.Rows 5 g xs ps) ∧ (∀ p ∈ ps, 1 ≤ p.length ∧ p.length ≤ 41) ∧ ps.length = i ∧ (frames ps).length ≤ 49 * i ∧ i ≤ 6 ∧ i ≤ ls.length ∧ m = ls.length - i ∧
      lk ρ 0 = some (.sl (b.map byteA) .no) ∧ lk ρ 1 = some (.sl (ls.map rowA) .no) ∧ lk ρ 5 = some (.ptr id 0) ∧ lk ρ 7 = some w ∧ lk ρ 8 = some (.v (.int .i64 i))) (ls.length - 0) ?_ ?_
    · refine ⟨0, _, [], [], [], hd0, .inl ⟨rfl, rfl⟩, fun _ => .nil, by simp, rfl, by simp [frames], by omega, by omega, rfl, ?_, ?_, ?_, ?_, ?_⟩ <;> simp -implicitDefEqProofs only [go_sem, ↓reduceIte, Nat.reduceLT, Nat.reduceEqDiff, Nat.reduceAdd, Nat.reduceLeDiff, Nat.reduceMul, Nat.reduceSub, Int.natCast_zero, Int.ofNat_zero, Int.natCast_one, Int.cast_ofNat_Int, bne_self_eq_false, beq_self_eq_true, Int.reduceBEq, Int.reduceBNe, Bool.not_true, Bool.not_false]
    · rintro m ρ g ⟨i, w, xs, sp, ps, hd, hg, hrs, hps, hpl, hfl, hi6, hi, rfl, r0, r1, r5, r7, r8⟩
      by_cases hc : i < ls.length ∧ i < 6
      · obtain ⟨hc1, hc2⟩ := hc
        have d1 : decide ((i : Int) < (ls.length : Int)) = true := decide_eq_true (by omega)
        have d2 : decide ((i : Int) < 6) = true := decide_eq_true (by omega)
        have w1 : IntKind.i64.wrap ((i : Int) + 1) = ((i + 1 : Nat) : Int) := by rw [wr64 _ (by omega)]; omega
        obtain ⟨p, hp⟩ : ∃ p, ls[i] = p := ⟨_, rfl⟩
        have hpl2 := hls _ (List.getElem_mem hc1)
        rw [hp] at hpl2
        have m40 : (if (40 : Int) < (p.length : Int) then (40 : Int) else (p.length : Int)) = ((min p.length 40 : Nat) : Int) := by split <;> omega
        simp -implicitDefEqProofs only [go_sem, ↓reduceIte, Nat.reduceLT, Nat.reduceEqDiff, Nat.reduceAdd, Nat.reduceLeDiff, Nat.reduceMul, Nat.reduceSub, Int.natCast_zero, Int.ofNat_zero, Int.natCast_one, Int.cast_ofNat_Int, bne_self_eq_false, beq_self_eq_true, Int.reduceBEq, Int.reduceBNe, Bool.not_true, Bool.not_false, r0, r1, r5, r7, r8, List.length_map, d1, d2]
        refine .calls noHeap [0, 1, 2, 3, 4, 5, 6, 7, 8, 9, 10, 11, 12, 13, 14, 15] (fun _ _ h => by cases h) (by kernel_rfl) rfl ?_
        simp -implicitDefEqProofs only [go_sem, ↓reduceIte, Nat.reduceLT, Nat.reduceEqDiff, Nat.reduceAdd, Nat.reduceLeDiff, Nat.reduceMul, Nat.reduceSub, Int.natCast_zero, Int.ofNat_zero, Int.natCast_one, Int.cast_ofNat_Int, bne_self_eq_false, beq_self_eq_true, Int.reduceBEq, Int.reduceBNe, Bool.not_true, Bool.not_false, r0, r1, r5, r7, r8, List.length_map, w8]
        refine .at i (by simpa using hc1) (by rw [get_map]; rfl) ?_
        simp -implicitDefEqProofs only [go_sem, ↓reduceIte, Nat.reduceLT, Nat.reduceEqDiff, Nat.reduceAdd, Nat.reduceLeDiff, Nat.reduceMul, Nat.reduceSub, Int.natCast_zero, Int.ofNat_zero, Int.natCast_one, Int.cast_ofNat_Int, bne_self_eq_false, beq_self_eq_true, Int.reduceBEq, Int.reduceBNe, Bool.not_true, Bool.not_false, r0, r1, r5, r7, r8, get_map, hp, rowA]
        refine .at i (by simpa using hc1) (by rw [get_map]; rfl) ?_
        simp -implicitDefEqProofs only [go_sem, ↓reduceIte, Nat.reduceLT, Nat.reduceEqDiff, Nat.reduceAdd, Nat.reduceLeDiff, Nat.reduceMul, Nat.reduceSub, Int.natCast_zero, Int.ofNat_zero, Int.natCast_one, Int.cast_ofNat_Int, bne_self_eq_false, beq_self_eq_true, Int.reduceBEq, Int.reduceBNe, Bool.not_true, Bool.not_false, r0, r1, r5, r7, r8, get_map, hp, rowA, m40]
        have htk : (p.take (min p.length 40)).length ≤ 40 := by rw [List.length_take]; omega
        refine ⟨by omega, by omega, by omega, .acc fun z g1 hz hk => ?_⟩
        obtain ⟨P, hP⟩ : ∃ P, UInt8.ofNat i :: p.take (min p.length 40) = P := ⟨_, rfl⟩
        have hPl : 1 ≤ P.length ∧ P.length ≤ 41 := by rw [← hP]; simp only [List.length_cons]; omega
        have hz' : Acc U 5 g g1 z (P.map byteA) := by rw [← hP]; exact hz
        clear hz
        obtain ⟨qz, rfl⟩ := hz'.row
        have hs1 := hz'.1
        refine ⟨fun _ _ h => (by cases h), ?_⟩
        simp -implicitDefEqProofs only [go_sem, ↓reduceIte, Nat.reduceLT, Nat.reduceEqDiff, Nat.reduceAdd, Nat.reduceLeDiff, Nat.reduceMul, Nat.reduceSub, Int.natCast_zero, Int.ofNat_zero, Int.natCast_one, Int.cast_ofNat_Int, bne_self_eq_false, beq_self_eq_true, Int.reduceBEq, Int.reduceBNe, Bool.not_true, Bool.not_false, r0, r1, r5, r7, r8]
        refine (hg.sub hs1).app (v := .sl [.sl (P.map byteA) qz] .full) (zs := [.sl (P.map byteA) qz]) (fun k hk => hk) (hrs h).sized (by simp [Sized, AV.cells]) (by have := (hrs h).1; simp; omega) fun w2 g2 sp2 hg2 ht2 _ => ?_
        have hd2 := (hd.keep hs1.keepObj).keep ((hg.sub hs1).keepObj ht2)
        simp -implicitDefEqProofs only [go_sem, ↓reduceIte, Nat.reduceLT, Nat.reduceEqDiff, Nat.reduceAdd, Nat.reduceLeDiff, Nat.reduceMul, Nat.reduceSub, Int.natCast_zero, Int.ofNat_zero, Int.natCast_one, Int.cast_ofNat_Int, bne_self_eq_false, beq_self_eq_true, Int.reduceBEq, Int.reduceBNe, Bool.not_true, Bool.not_false, r0, r1, r5, r7, r8]
        refine (frame_ok _ P g2 (.sl _ _) (by omega)).sthen fun g3 hs3 => ?_
        simp -implicitDefEqProofs only [go_sem, ↓reduceIte, Nat.reduceLT, Nat.reduceEqDiff, Nat.reduceAdd, Nat.reduceLeDiff, Nat.reduceMul, Nat.reduceSub, Int.natCast_zero, Int.ofNat_zero, Int.natCast_one, Int.cast_ofNat_Int, bne_self_eq_false, beq_self_eq_true, Int.reduceBEq, Int.reduceBNe, Bool.not_true, Bool.not_false, r0, r1, r5, r7, r8]
        have hPf := frame_length P
        have ok3 : D.ok ⟨4000, frames ps, 0, 0, false⟩ := ⟨by show (frames ps).length ≤ 4000; omega, by show 4000 ≤ 1048576; decide, by show 0 ≤ _; omega, by show 0 < _; decide⟩
        refine dthen (append_ok _ ok3 id g3 _ (frame P) (hd2.keep hs3.keepObj) (.sl _ _) (by omega)) fun g4 hd4 kp4 => ?_
        rw [D.append0 rfl rfl (by show (frames ps).length + (frame P).length ≤ 4000; omega)] at hd4 ⊢
        simp -implicitDefEqProofs only [go_sem, ↓reduceIte, Nat.reduceLT, Nat.reduceEqDiff, Nat.reduceAdd, Nat.reduceLeDiff, Nat.reduceMul, Nat.reduceSub, Int.natCast_zero, Int.ofNat_zero, Int.natCast_one, Int.cast_ofNat_Int, bne_self_eq_false, beq_self_eq_true, Int.reduceBEq, Int.reduceBNe, Bool.not_true, Bool.not_false, r0, r1, r5, r7, r8, w1]
        refine ⟨_, ?_, i + 1, w2, xs ++ [.sl (P.map byteA) qz], sp2, ps ++ [P], by rw [frames_snoc]; exact hd4, (hg2.sub hs3).keepD (hd2.keep hs3.keepObj) kp4, fun g => rows_snoc (hrs g) (.sl _ _), ?_, by simp; omega, by rw [frames_snoc, List.length_append]; omega, by omega, by omega, rfl, ?_, ?_, ?_, ?_, ?_⟩
        · omega
        · intro q hq
          rcases List.mem_append.1 hq with h1 | h1
          · exact hps q h1
          · rw [List.mem_singleton.1 h1]; exact hPl
        all_goals simp -implicitDefEqProofs only [go_sem, ↓reduceIte, Nat.reduceLT, Nat.reduceEqDiff, Nat.reduceAdd, Nat.reduceLeDiff, Nat.reduceMul, Nat.reduceSub, Int.natCast_zero, Int.ofNat_zero, Int.natCast_one, Int.cast_ofNat_Int, bne_self_eq_false, beq_self_eq_true, Int.reduceBEq, Int.reduceBNe, Bool.not_true, Bool.not_false, r0, r1, r5, r7, r8, w1]
      · have exit : (decide ((i : Int) < (ls.length : Int)) = false) ∨ (decide ((i : Int) < (ls.length : Int)) = true ∧ decide ((i : Int) < 6) = false) := by
          by_cases h1 : i < ls.length
          · exact .inr ⟨decide_eq_true (by omega), decide_eq_false (by omega)⟩
          · exact .inl (decide_eq_false (by omega))
        rcases exit with d1 | ⟨d1, d2⟩
        · simp -implicitDefEqProofs only [go_sem, ↓reduceIte, Nat.reduceLT, Nat.reduceEqDiff, Nat.reduceAdd, Nat.reduceLeDiff, Nat.reduceMul, Nat.reduceSub, Int.natCast_zero, Int.ofNat_zero, Int.natCast_one, Int.cast_ofNat_Int, bne_self_eq_false, beq_self_eq_true, Int.reduceBEq, Int.reduceBNe, Bool.not_true, Bool.not_false, r0, r1, r5, r7, r8, List.length_map, d1]
          refine ⟨w, xs, sp, ps, hd, hg, hrs, hps, by omega, by omega, ?_, ?_, ?_⟩ <;> simp -implicitDefEqProofs only [go_sem, ↓reduceIte, Nat.reduceLT, Nat.reduceEqDiff, Nat.reduceAdd, Nat.reduceLeDiff, Nat.reduceMul, Nat.reduceSub, Int.natCast_zero, Int.ofNat_zero, Int.natCast_one, Int.cast_ofNat_Int, bne_self_eq_false, beq_self_eq_true, Int.reduceBEq, Int.reduceBNe, Bool.not_true, Bool.not_false, r0, r5, r7]
        · simp -implicitDefEqProofs only [go_sem, ↓reduceIte, Nat.reduceLT, Nat.reduceEqDiff, Nat.reduceAdd, Nat.reduceLeDiff, Nat.reduceMul, Nat.reduceSub, Int.natCast_zero, Int.ofNat_zero, Int.natCast_one, Int.cast_ofNat_Int, bne_self_eq_false, beq_self_eq_true, Int.reduceBEq, Int.reduceBNe, Bool.not_true, Bool.not_false, r0, r1, r5, r7, r8, List.length_map, d1, d2]
          refine ⟨w, xs, sp, ps, hd, hg, hrs, hps, by omega, by omega, ?_, ?_, ?_⟩ <;> simp -implicitDefEqProofs only [go_sem, ↓reduceIte, Nat.reduceLT, Nat.reduceEqDiff, Nat.reduceAdd, Nat.reduceLeDiff, Nat.reduceMul, Nat.reduceSub, Int.natCast_zero, Int.ofNat_zero, Int.natCast_one, Int.cast_ofNat_Int, bne_self_eq_false, beq_self_eq_true, Int.reduceBEq, Int.reduceBNe, Bool.not_true, Bool.not_false, r0, r5, r7]
  rintro ρ g1 ⟨w, xs, sp, ps, hd, hg, hrs, hps, hpl, hfl, r0, r5, r7⟩
  obtain ⟨B, hB⟩ : ∃ B, b.take (min b.length 7) = B := ⟨_, rfl⟩
  have hBl : B.length < 8 := by rw [← hB, List.length_take]; omega
  have ok1 : D.ok ⟨4000, frames ps, 0, 0, false⟩ := ⟨by show (frames ps).length ≤ 4000; omega, by show 4000 ≤ 1048576; decide, by show 0 ≤ _; omega, by show 0 < _; decide⟩
  have m7 : (if (7 : Int) < (b.length : Int) then (7 : Int) else (b.length : Int)) = ((min b.length 7 : Nat) : Int) := by split <;> omega
  have hps2 : ∀ p ∈ ps, 1 ≤ p.length ∧ p.length ≤ 8192 := fun p hp => ⟨(hps p hp).1, by have := (hps p hp).2; omega⟩
  have hps3 : ∀ p ∈ ps, p.length ≤ 1000000 := fun p hp => by have := (hps p hp).2; omega
  refine .one hU hm ?_
  simp -implicitDefEqProofs only [go_sem, ↓reduceIte, Nat.reduceLT, Nat.reduceEqDiff, Nat.reduceAdd, Nat.reduceLeDiff, Nat.reduceMul, Nat.reduceSub, Int.natCast_zero, Int.ofNat_zero, Int.natCast_one, Int.cast_ofNat_Int, bne_self_eq_false, beq_self_eq_true, Int.reduceBEq, Int.reduceBNe, Bool.not_true, Bool.not_false, r0, r5, r7, List.length_map, m7, hB]
  refine ⟨by omega, by omega, ?_⟩
  refine .one hU hm ?_
  simp -implicitDefEqProofs only [go_sem, ↓reduceIte, Nat.reduceLT, Nat.reduceEqDiff, Nat.reduceAdd, Nat.reduceLeDiff, Nat.reduceMul, Nat.reduceSub, Int.natCast_zero, Int.ofNat_zero, Int.natCast_one, Int.cast_ofNat_Int, bne_self_eq_false, beq_self_eq_true, Int.reduceBEq, Int.reduceBNe, Bool.not_true, Bool.not_false, r0, r5, r7]
  refine dthen (append_ok _ ok1 id g1 _ B hd (.sl _ _) (by omega)) fun g2 hd2 kp2 => ?_
  rw [D.append0 rfl rfl (by show (frames ps).length + B.length ≤ 4000; omega)] at hd2 ⊢
  have hg2 := hg.keepD hd kp2
  simp -implicitDefEqProofs only [go_sem, ↓reduceIte, Nat.reduceLT, Nat.reduceEqDiff, Nat.reduceAdd, Nat.reduceLeDiff, Nat.reduceMul, Nat.reduceSub, Int.natCast_zero, Int.ofNat_zero, Int.natCast_one, Int.cast_ofNat_Int, bne_self_eq_false, beq_self_eq_true, Int.reduceBEq, Int.reduceBNe, Bool.not_true, Bool.not_false, r0, r5, r7]
  refine .one hU hm ?_
  simp -implicitDefEqProofs only [go_sem, ↓reduceIte, Nat.reduceLT, Nat.reduceEqDiff, Nat.reduceAdd, Nat.reduceLeDiff, Nat.reduceMul, Nat.reduceSub, Int.natCast_zero, Int.ofNat_zero, Int.natCast_one, Int.cast_ofNat_Int, bne_self_eq_false, beq_self_eq_true, Int.reduceBEq, Int.reduceBNe, Bool.not_true, Bool.not_false, r0, r5, r7]
  have ok2 : D.ok ⟨4000, frames ps ++ B, 0, 0, false⟩ := ⟨by show (frames ps ++ B).length ≤ 4000; rw [List.length_append]; omega, by show 4000 ≤ 1048576; decide, by show 0 ≤ _; omega, by show 0 < _; decide⟩
  have hO1 := D.openD0 ok2 rfl rfl
  have hsc := scan_tail ps B hps2 hBl
  refine (open_ok _ ok2 id g2 hd2).mono fun r g3 ⟨J, e1, hd3, kp3, hJ⟩ => ?_
  rw [hO1] at e1 hd3 hJ
  simp only [hsc, List.take_left, if_true] at e1 hd3 hJ
  obtain ⟨jid, sp2, rfl, hjn, hj3, hsp2⟩ := hJ
  subst e1
  have hg3 := hg2.keepD hd2 kp3
  obtain ⟨qw, rfl⟩ := hg3.row
  simp -implicitDefEqProofs only [go_sem, ↓reduceIte, Nat.reduceLT, Nat.reduceEqDiff, Nat.reduceAdd, Nat.reduceLeDiff, Nat.reduceMul, Nat.reduceSub, Int.natCast_zero, Int.ofNat_zero, Int.natCast_one, Int.cast_ofNat_Int, bne_self_eq_false, beq_self_eq_true, Int.reduceBEq, Int.reduceBNe, Bool.not_true, Bool.not_false, r0, r5, r7]
  refine .one hU hm ?_
  simp -implicitDefEqProofs only [go_sem, ↓reduceIte, Nat.reduceLT, Nat.reduceEqDiff, Nat.reduceAdd, Nat.reduceLeDiff, Nat.reduceMul, Nat.reduceSub, Int.natCast_zero, Int.ofNat_zero, Int.natCast_one, Int.cast_ofNat_Int, bne_self_eq_false, beq_self_eq_true, Int.reduceBEq, Int.reduceBNe, Bool.not_true, Bool.not_false, r0, r5, r7]
  refine (records_ok jid id ps false sp2 g3 hj3 (by omega) hps3).mono fun r g4 ⟨q4, e1, hs4⟩ => ?_
  subst e1
  simp -implicitDefEqProofs only [go_sem, ↓reduceIte, Nat.reduceLT, Nat.reduceEqDiff, Nat.reduceAdd, Nat.reduceLeDiff, Nat.reduceMul, Nat.reduceSub, Int.natCast_zero, Int.ofNat_zero, Int.natCast_one, Int.cast_ofNat_Int, bne_self_eq_false, beq_self_eq_true, Int.reduceBEq, Int.reduceBNe, Bool.not_true, Bool.not_false, r0, r5, r7]
  refine (rows_ok (.sl [] .no) (.sl [] .no) _ _ q4 qw ps ps g4 (rows_of _ g4) (hrs g4) (by omega) hps3).pthen ?_
  rw [decide_eq_true rfl]
  simp -implicitDefEqProofs only [go_sem, ↓reduceIte, Nat.reduceLT, Nat.reduceEqDiff, Nat.reduceAdd, Nat.reduceLeDiff, Nat.reduceMul, Nat.reduceSub, Int.natCast_zero, Int.ofNat_zero, Int.natCast_one, Int.cast_ofNat_Int, bne_self_eq_false, beq_self_eq_true, Int.reduceBEq, Int.reduceBNe, Bool.not_true, Bool.not_false, r0, r5, r7]
  refine .one hU hm ?_
  simp -implicitDefEqProofs only [go_sem, ↓reduceIte, Nat.reduceLT, Nat.reduceEqDiff, Nat.reduceAdd, Nat.reduceLeDiff, Nat.reduceMul, Nat.reduceSub, Int.natCast_zero, Int.ofNat_zero, Int.natCast_one, Int.cast_ofNat_Int, bne_self_eq_false, beq_self_eq_true, Int.reduceBEq, Int.reduceBNe, Bool.not_true, Bool.not_false, r0, r5, r7]
  refine .cut (fun ρ g => g = g4 ∧ lk ρ 5 = some (.ptr id 0) ∧ lk ρ 7 = some (.sl xs qw) ∧ lk ρ 12 = some (.v (.int .i64 (frames ps).length))) (.vc hU hm ?_) ?_
  · have hxl := (hrs g4).1
    simp -implicitDefEqProofs only [go_sem, ↓reduceIte, Nat.reduceLT, Nat.reduceEqDiff, Nat.reduceAdd, Nat.reduceLeDiff, Nat.reduceMul, Nat.reduceSub, Int.natCast_zero, Int.ofNat_zero, Int.natCast_one, Int.cast_ofNat_Int, bne_self_eq_false, beq_self_eq_true, Int.reduceBEq, Int.reduceBNe, Bool.not_true, Bool.not_false, r5, r7]
    refine .intro (fun m ρ g => g = g4 ∧ ∃ (i : Nat), i ≤ ps.length ∧ m = ps.length - i ∧ lk ρ 5 = some (.ptr id 0) ∧ lk ρ 7 = some (.sl xs qw) ∧ lk ρ 90 = some (.sl xs qw) ∧ lk ρ 91 = some (.v (.int .i64 xs.length)) ∧ lk ρ 92 = some (.v (.int .i64 i)) ∧ lk ρ 12 = some (.v (.int .i64 (frames (ps.take i)).length))) (ps.length - 0) ?_ ?_
    · refine ⟨rfl, 0, by omega, rfl, ?_, ?_, ?_, ?_, ?_, ?_⟩ <;> simp -implicitDefEqProofs only [go_sem, ↓reduceIte, Nat.reduceLT, Nat.reduceEqDiff, Nat.reduceAdd, Nat.reduceLeDiff, Nat.reduceMul, Nat.reduceSub, Int.natCast_zero, Int.ofNat_zero, Int.natCast_one, Int.cast_ofNat_Int, bne_self_eq_false, beq_self_eq_true, Int.reduceBEq, Int.reduceBNe, Bool.not_true, Bool.not_false, r5, r7]
      simp [frames]
    · rintro m ρ g ⟨rfl, i, hi, rfl, r5, r7, r90, r91, r92, r12⟩
      by_cases hc : i < ps.length
      · have d1 : decide ((i : Int) < (xs.length : Int)) = true := decide_eq_true (by omega)
        have w1 : IntKind.i64.wrap ((i : Int) + 1) = ((i + 1 : Nat) : Int) := by rw [wr64 _ (by omega)]; omega
        have hx := (hrs g).2 i (by omega) hc
        have hpp := hps _ (List.getElem_mem hc)
        have hfs : (frames (ps.take (i + 1))).length = (frames (ps.take i)).length + 8 + ps[i].length := by
          rw [List.take_succ_eq_append_getElem hc, frames_snoc, List.length_append, frame_length]; omega
        have hle : (frames (ps.take i)).length ≤ (frames ps).length := by
          have : frames ps = frames (ps.take i) ++ frames (ps.drop i) := by rw [frames, frames, frames, ← List.flatten_append, ← List.map_append, List.take_append_drop]
          rw [this, List.length_append]; omega
        have w2 : IntKind.i64.wrap (((frames (ps.take i)).length : Int) + 8) = (((frames (ps.take i)).length + 8 : Nat) : Int) := by rw [wr64 _ (by omega)]; omega
        have w3 : IntKind.i64.wrap ((((frames (ps.take i)).length + 8 : Nat) : Int) + (ps[i].length : Int)) = (((frames (ps.take i)).length + 8 + ps[i].length : Nat) : Int) := by rw [wr64 _ (by omega)]; omega
        simp -implicitDefEqProofs only [go_sem, ↓reduceIte, Nat.reduceLT, Nat.reduceEqDiff, Nat.reduceAdd, Nat.reduceLeDiff, Nat.reduceMul, Nat.reduceSub, Int.natCast_zero, Int.ofNat_zero, Int.natCast_one, Int.cast_ofNat_Int, bne_self_eq_false, beq_self_eq_true, Int.reduceBEq, Int.reduceBNe, Bool.not_true, Bool.not_false, r5, r7, r90, r91, r92, r12, d1]
        refine .at i (by omega) (by rw [hx.cells]; rfl) ?_
        simp -implicitDefEqProofs only [go_sem, ↓reduceIte, Nat.reduceLT, Nat.reduceEqDiff, Nat.reduceAdd, Nat.reduceLeDiff, Nat.reduceMul, Nat.reduceSub, Int.natCast_zero, Int.ofNat_zero, Int.natCast_one, Int.cast_ofNat_Int, bne_self_eq_false, beq_self_eq_true, Int.reduceBEq, Int.reduceBNe, Bool.not_true, Bool.not_false, r5, r7, r90, r91, r92, r12, hx.cells, hx.noAgg, and_self, hx.len, w1, w2, w3]
        refine ⟨_, ?_, rfl, i + 1, by omega, rfl, ?_, ?_, ?_, ?_, ?_, ?_⟩
        rotate_left 6
        · simp -implicitDefEqProofs only [go_sem, ↓reduceIte, Nat.reduceLT, Nat.reduceEqDiff, Nat.reduceAdd, Nat.reduceLeDiff, Nat.reduceMul, Nat.reduceSub, Int.natCast_zero, Int.ofNat_zero, Int.natCast_one, Int.cast_ofNat_Int, bne_self_eq_false, beq_self_eq_true, Int.reduceBEq, Int.reduceBNe, Bool.not_true, Bool.not_false, r12]
          rw [hfs]
        · omega
        all_goals simp -implicitDefEqProofs only [go_sem, ↓reduceIte, Nat.reduceLT, Nat.reduceEqDiff, Nat.reduceAdd, Nat.reduceLeDiff, Nat.reduceMul, Nat.reduceSub, Int.natCast_zero, Int.ofNat_zero, Int.natCast_one, Int.cast_ofNat_Int, bne_self_eq_false, beq_self_eq_true, Int.reduceBEq, Int.reduceBNe, Bool.not_true, Bool.not_false, r5, r7, r90, r91, r92, r12, w1]
      · obtain rfl : i = ps.length := by omega
        have d1 : decide ((ps.length : Int) < (xs.length : Int)) = false := decide_eq_false (by omega)
        rw [List.take_length] at r12
        simp -implicitDefEqProofs only [go_sem, ↓reduceIte, Nat.reduceLT, Nat.reduceEqDiff, Nat.reduceAdd, Nat.reduceLeDiff, Nat.reduceMul, Nat.reduceSub, Int.natCast_zero, Int.ofNat_zero, Int.natCast_one, Int.cast_ofNat_Int, bne_self_eq_false, beq_self_eq_true, Int.reduceBEq, Int.reduceBNe, Bool.not_true, Bool.not_false, r5, r7, r90, r91, r92, r12, d1]
        refine ⟨rfl, ?_, ?_, ?_⟩ <;> simp -implicitDefEqProofs only [go_sem, ↓reduceIte, Nat.reduceLT, Nat.reduceEqDiff, Nat.reduceAdd, Nat.reduceLeDiff, Nat.reduceMul, Nat.reduceSub, Int.natCast_zero, Int.ofNat_zero, Int.natCast_one, Int.cast_ofNat_Int, bne_self_eq_false, beq_self_eq_true, Int.reduceBEq, Int.reduceBNe, Bool.not_true, Bool.not_false, r5, r7, r12]
  rintro ρ g ⟨rfl, r5, r7, r12⟩
  have hd4 := hd3.keep hs4.keepObj
  have ok4 : D.ok ⟨4000, frames ps, (frames ps).length, 0, false⟩ := ⟨by show (frames ps).length ≤ 4000; omega, by show 4000 ≤ 1048576; decide, by show (frames ps).length ≤ (frames ps).length; omega, by show 0 < _; decide⟩
  have hO2 := D.openD0 ok4 rfl rfl
  have hsc2 := scan_tail ps [] hps2 (by decide)
  rw [List.append_nil] at hsc2
  refine .one hU hm ?_
  simp -implicitDefEqProofs only [go_sem, ↓reduceIte, Nat.reduceLT, Nat.reduceEqDiff, Nat.reduceAdd, Nat.reduceLeDiff, Nat.reduceMul, Nat.reduceSub, Int.natCast_zero, Int.ofNat_zero, Int.natCast_one, Int.cast_ofNat_Int, bne_self_eq_false, beq_self_eq_true, Int.reduceBEq, Int.reduceBNe, Bool.not_true, Bool.not_false, r5, r7, r12]
  refine (open_ok _ ok4 id g hd4).mono fun r g5 ⟨J, e1, hd5, kp5, hJ⟩ => ?_
  rw [hO2] at e1 hd5 hJ
  simp only [hsc2, List.take_length, if_true] at e1 hd5 hJ
  obtain ⟨jid5, sp5, rfl, hjn5, hj5, hsp5⟩ := hJ
  subst e1
  simp -implicitDefEqProofs only [go_sem, ↓reduceIte, Nat.reduceLT, Nat.reduceEqDiff, Nat.reduceAdd, Nat.reduceLeDiff, Nat.reduceMul, Nat.reduceSub, Int.natCast_zero, Int.ofNat_zero, Int.natCast_one, Int.cast_ofNat_Int, bne_self_eq_false, beq_self_eq_true, Int.reduceBEq, Int.reduceBNe, Bool.not_true, Bool.not_false, r5, r7, r12]
  refine .one hU hm ?_
  simp -implicitDefEqProofs only [go_sem, ↓reduceIte, Nat.reduceLT, Nat.reduceEqDiff, Nat.reduceAdd, Nat.reduceLeDiff, Nat.reduceMul, Nat.reduceSub, Int.natCast_zero, Int.ofNat_zero, Int.natCast_one, Int.cast_ofNat_Int, bne_self_eq_false, beq_self_eq_true, Int.reduceBEq, Int.reduceBNe, Bool.not_true, Bool.not_false, r5, r7, r12]
  refine (open_nil g5).pthen ?_
  simp -implicitDefEqProofs only [go_sem, ↓reduceIte, Nat.reduceLT, Nat.reduceEqDiff, Nat.reduceAdd, Nat.reduceLeDiff, Nat.reduceMul, Nat.reduceSub, Int.natCast_zero, Int.ofNat_zero, Int.natCast_one, Int.cast_ofNat_Int, bne_self_eq_false, beq_self_eq_true, Int.reduceBEq, Int.reduceBNe, Bool.not_true, Bool.not_false, r5, r7, r12]
  refine .vc hU hm ?_
  simp -implicitDefEqProofs only [go_sem, ↓reduceIte, Nat.reduceLT, Nat.reduceEqDiff, Nat.reduceAdd, Nat.reduceLeDiff, Nat.reduceMul, Nat.reduceSub, Int.natCast_zero, Int.ofNat_zero, Int.natCast_one, Int.cast_ofNat_Int, bne_self_eq_false, beq_self_eq_true, Int.reduceBEq, Int.reduceBNe, Bool.not_true, Bool.not_false, r5, r7, r12]
  refine (len_ok' _ id g5 hd5).pthen ?_
  simp -implicitDefEqProofs only [go_sem, ↓reduceIte, Nat.reduceLT, Nat.reduceEqDiff, Nat.reduceAdd, Nat.reduceLeDiff, Nat.reduceMul, Nat.reduceSub, Int.natCast_zero, Int.ofNat_zero, Int.natCast_one, Int.cast_ofNat_Int, bne_self_eq_false, beq_self_eq_true, Int.reduceBEq, Int.reduceBNe, Bool.not_true, Bool.not_false, r5, r7, r12]
  refine (records_ok jid5 id ps false sp5 g5 hj5 (by omega) hps3).mono fun r g6 ⟨q6, e1, hs6⟩ => ?_
  subst e1
  simp -implicitDefEqProofs only [go_sem, ↓reduceIte, Nat.reduceLT, Nat.reduceEqDiff, Nat.reduceAdd, Nat.reduceLeDiff, Nat.reduceMul, Nat.reduceSub, Int.natCast_zero, Int.ofNat_zero, Int.natCast_one, Int.cast_ofNat_Int, bne_self_eq_false, beq_self_eq_true, Int.reduceBEq, Int.reduceBNe, Bool.not_true, Bool.not_false, r5, r7, r12]
  refine (rows_ok (.sl [] .no) (.sl [] .no) _ _ q6 qw ps ps g6 (rows_of _ g6) (hrs g6) (by omega) hps3).pthen ?_
  rw [decide_eq_true rfl]
  simp -implicitDefEqProofs only [go_sem, ↓reduceIte, Nat.reduceLT, Nat.reduceEqDiff, Nat.reduceAdd, Nat.reduceLeDiff, Nat.reduceMul, Nat.reduceSub, Int.natCast_zero, Int.ofNat_zero, Int.natCast_one, Int.cast_ofNat_Int, bne_self_eq_false, beq_self_eq_true, Int.reduceBEq, Int.reduceBNe, Bool.not_true, Bool.not_false, r5, r7, r12]
  refine (journalRuns_ok g6).sthen fun g7 _ => ?_
  simp -implicitDefEqProofs only [go_sem, ↓reduceIte, Nat.reduceLT, Nat.reduceEqDiff, Nat.reduceAdd, Nat.reduceLeDiff, Nat.reduceMul, Nat.reduceSub, Int.natCast_zero, Int.ofNat_zero, Int.natCast_one, Int.cast_ofNat_Int, bne_self_eq_false, beq_self_eq_true, Int.reduceBEq, Int.reduceBNe, Bool.not_true, Bool.not_false, r5, r7, r12]
  exact .same (.refl _) rfl

theorem journalOpens_law (x0 x1 : AV) (d0 : Dat U 27 x0) (d1 : Dat U 38 x1) : FnOK Try.prog 11 [x0, x1] noHeap fun r _ => r = .v (.bool true) := by
  obtain ⟨b, rfl, h0⟩ := d0.bytes rfl rfl
  obtain ⟨ls, rfl, h1, h2⟩ := d1.list (f := rowA) (p := fun l => l.length ≤ maxLen) rfl fun y hy => hy.bytes rfl rfl
  exact journalOpens_ok b ls h1 h0 h2 noHeap
end Go.Proofs.Ytidpcjblciompaa

/- The law JournalFull. -/
set_option linter.unusedSimpArgs false
set_option linter.unusedVariables false
namespace Go.Proofs.Ytidpcjblciompaa
open Go Go.Ab

theorem jadd0 {d : D} {ps : List (List UInt8)} {p : List UInt8} (h1 : d.off = false) (h2 : d.f = 0) (hp1 : 1 ≤ p.length) (hp2 : p.length ≤ 8192) (hf : d.b.length + (frame p).length ≤ d.q) :
    jadd d ps false p = (({ d with b := d.b ++ frame p, sy := (d.b ++ frame p).length }, ps ++ [p], false), 0) := by
  have hno : ¬ (p.length = 0 ∨ 8192 < p.length) := by omega
  have hs : ({ d with b := d.b ++ frame p } : D).sync = ({ d with b := d.b ++ frame p, sy := (d.b ++ frame p).length }, 0) := D.sync0 h1 h2
  unfold jadd
  rw [if_neg (by simp), if_neg hno, D.append0 h1 h2 hf, if_neg (show ¬ ((0 : Nat) = 8) by decide), if_pos rfl, hs, if_pos rfl]
theorem jaddFull {d : D} {ps : List (List UInt8)} {p : List UInt8} (h1 : d.off = false) (hp1 : 1 ≤ p.length) (hp2 : p.length ≤ 8192) (hf : d.q < d.b.length + (frame p).length) :
    jadd d ps false p = ((d, ps, false), 8) := by
  have hno : ¬ (p.length = 0 ∨ 8192 < p.length) := by omega
  unfold jadd
  rw [if_neg (by simp), if_neg hno, D.appendFull h1 hf, if_pos rfl]
theorem scan_nil : scan [] = ([], 0) := scan_none (beginsL_short [] (by decide))

/-- What a round knows. -/
structure FullInv (q used n : Nat) (d : D) (ps : List (List UInt8)) : Prop where
  ok : d.ok
  q : d.q = q
  f : d.f = 0
  o : d.off = false
  b : d.b.length = used
  n : ps.length = n
  p : ∀ p ∈ ps, p.length ≤ 1000000

set_option maxRecDepth 20000 in
theorem journalFull_ok (qu : Int) (ls : List (List UInt8)) (hl : ls.length ≤ maxLen) (hls : ∀ p ∈ ls, p.length ≤ maxLen) (b1 : i64B qu) (h : Heap) :
    FnOK Try.prog 12 [iA qu, .sl (ls.map rowA) .no] h fun r _ => r = .v (.bool true) := by
  unfold maxLen at hl hls
  refine FnOK.of_wp hU Try.func12 rfl (by kernel_rfl) 111 rfl [.tmp 4] rfl (Nat.le_of_ble_eq_true rfl) ?_
  refine .one hU hm ?_
  simp -implicitDefEqProofs only [go_sem, ↓reduceIte, Nat.reduceLT, Nat.reduceEqDiff, Nat.reduceAdd, Nat.reduceLeDiff, Nat.reduceMul, Nat.reduceSub, Int.natCast_zero, Int.ofNat_zero, Int.natCast_one, Int.cast_ofNat_Int, bne_self_eq_false, beq_self_eq_true, Int.reduceBEq, Int.reduceBNe, Bool.not_true, Bool.not_false]
  refine .one hU hm ?_
  simp -implicitDefEqProofs only [go_sem, ↓reduceIte, Nat.reduceLT, Nat.reduceEqDiff, Nat.reduceAdd, Nat.reduceLeDiff, Nat.reduceMul, Nat.reduceSub, Int.natCast_zero, Int.ofNat_zero, Int.natCast_one, Int.cast_ofNat_Int, bne_self_eq_false, beq_self_eq_true, Int.reduceBEq, Int.reduceBNe, Bool.not_true, Bool.not_false]
  refine (within_ok qu 0 200 h b1 (by omega) (by omega) (by omega)).mono fun r h2 ⟨e1, Q, n1, n2, e2⟩ => ?_
  subst e1; subst e2
  obtain ⟨Q, rfl⟩ := Int.eq_ofNat_of_zero_le n1
  simp -implicitDefEqProofs only [go_sem, ↓reduceIte, Nat.reduceLT, Nat.reduceEqDiff, Nat.reduceAdd, Nat.reduceLeDiff, Nat.reduceMul, Nat.reduceSub, Int.natCast_zero, Int.ofNat_zero, Int.natCast_one, Int.cast_ofNat_Int, bne_self_eq_false, beq_self_eq_true, Int.reduceBEq, Int.reduceBNe, Bool.not_true, Bool.not_false]
  refine .one hU hm ?_
  simp -implicitDefEqProofs only [go_sem, ↓reduceIte, Nat.reduceLT, Nat.reduceEqDiff, Nat.reduceAdd, Nat.reduceLeDiff, Nat.reduceMul, Nat.reduceSub, Int.natCast_zero, Int.ofNat_zero, Int.natCast_one, Int.cast_ofNat_Int, bne_self_eq_false, beq_self_eq_true, Int.reduceBEq, Int.reduceBNe, Bool.not_true, Bool.not_false]
  refine (new_ok Q (by omega) _).mono fun r g ⟨id, hid, e1, hd0, hs0⟩ => ?_
  subst e1
  simp -implicitDefEqProofs only [go_sem, ↓reduceIte, Nat.reduceLT, Nat.reduceEqDiff, Nat.reduceAdd, Nat.reduceLeDiff, Nat.reduceMul, Nat.reduceSub, Int.natCast_zero, Int.ofNat_zero, Int.natCast_one, Int.cast_ofNat_Int, bne_self_eq_false, beq_self_eq_true, Int.reduceBEq, Int.reduceBNe, Bool.not_true, Bool.not_false]
  refine .one hU hm ?_
  simp -implicitDefEqProofs only [go_sem, ↓reduceIte, Nat.reduceLT, Nat.reduceEqDiff, Nat.reduceAdd, Nat.reduceLeDiff, Nat.reduceMul, Nat.reduceSub, Int.natCast_zero, Int.ofNat_zero, Int.natCast_one, Int.cast_ofNat_Int, bne_self_eq_false, beq_self_eq_true, Int.reduceBEq, Int.reduceBNe, Bool.not_true, Bool.not_false]
  refine .one hU hm ?_
  simp -implicitDefEqProofs only [go_sem, ↓reduceIte, Nat.reduceLT, Nat.reduceEqDiff, Nat.reduceAdd, Nat.reduceLeDiff, Nat.reduceMul, Nat.reduceSub, Int.natCast_zero, Int.ofNat_zero, Int.natCast_one, Int.cast_ofNat_Int, bne_self_eq_false, beq_self_eq_true, Int.reduceBEq, Int.reduceBNe, Bool.not_true, Bool.not_false]
  have ok0 : D.ok ⟨Q, [], 0, 0, false⟩ := ⟨by show 0 ≤ Q; omega, by show Q ≤ 1048576; omega, by show 0 ≤ _; omega, by show 0 < _; decide⟩
  have hO := D.openD0 ok0 rfl rfl
  refine (open_ok _ ok0 id g hd0).mono fun r g1 ⟨J, e1, hd1, kp1, hJ⟩ => ?_
  rw [hO] at e1 hd1 hJ
  simp only [scan_nil, List.take_nil, if_true] at e1 hd1 hJ
  obtain ⟨jid, sp, rfl, hjn, hj1, hsp⟩ := hJ
  subst e1
  simp -implicitDefEqProofs only [go_sem, ↓reduceIte, Nat.reduceLT, Nat.reduceEqDiff, Nat.reduceAdd, Nat.reduceLeDiff, Nat.reduceMul, Nat.reduceSub, Int.natCast_zero, Int.ofNat_zero, Int.natCast_one, Int.cast_ofNat_Int, bne_self_eq_false, beq_self_eq_true, Int.reduceBEq, Int.reduceBNe, Bool.not_true, Bool.not_false]
  refine .one hU hm ?_
  simp -implicitDefEqProofs only [go_sem, ↓reduceIte, Nat.reduceLT, Nat.reduceEqDiff, Nat.reduceAdd, Nat.reduceLeDiff, Nat.reduceMul, Nat.reduceSub, Int.natCast_zero, Int.ofNat_zero, Int.natCast_one, Int.cast_ofNat_Int, bne_self_eq_false, beq_self_eq_true, Int.reduceBEq, Int.reduceBNe, Bool.not_true, Bool.not_false]
  refine .one hU hm ?_
  simp -implicitDefEqProofs only [go_sem, ↓reduceIte, Nat.reduceLT, Nat.reduceEqDiff, Nat.reduceAdd, Nat.reduceLeDiff, Nat.reduceMul, Nat.reduceSub, Int.natCast_zero, Int.ofNat_zero, Int.natCast_one, Int.cast_ofNat_Int, bne_self_eq_false, beq_self_eq_true, Int.reduceBEq, Int.reduceBNe, Bool.not_true, Bool.not_false]
  have hi0 : FullInv Q 0 0 ⟨Q, [], 0, 0, false⟩ [] := ⟨ok0, rfl, rfl, rfl, rfl, rfl, by simp⟩
  refine .cut (fun ρ g => True) (.vc hU hm ?_) ?_
  · simp -implicitDefEqProofs only [go_sem, ↓reduceIte, Nat.reduceLT, Nat.reduceEqDiff, Nat.reduceAdd, Nat.reduceLeDiff, Nat.reduceMul, Nat.reduceSub, Int.natCast_zero, Int.ofNat_zero, Int.natCast_one, Int.cast_ofNat_Int, bne_self_eq_false, beq_self_eq_true, Int.reduceBEq, Int.reduceBNe, Bool.not_true, Bool.not_false]
    refine .intro (fun m ρ g => ∃ (i used n : Nat) (d : D) (ps : List (List UInt8)) (sp : List Nat), DiskAt g id d ∧ JAt g 84 jid id ps false sp ∧ FullInv Q used n d ps ∧ n ≤ i ∧ i ≤ 30 ∧ i ≤ ls.length ∧ m = ls.length - i ∧
      lk ρ 1 = some (.sl (ls.map rowA) .no) ∧ lk ρ 5 = some (.v (.int .i64 Q)) ∧ lk ρ 6 = some (.ptr id 0) ∧ lk ρ 8 = some (.ptr jid 0) ∧ lk ρ 10 = some (.v (.int .i64 used)) ∧ lk ρ 11 = some (.v (.int .i64 n)) ∧ lk ρ 12 = some (.v (.int .i64 i))) (ls.length - 0) ?_ ?_
    · refine ⟨0, 0, 0, _, [], sp, hd1, hj1, hi0, by omega, by omega, by omega, rfl, ?_, ?_, ?_, ?_, ?_, ?_, ?_⟩ <;> simp -implicitDefEqProofs only [go_sem, ↓reduceIte, Nat.reduceLT, Nat.reduceEqDiff, Nat.reduceAdd, Nat.reduceLeDiff, Nat.reduceMul, Nat.reduceSub, Int.natCast_zero, Int.ofNat_zero, Int.natCast_one, Int.cast_ofNat_Int, bne_self_eq_false, beq_self_eq_true, Int.reduceBEq, Int.reduceBNe, Bool.not_true, Bool.not_false]
    · rintro m ρ g ⟨i, used, n, d, ps, sp, hd, hj, hv, hni, hi30, hi, rfl, r1, r5, r6, r8, r10, r11, r12⟩
      by_cases hc : i < ls.length ∧ i < 30
      · obtain ⟨hc1, hc2⟩ := hc
        have d1 : decide ((i : Int) < (ls.length : Int)) = true := decide_eq_true (by omega)
        have d2 : decide ((i : Int) < 30) = true := decide_eq_true (by omega)
        have w1 : IntKind.i64.wrap ((i : Int) + 1) = ((i + 1 : Nat) : Int) := by rw [wr64 _ (by omega)]; omega
        obtain ⟨p, hp⟩ : ∃ p, ls[i] = p := ⟨_, rfl⟩
        have hpl2 := hls _ (List.getElem_mem hc1)
        rw [hp] at hpl2
        have m40 : (if (40 : Int) < (p.length : Int) then (40 : Int) else (p.length : Int)) = ((min p.length 40 : Nat) : Int) := by split <;> omega
        simp -implicitDefEqProofs only [go_sem, ↓reduceIte, Nat.reduceLT, Nat.reduceEqDiff, Nat.reduceAdd, Nat.reduceLeDiff, Nat.reduceMul, Nat.reduceSub, Int.natCast_zero, Int.ofNat_zero, Int.natCast_one, Int.cast_ofNat_Int, bne_self_eq_false, beq_self_eq_true, Int.reduceBEq, Int.reduceBNe, Bool.not_true, Bool.not_false, r1, r5, r6, r8, r10, r11, r12, List.length_map, d1, d2]
        refine .calls noHeap [0, 1, 2, 3, 4, 5, 6, 7, 8, 9, 10, 11, 12, 13, 14, 15] (fun _ _ h => by cases h) (by kernel_rfl) rfl ?_
        simp -implicitDefEqProofs only [go_sem, ↓reduceIte, Nat.reduceLT, Nat.reduceEqDiff, Nat.reduceAdd, Nat.reduceLeDiff, Nat.reduceMul, Nat.reduceSub, Int.natCast_zero, Int.ofNat_zero, Int.natCast_one, Int.cast_ofNat_Int, bne_self_eq_false, beq_self_eq_true, Int.reduceBEq, Int.reduceBNe, Bool.not_true, Bool.not_false, r1, r5, r6, r8, r10, r11, r12, List.length_map, w8]
        refine .at i (by simpa using hc1) (by rw [get_map]; rfl) ?_
        simp -implicitDefEqProofs only [go_sem, ↓reduceIte, Nat.reduceLT, Nat.reduceEqDiff, Nat.reduceAdd, Nat.reduceLeDiff, Nat.reduceMul, Nat.reduceSub, Int.natCast_zero, Int.ofNat_zero, Int.natCast_one, Int.cast_ofNat_Int, bne_self_eq_false, beq_self_eq_true, Int.reduceBEq, Int.reduceBNe, Bool.not_true, Bool.not_false, r1, r5, r6, r8, r10, r11, r12, get_map, hp, rowA]
        refine .at i (by simpa using hc1) (by rw [get_map]; rfl) ?_
        simp -implicitDefEqProofs only [go_sem, ↓reduceIte, Nat.reduceLT, Nat.reduceEqDiff, Nat.reduceAdd, Nat.reduceLeDiff, Nat.reduceMul, Nat.reduceSub, Int.natCast_zero, Int.ofNat_zero, Int.natCast_one, Int.cast_ofNat_Int, bne_self_eq_false, beq_self_eq_true, Int.reduceBEq, Int.reduceBNe, Bool.not_true, Bool.not_false, r1, r5, r6, r8, r10, r11, r12, get_map, hp, rowA, m40]
        have htk : (p.take (min p.length 40)).length ≤ 40 := by rw [List.length_take]; omega
        refine ⟨by omega, by omega, by omega, .acc fun z g1 hz hk => ?_⟩
        obtain ⟨P, hP⟩ : ∃ P, UInt8.ofNat i :: p.take (min p.length 40) = P := ⟨_, rfl⟩
        have hPl : 1 ≤ P.length ∧ P.length ≤ 41 := by rw [← hP]; simp only [List.length_cons]; omega
        have hz' : Acc U 5 g g1 z (P.map byteA) := by rw [← hP]; exact hz
        clear hz
        obtain ⟨qz, rfl⟩ := hz'.row
        have hs1 := hz'.1
        refine ⟨fun _ _ h => (by cases h), ?_⟩
        have hvb := hv.b
        have hvq := hv.q
        have hvo := hv.ok.1
        have hfl := frame_length P
        have w2 : IntKind.i64.wrap ((8 : Int) + (P.length : Int)) = ((8 + P.length : Nat) : Int) := by rw [wr64 _ (by omega)]; omega
        have w3 : IntKind.i64.wrap ((Q : Int) - (used : Int)) = ((Q - used : Nat) : Int) := by rw [wr64 _ (by omega)]; omega
        have w4 : IntKind.i64.wrap ((used : Int) + 8) = ((used + 8 : Nat) : Int) := by rw [wr64 _ (by omega)]; omega
        have w5 : IntKind.i64.wrap (((used + 8 : Nat) : Int) + (P.length : Int)) = ((used + 8 + P.length : Nat) : Int) := by rw [wr64 _ (by omega)]; omega
        have w6 : IntKind.i64.wrap ((n : Int) + 1) = ((n + 1 : Nat) : Int) := by rw [wr64 _ (by omega)]; omega
        simp -implicitDefEqProofs only [go_sem, ↓reduceIte, Nat.reduceLT, Nat.reduceEqDiff, Nat.reduceAdd, Nat.reduceLeDiff, Nat.reduceMul, Nat.reduceSub, Int.natCast_zero, Int.ofNat_zero, Int.natCast_one, Int.cast_ofNat_Int, bne_self_eq_false, beq_self_eq_true, Int.reduceBEq, Int.reduceBNe, Bool.not_true, Bool.not_false, r1, r5, r6, r8, r10, r11, r12, List.length_map, w2, w3]
        refine (add_ok d hv.ok id jid ps false sp g1 _ P (hd.keep hs1.keepObj) (hj.sub hs1) (.sl _ _) (by omega) (by have := hv.n; omega)).mono fun r g2 ⟨e1, sp2, hd2, hj2, _, _⟩ => ?_
        subst e1
        have hok2 := jadd_ok hv.ok ps false P
        by_cases hfit : 8 + P.length ≤ Q - used
        · have t1 : decide (((8 + P.length : Nat) : Int) ≤ ((Q - used : Nat) : Int)) = true := decide_eq_true (by omega)
          rw [jadd0 hv.o hv.f hPl.1 (by omega) (by omega)] at hd2 hj2 hok2 ⊢
          simp only at hd2 hj2 hok2 ⊢
          have hv2 : FullInv Q (used + 8 + P.length) (n + 1) { d with b := d.b ++ frame P, sy := (d.b ++ frame P).length } (ps ++ [P]) :=
            ⟨hok2, hv.q, hv.f, hv.o, by show (d.b ++ frame P).length = _; rw [List.length_append]; omega, by rw [List.length_append, hv.n]; rfl, fun q hq => by
              rcases List.mem_append.1 hq with h1 | h1
              · exact hv.p q h1
              · rw [List.mem_singleton.1 h1]; omega⟩
          generalize ({ d with b := d.b ++ frame P, sy := (d.b ++ frame P).length } : D) = d' at hd2 hv2
          generalize ps ++ [P] = ps' at hj2 hv2
          simp -implicitDefEqProofs only [go_sem, ↓reduceIte, Nat.reduceLT, Nat.reduceEqDiff, Nat.reduceAdd, Nat.reduceLeDiff, Nat.reduceMul, Nat.reduceSub, Int.natCast_zero, Int.ofNat_zero, Int.natCast_one, Int.cast_ofNat_Int, bne_self_eq_false, beq_self_eq_true, Int.reduceBEq, Int.reduceBNe, Bool.not_true, Bool.not_false, r1, r5, r6, r8, r10, r11, r12, t1]
          refine (records_ok jid id ps' false sp2 g2 hj2 (by have := hv2.n; omega) hv2.p).mono fun r g3 ⟨q3, e1, hs3⟩ => ?_
          subst e1
          simp -implicitDefEqProofs only [go_sem, ↓reduceIte, Nat.reduceLT, Nat.reduceEqDiff, Nat.reduceAdd, Nat.reduceLeDiff, Nat.reduceMul, Nat.reduceSub, Int.natCast_zero, Int.ofNat_zero, Int.natCast_one, Int.cast_ofNat_Int, bne_self_eq_false, beq_self_eq_true, Int.reduceBEq, Int.reduceBNe, Bool.not_true, Bool.not_false, r1, r5, r6, r8, r10, r11, r12, t1, List.length_map, hv2.n, w4, w5, w6]
          refine (len_ok' _ id g3 (hd2.keep hs3.keepObj)).pthen ?_
          simp -implicitDefEqProofs only [go_sem, ↓reduceIte, Nat.reduceLT, Nat.reduceEqDiff, Nat.reduceAdd, Nat.reduceLeDiff, Nat.reduceMul, Nat.reduceSub, Int.natCast_zero, Int.ofNat_zero, Int.natCast_one, Int.cast_ofNat_Int, bne_self_eq_false, beq_self_eq_true, Int.reduceBEq, Int.reduceBNe, Bool.not_true, Bool.not_false, r1, r5, r6, r8, r10, r11, r12, t1, List.length_map, hv2.n, hv2.b, w4, w5, w6]
          refine (down_ok jid id ps' false sp2 g3 (hj2.sub hs3)).pthen ?_
          simp -implicitDefEqProofs only [go_sem, ↓reduceIte, Nat.reduceLT, Nat.reduceEqDiff, Nat.reduceAdd, Nat.reduceLeDiff, Nat.reduceMul, Nat.reduceSub, Int.natCast_zero, Int.ofNat_zero, Int.natCast_one, Int.cast_ofNat_Int, bne_self_eq_false, beq_self_eq_true, Int.reduceBEq, Int.reduceBNe, Bool.not_true, Bool.not_false, r1, r5, r6, r8, r10, r11, r12, t1, w1, w4, w5, w6]
          refine ⟨_, ?_, i + 1, used + 8 + P.length, n + 1, d', ps', sp2, hd2.keep hs3.keepObj, hj2.sub hs3, hv2, by omega, by omega, by omega, rfl, ?_, ?_, ?_, ?_, ?_, ?_, ?_⟩
          · omega
          all_goals simp -implicitDefEqProofs only [go_sem, ↓reduceIte, Nat.reduceLT, Nat.reduceEqDiff, Nat.reduceAdd, Nat.reduceLeDiff, Nat.reduceMul, Nat.reduceSub, Int.natCast_zero, Int.ofNat_zero, Int.natCast_one, Int.cast_ofNat_Int, bne_self_eq_false, beq_self_eq_true, Int.reduceBEq, Int.reduceBNe, Bool.not_true, Bool.not_false, r1, r5, r6, r8, r10, r11, r12, w1, w4, w5, w6]
        · have t1 : decide (((8 + P.length : Nat) : Int) ≤ ((Q - used : Nat) : Int)) = false := decide_eq_false (by omega)
          rw [jaddFull hv.o hPl.1 (by omega) (by omega)] at hd2 hj2 hok2 ⊢
          simp only at hd2 hj2 hok2 ⊢
          simp -implicitDefEqProofs only [go_sem, ↓reduceIte, Nat.reduceLT, Nat.reduceEqDiff, Nat.reduceAdd, Nat.reduceLeDiff, Nat.reduceMul, Nat.reduceSub, Int.natCast_zero, Int.ofNat_zero, Int.natCast_one, Int.cast_ofNat_Int, bne_self_eq_false, beq_self_eq_true, Int.reduceBEq, Int.reduceBNe, Bool.not_true, Bool.not_false, r1, r5, r6, r8, r10, r11, r12, t1]
          refine (records_ok jid id ps false sp2 g2 hj2 (by have := hv.n; omega) hv.p).mono fun r g3 ⟨q3, e1, hs3⟩ => ?_
          subst e1
          simp -implicitDefEqProofs only [go_sem, ↓reduceIte, Nat.reduceLT, Nat.reduceEqDiff, Nat.reduceAdd, Nat.reduceLeDiff, Nat.reduceMul, Nat.reduceSub, Int.natCast_zero, Int.ofNat_zero, Int.natCast_one, Int.cast_ofNat_Int, bne_self_eq_false, beq_self_eq_true, Int.reduceBEq, Int.reduceBNe, Bool.not_true, Bool.not_false, r1, r5, r6, r8, r10, r11, r12, t1, List.length_map, hv.n]
          refine (len_ok' _ id g3 (hd2.keep hs3.keepObj)).pthen ?_
          simp -implicitDefEqProofs only [go_sem, ↓reduceIte, Nat.reduceLT, Nat.reduceEqDiff, Nat.reduceAdd, Nat.reduceLeDiff, Nat.reduceMul, Nat.reduceSub, Int.natCast_zero, Int.ofNat_zero, Int.natCast_one, Int.cast_ofNat_Int, bne_self_eq_false, beq_self_eq_true, Int.reduceBEq, Int.reduceBNe, Bool.not_true, Bool.not_false, r1, r5, r6, r8, r10, r11, r12, t1, List.length_map, hv.n, hv.b]
          refine (down_ok jid id ps false sp2 g3 (hj2.sub hs3)).pthen ?_
          simp -implicitDefEqProofs only [go_sem, ↓reduceIte, Nat.reduceLT, Nat.reduceEqDiff, Nat.reduceAdd, Nat.reduceLeDiff, Nat.reduceMul, Nat.reduceSub, Int.natCast_zero, Int.ofNat_zero, Int.natCast_one, Int.cast_ofNat_Int, bne_self_eq_false, beq_self_eq_true, Int.reduceBEq, Int.reduceBNe, Bool.not_true, Bool.not_false, r1, r5, r6, r8, r10, r11, r12, t1, w1]
          refine ⟨_, ?_, i + 1, used, n, d, ps, sp2, hd2.keep hs3.keepObj, hj2.sub hs3, hv, by omega, by omega, by omega, rfl, ?_, ?_, ?_, ?_, ?_, ?_, ?_⟩
          · omega
          all_goals simp -implicitDefEqProofs only [go_sem, ↓reduceIte, Nat.reduceLT, Nat.reduceEqDiff, Nat.reduceAdd, Nat.reduceLeDiff, Nat.reduceMul, Nat.reduceSub, Int.natCast_zero, Int.ofNat_zero, Int.natCast_one, Int.cast_ofNat_Int, bne_self_eq_false, beq_self_eq_true, Int.reduceBEq, Int.reduceBNe, Bool.not_true, Bool.not_false, r1, r5, r6, r8, r10, r11, r12, w1]
      · have exit : (decide ((i : Int) < (ls.length : Int)) = false) ∨ (decide ((i : Int) < (ls.length : Int)) = true ∧ decide ((i : Int) < 30) = false) := by
          by_cases h1 : i < ls.length
          · exact .inr ⟨decide_eq_true (by omega), decide_eq_false (by omega)⟩
          · exact .inl (decide_eq_false (by omega))
        rcases exit with d1 | ⟨d1, d2⟩
        · simp -implicitDefEqProofs only [go_sem, ↓reduceIte, Nat.reduceLT, Nat.reduceEqDiff, Nat.reduceAdd, Nat.reduceLeDiff, Nat.reduceMul, Nat.reduceSub, Int.natCast_zero, Int.ofNat_zero, Int.natCast_one, Int.cast_ofNat_Int, bne_self_eq_false, beq_self_eq_true, Int.reduceBEq, Int.reduceBNe, Bool.not_true, Bool.not_false, r1, r12, List.length_map, d1]
          exact KCut.at trivial
        · simp -implicitDefEqProofs only [go_sem, ↓reduceIte, Nat.reduceLT, Nat.reduceEqDiff, Nat.reduceAdd, Nat.reduceLeDiff, Nat.reduceMul, Nat.reduceSub, Int.natCast_zero, Int.ofNat_zero, Int.natCast_one, Int.cast_ofNat_Int, bne_self_eq_false, beq_self_eq_true, Int.reduceBEq, Int.reduceBNe, Bool.not_true, Bool.not_false, r1, r12, List.length_map, d1, d2]
          exact KCut.at trivial
  rintro ρ g -
  refine .vc hU hm ?_
  simp -implicitDefEqProofs only [go_sem, ↓reduceIte, Nat.reduceLT, Nat.reduceEqDiff, Nat.reduceAdd, Nat.reduceLeDiff, Nat.reduceMul, Nat.reduceSub, Int.natCast_zero, Int.ofNat_zero, Int.natCast_one, Int.cast_ofNat_Int, bne_self_eq_false, beq_self_eq_true, Int.reduceBEq, Int.reduceBNe, Bool.not_true, Bool.not_false]
  refine (journalRuns_ok g).sthen fun g7 _ => ?_
  simp -implicitDefEqProofs only [go_sem, ↓reduceIte, Nat.reduceLT, Nat.reduceEqDiff, Nat.reduceAdd, Nat.reduceLeDiff, Nat.reduceMul, Nat.reduceSub, Int.natCast_zero, Int.ofNat_zero, Int.natCast_one, Int.cast_ofNat_Int, bne_self_eq_false, beq_self_eq_true, Int.reduceBEq, Int.reduceBNe, Bool.not_true, Bool.not_false]
  exact .same (.refl _) rfl

theorem journalFull_law (x0 x1 : AV) (d0 : Dat U 3 x0) (d1 : Dat U 38 x1) : FnOK Try.prog 12 [x0, x1] noHeap fun r _ => r = .v (.bool true) := by
  obtain ⟨n, rfl, hn⟩ := d0.i64 rfl
  obtain ⟨ls, rfl, h1, h2⟩ := d1.list (f := rowA) (p := fun l => l.length ≤ maxLen) rfl fun y hy => hy.bytes rfl rfl
  exact journalFull_ok n ls h1 h2 hn noHeap
end Go.Proofs.Ytidpcjblciompaa

/- The law JournalKeeps. -/
set_option linter.unusedSimpArgs false
set_option linter.unusedVariables false
namespace Go.Proofs.Ytidpcjblciompaa
open Go Go.Ab

theorem GrowAt.ne {g : Heap} {y : AV} {xs : List AV} {sp : List Nat} {j : Nat} {cs : List AV} {t : TypeId} (hg : GrowAt g y xs sp) (hj : g j = some (.obj cs t)) : j ∉ sp := fun hi => by
  obtain ⟨n, hn⟩ := hg.has j hi
  rw [hj] at hn; cases hn

theorem jaddArm {F : List UInt8} {s n : Nat} {ps : List (List UInt8)} {p : List UInt8} (hn : n = 1 ∨ n = 2) (hp1 : 1 ≤ p.length) (hp2 : p.length ≤ 8192) (hf : F.length + (frame p).length ≤ 4000) :
    jadd ⟨4000, F, s, n, false⟩ ps false p = ((⟨4000, F ++ frame p, s, 0, true⟩, ps, true), 9) := by
  have hno : ¬ (p.length = 0 ∨ 8192 < p.length) := by omega
  have ha : ∀ n : Nat, D.append ⟨4000, F, s, n, false⟩ (frame p) = (D.burn ⟨4000, F ++ frame p, s, n, false⟩, if (D.burn ⟨4000, F ++ frame p, s, n, false⟩).off then 9 else 0) := fun n => by
    unfold D.append
    rw [if_neg (by simp), if_neg (show ¬ (4000 < F.length + (frame p).length) by omega)]
  unfold jadd
  rw [if_neg (by simp), if_neg hno, ha]
  rcases hn with rfl | rfl
  · rfl
  · rfl
theorem jaddDown (d : D) (ps : List (List UInt8)) (p : List UInt8) : jadd d ps true p = ((d, ps, true), 9) := by simp [jadd]

theorem flipTail_append (a b : List UInt8) (s : Nat) : flipTail (a ++ b) (a.length + s) = a ++ flipTail b s := by
  unfold flipTail
  rw [List.take_length_add_append, List.drop_length_add_append, List.append_assoc]

theorem boot_scan (ps : List (List UInt8)) (p : List UInt8) (hps : ∀ p ∈ ps, 1 ≤ p.length ∧ p.length ≤ 8192) (hp1 : 1 ≤ p.length) (hp2 : p.length ≤ 8192) (k t : Nat) (ht : t ≤ 4) :
    ∃ G, (G = ps ∨ G = ps ++ [p]) ∧ scan (D.boot ⟨4000, frames ps ++ frame p, (frames ps).length, 0, true⟩ k t).b = (G, (frames G).length) ∧ (D.boot ⟨4000, frames ps ++ frame p, (frames ps).length, 0, true⟩ k t).b.take (frames G).length = frames G := by
  have hb : (D.boot ⟨4000, frames ps ++ frame p, (frames ps).length, 0, true⟩ k t).b = frames ps ++ flipTail ((frame p).take (min k (frame p).length)) (min k (frame p).length - min t (min k (frame p).length)) := by
    show flipTail ((frames ps ++ frame p).take (D.left _ _)) (D.left _ _ - D.bad _ _ _) = _
    have e1 : D.left ⟨4000, frames ps ++ frame p, (frames ps).length, 0, true⟩ k = (frames ps).length + min k (frame p).length := by
      show (frames ps).length + min (k : Int).toNat ((frames ps ++ frame p).length - (frames ps).length) = _
      rw [List.length_append, Nat.add_sub_cancel_left, Int.toNat_natCast]
    have e2 : D.bad ⟨4000, frames ps ++ frame p, (frames ps).length, 0, true⟩ k t = min t (min k (frame p).length) := by
      unfold D.bad
      rw [e1]
      show min (t : Int).toNat ((frames ps).length + min k (frame p).length - (frames ps).length) = _
      rw [Nat.add_sub_cancel_left, Int.toNat_natCast]
    rw [e1, e2, List.take_length_add_append, Nat.add_sub_assoc (by omega), flipTail_append]
  rw [hb]
  by_cases hw : min k (frame p).length = (frame p).length ∧ t = 0
  · obtain ⟨h1, rfl⟩ := hw
    have e : flipTail ((frame p).take (min k (frame p).length)) (min k (frame p).length - min 0 (min k (frame p).length)) = frame p := by
      rw [h1, List.take_length]
      unfold flipTail
      simp
    rw [e]
    refine ⟨ps ++ [p], .inr rfl, ?_, ?_⟩
    · have := scan_tail (ps ++ [p]) [] (fun q hq => by
        rcases List.mem_append.1 hq with h | h
        · exact hps q h
        · rw [List.mem_singleton.1 h]; exact ⟨hp1, hp2⟩) (by decide)
      rw [List.append_nil, frames_snoc] at this
      rw [this, frames_snoc]
    · rw [frames_snoc, List.take_length]
  · refine ⟨ps, .inl rfl, ?_, List.take_left ..⟩
    have hn := torn_none p hp1 hp2 (min k (frame p).length) t (by omega) ht hw
    rw [scan_frames _ _ hps, scan_none hn]
    simp

/-- What a round of JournalKeeps knows. -/
def KeepsInv (g : Heap) (id jid : Nat) (ps : List (List UInt8)) (w : AV) : Prop :=
  ∃ (xs : List AV) (sp spw : List Nat), DiskAt g id ⟨4000, frames ps, (frames ps).length, 0, false⟩ ∧ JAt g 84 jid id ps false sp ∧ GrowAt g w xs spw ∧ (∀ g, Ab.Rows 5 g xs ps) ∧ (∀ i ∈ spw, i ∉ sp) ∧ (∀ p ∈ ps, 1 ≤ p.length ∧ p.length ≤ 41)

set_option maxRecDepth 20000 in
theorem journalKeeps_ok (ls : List (List UInt8)) (last : List UInt8) (fuse keep torn : Int) (hl : ls.length ≤ maxLen) (hls : ∀ p ∈ ls, p.length ≤ maxLen) (hla : last.length ≤ maxLen) (b1 : i64B fuse) (b2 : i64B keep) (b3 : i64B torn) (h : Heap) :
    FnOK Try.prog 13 [.sl (ls.map rowA) .no, .sl (last.map byteA) .no, iA fuse, iA keep, iA torn] h fun r _ => r = .v (.bool true) := by
  unfold maxLen at hl hls hla
  refine FnOK.of_wp hU Try.func13 rfl (by kernel_rfl) 184 rfl [.tmp 10] rfl (Nat.le_of_ble_eq_true rfl) ?_
  refine .one hU hm ?_
  simp -implicitDefEqProofs only [go_sem, ↓reduceIte, Nat.reduceLT, Nat.reduceEqDiff, Nat.reduceAdd, Nat.reduceLeDiff, Nat.reduceMul, Nat.reduceSub, Int.natCast_zero, Int.ofNat_zero, Int.natCast_one, Int.cast_ofNat_Int, bne_self_eq_false, beq_self_eq_true, Int.reduceBEq, Int.reduceBNe, Bool.not_true, Bool.not_false]
  refine .one hU hm ?_
  simp -implicitDefEqProofs only [go_sem, ↓reduceIte, Nat.reduceLT, Nat.reduceEqDiff, Nat.reduceAdd, Nat.reduceLeDiff, Nat.reduceMul, Nat.reduceSub, Int.natCast_zero, Int.ofNat_zero, Int.natCast_one, Int.cast_ofNat_Int, bne_self_eq_false, beq_self_eq_true, Int.reduceBEq, Int.reduceBNe, Bool.not_true, Bool.not_false]
  refine (new_ok 4000 (by omega) h).mono fun r g ⟨id, hid, e1, hd0, hs0⟩ => ?_
  subst e1
  simp -implicitDefEqProofs only [go_sem, ↓reduceIte, Nat.reduceLT, Nat.reduceEqDiff, Nat.reduceAdd, Nat.reduceLeDiff, Nat.reduceMul, Nat.reduceSub, Int.natCast_zero, Int.ofNat_zero, Int.natCast_one, Int.cast_ofNat_Int, bne_self_eq_false, beq_self_eq_true, Int.reduceBEq, Int.reduceBNe, Bool.not_true, Bool.not_false]
  refine .one hU hm ?_
  simp -implicitDefEqProofs only [go_sem, ↓reduceIte, Nat.reduceLT, Nat.reduceEqDiff, Nat.reduceAdd, Nat.reduceLeDiff, Nat.reduceMul, Nat.reduceSub, Int.natCast_zero, Int.ofNat_zero, Int.natCast_one, Int.cast_ofNat_Int, bne_self_eq_false, beq_self_eq_true, Int.reduceBEq, Int.reduceBNe, Bool.not_true, Bool.not_false]
  refine .one hU hm ?_
  simp -implicitDefEqProofs only [go_sem, ↓reduceIte, Nat.reduceLT, Nat.reduceEqDiff, Nat.reduceAdd, Nat.reduceLeDiff, Nat.reduceMul, Nat.reduceSub, Int.natCast_zero, Int.ofNat_zero, Int.natCast_one, Int.cast_ofNat_Int, bne_self_eq_false, beq_self_eq_true, Int.reduceBEq, Int.reduceBNe, Bool.not_true, Bool.not_false]
  have ok0 : D.ok ⟨4000, [], 0, 0, false⟩ := ⟨by show 0 ≤ 4000; decide, by show 4000 ≤ 1048576; decide, by show 0 ≤ _; omega, by show 0 < _; decide⟩
  have hO := D.openD0 ok0 rfl rfl
  refine (open_ok _ ok0 id g hd0).mono fun r g1 ⟨J, e1, hd1, kp1, hJ⟩ => ?_
  rw [hO] at e1 hd1 hJ
  simp only [scan_nil, List.take_nil, if_true] at e1 hd1 hJ
  obtain ⟨jid, sp, rfl, hjn, hj1, hsp⟩ := hJ
  subst e1
  simp -implicitDefEqProofs only [go_sem, ↓reduceIte, Nat.reduceLT, Nat.reduceEqDiff, Nat.reduceAdd, Nat.reduceLeDiff, Nat.reduceMul, Nat.reduceSub, Int.natCast_zero, Int.ofNat_zero, Int.natCast_one, Int.cast_ofNat_Int, bne_self_eq_false, beq_self_eq_true, Int.reduceBEq, Int.reduceBNe, Bool.not_true, Bool.not_false]
  refine .one hU hm ?_
  simp -implicitDefEqProofs only [go_sem, ↓reduceIte, Nat.reduceLT, Nat.reduceEqDiff, Nat.reduceAdd, Nat.reduceLeDiff, Nat.reduceMul, Nat.reduceSub, Int.natCast_zero, Int.ofNat_zero, Int.natCast_one, Int.cast_ofNat_Int, bne_self_eq_false, beq_self_eq_true, Int.reduceBEq, Int.reduceBNe, Bool.not_true, Bool.not_false]
  refine .one hU hm ?_
  simp -implicitDefEqProofs only [go_sem, ↓reduceIte, Nat.reduceLT, Nat.reduceEqDiff, Nat.reduceAdd, Nat.reduceLeDiff, Nat.reduceMul, Nat.reduceSub, Int.natCast_zero, Int.ofNat_zero, Int.natCast_one, Int.cast_ofNat_Int, bne_self_eq_false, beq_self_eq_true, Int.reduceBEq, Int.reduceBNe, Bool.not_true, Bool.not_false]
  refine .cut (fun ρ g => ∃ ps w, KeepsInv g id jid ps w ∧ ps.length ≤ 10 ∧ (frames ps).length ≤ 490 ∧ lk ρ 1 = some (.sl (last.map byteA) .no) ∧ lk ρ 2 = some (iA fuse) ∧ lk ρ 3 = some (iA keep) ∧ lk ρ 4 = some (iA torn) ∧ lk ρ 11 = some (.ptr id 0) ∧ lk ρ 13 = some (.ptr jid 0) ∧ lk ρ 15 = some w) (.vc hU hm ?_) ?_
  · simp -implicitDefEqProofs only [go_sem, ↓reduceIte, Nat.reduceLT, Nat.reduceEqDiff, Nat.reduceAdd, Nat.reduceLeDiff, Nat.reduceMul, Nat.reduceSub, Int.natCast_zero, Int.ofNat_zero, Int.natCast_one, Int.cast_ofNat_Int, bne_self_eq_false, beq_self_eq_true, Int.reduceBEq, Int.reduceBNe, Bool.not_true, Bool.not_false]
    refine .intro (fun m ρ g => ∃ (i : Nat) (ps : List (List UInt8)) (w : AV), KeepsInv g id jid ps w ∧ ps.length = i ∧ (frames ps).length ≤ 49 * i ∧ i ≤ 10 ∧ i ≤ ls.length ∧ m = ls.length - i ∧
      lk ρ 0 = some (.sl (ls.map rowA) .no) ∧ lk ρ 1 = some (.sl (last.map byteA) .no) ∧ lk ρ 2 = some (iA fuse) ∧ lk ρ 3 = some (iA keep) ∧ lk ρ 4 = some (iA torn) ∧ lk ρ 11 = some (.ptr id 0) ∧ lk ρ 13 = some (.ptr jid 0) ∧ lk ρ 15 = some w ∧ lk ρ 16 = some (.v (.int .i64 i))) (ls.length - 0) ?_ ?_
    · refine ⟨0, [], _, ⟨[], sp, [], hd1, hj1, .inl ⟨rfl, rfl⟩, fun _ => .nil, by simp, by simp⟩, rfl, by simp [frames], by omega, by omega, rfl, ?_, ?_, ?_, ?_, ?_, ?_, ?_, ?_, ?_⟩ <;> simp -implicitDefEqProofs only [go_sem, ↓reduceIte, Nat.reduceLT, Nat.reduceEqDiff, Nat.reduceAdd, Nat.reduceLeDiff, Nat.reduceMul, Nat.reduceSub, Int.natCast_zero, Int.ofNat_zero, Int.natCast_one, Int.cast_ofNat_Int, bne_self_eq_false, beq_self_eq_true, Int.reduceBEq, Int.reduceBNe, Bool.not_true, Bool.not_false]
    · rintro m ρ g ⟨i, ps, w, ⟨xs, sp, spw, hd, hj, hg, hrs, hdis, hps⟩, hpl, hfl, hi10, hi, rfl, r0, r1, r2, r3, r4, r11, r13, r15, r16⟩
      by_cases hc : i < ls.length ∧ i < 10
      · obtain ⟨hc1, hc2⟩ := hc
        have d1 : decide ((i : Int) < (ls.length : Int)) = true := decide_eq_true (by omega)
        have d2 : decide ((i : Int) < 10) = true := decide_eq_true (by omega)
        have w1 : IntKind.i64.wrap ((i : Int) + 1) = ((i + 1 : Nat) : Int) := by rw [wr64 _ (by omega)]; omega
        obtain ⟨p, hp⟩ : ∃ p, ls[i] = p := ⟨_, rfl⟩
        have hpl2 := hls _ (List.getElem_mem hc1)
        rw [hp] at hpl2
        have m40 : (if (40 : Int) < (p.length : Int) then (40 : Int) else (p.length : Int)) = ((min p.length 40 : Nat) : Int) := by split <;> omega
        simp -implicitDefEqProofs only [go_sem, ↓reduceIte, Nat.reduceLT, Nat.reduceEqDiff, Nat.reduceAdd, Nat.reduceLeDiff, Nat.reduceMul, Nat.reduceSub, Int.natCast_zero, Int.ofNat_zero, Int.natCast_one, Int.cast_ofNat_Int, bne_self_eq_false, beq_self_eq_true, Int.reduceBEq, Int.reduceBNe, Bool.not_true, Bool.not_false, r0, r13, r15, r16, List.length_map, d1, d2]
        refine .calls noHeap [0, 1, 2, 3, 4, 5, 6, 7, 8, 9, 10, 11, 12, 13] (fun _ _ h => by cases h) (by kernel_rfl) rfl ?_
        simp -implicitDefEqProofs only [go_sem, ↓reduceIte, Nat.reduceLT, Nat.reduceEqDiff, Nat.reduceAdd, Nat.reduceLeDiff, Nat.reduceMul, Nat.reduceSub, Int.natCast_zero, Int.ofNat_zero, Int.natCast_one, Int.cast_ofNat_Int, bne_self_eq_false, beq_self_eq_true, Int.reduceBEq, Int.reduceBNe, Bool.not_true, Bool.not_false, r0, r13, r15, r16, List.length_map, w8]
        refine .at i (by simpa using hc1) (by rw [get_map]; rfl) ?_
        simp -implicitDefEqProofs only [go_sem, ↓reduceIte, Nat.reduceLT, Nat.reduceEqDiff, Nat.reduceAdd, Nat.reduceLeDiff, Nat.reduceMul, Nat.reduceSub, Int.natCast_zero, Int.ofNat_zero, Int.natCast_one, Int.cast_ofNat_Int, bne_self_eq_false, beq_self_eq_true, Int.reduceBEq, Int.reduceBNe, Bool.not_true, Bool.not_false, r0, r13, r15, r16, get_map, hp, rowA]
        refine .at i (by simpa using hc1) (by rw [get_map]; rfl) ?_
        simp -implicitDefEqProofs only [go_sem, ↓reduceIte, Nat.reduceLT, Nat.reduceEqDiff, Nat.reduceAdd, Nat.reduceLeDiff, Nat.reduceMul, Nat.reduceSub, Int.natCast_zero, Int.ofNat_zero, Int.natCast_one, Int.cast_ofNat_Int, bne_self_eq_false, beq_self_eq_true, Int.reduceBEq, Int.reduceBNe, Bool.not_true, Bool.not_false, r0, r13, r15, r16, get_map, hp, rowA, m40]
        have htk : (p.take (min p.length 40)).length ≤ 40 := by rw [List.length_take]; omega
        refine ⟨by omega, by omega, by omega, .acc fun z g1 hz hk => ?_⟩
        obtain ⟨P, hP⟩ : ∃ P, (1 : UInt8) :: p.take (min p.length 40) = P := ⟨_, rfl⟩
        have hPl : 1 ≤ P.length ∧ P.length ≤ 41 := by rw [← hP]; simp only [List.length_cons]; omega
        have hz' : Acc U 5 g g1 z (P.map byteA) := by rw [← hP]; exact hz
        clear hz
        obtain ⟨qz, rfl⟩ := hz'.row
        have hs1 := hz'.1
        refine ⟨fun _ _ h => (by cases h), ?_⟩
        have hPf := frame_length P
        have ok3 : D.ok ⟨4000, frames ps, (frames ps).length, 0, false⟩ := ⟨by show (frames ps).length ≤ 4000; omega, by show 4000 ≤ 1048576; decide, by show (frames ps).length ≤ (frames ps).length; omega, by show 0 < _; decide⟩
        simp -implicitDefEqProofs only [go_sem, ↓reduceIte, Nat.reduceLT, Nat.reduceEqDiff, Nat.reduceAdd, Nat.reduceLeDiff, Nat.reduceMul, Nat.reduceSub, Int.natCast_zero, Int.ofNat_zero, Int.natCast_one, Int.cast_ofNat_Int, bne_self_eq_false, beq_self_eq_true, Int.reduceBEq, Int.reduceBNe, Bool.not_true, Bool.not_false, r0, r13, r15, r16]
        refine (add_ok _ ok3 id jid ps false sp g1 _ P (hd.keep hs1.keepObj) (hj.sub hs1) (.sl _ _) (by omega) (by omega)).mono fun r g2 ⟨e1, sp2, hd2, hj2, ht2, hsp2⟩ => ?_
        subst e1
        rw [jadd0 rfl rfl hPl.1 (by omega) (by show (frames ps).length + (frame P).length ≤ 4000; omega)] at hd2 hj2 ⊢
        simp only at hd2 hj2 ⊢
        have hg1 := hg.sub hs1
        have hidw : id ∉ spw := by obtain ⟨z, hz, _⟩ := hd; exact hg.ne hz
        have hjdw : jid ∉ spw := by obtain ⟨z, _, hz, _⟩ := hj; exact hg.ne hz
        have hg2 : GrowAt g2 w xs spw := hg1.touch ht2 (fun i hi => by
          have := hdis i hi
          simp only [List.mem_cons, not_or]
          exact ⟨fun e => hidw (e ▸ hi), fun e => hjdw (e ▸ hi), this⟩)
        have hdis2 : ∀ i ∈ spw, i ∉ sp2 := fun i hi h2 => by
          rcases hsp2 i h2 with h3 | h3
          · exact hdis i hi h3
          · obtain ⟨n, hn⟩ := hg1.has i hi
            rw [h3] at hn; cases hn
        simp -implicitDefEqProofs only [go_sem, ↓reduceIte, Nat.reduceLT, Nat.reduceEqDiff, Nat.reduceAdd, Nat.reduceLeDiff, Nat.reduceMul, Nat.reduceSub, Int.natCast_zero, Int.ofNat_zero, Int.natCast_one, Int.cast_ofNat_Int, bne_self_eq_false, beq_self_eq_true, Int.reduceBEq, Int.reduceBNe, Bool.not_true, Bool.not_false, r0, r13, r15, r16]
        refine hg2.app (v := .sl [.sl (P.map byteA) qz] .full) (zs := [.sl (P.map byteA) qz]) (fun k hk => hk) (hrs h).sized (by simp [Sized, AV.cells]) (by have := (hrs h).1; simp; omega) fun w2 g3 spw2 hg3 ht3 hspw2 => ?_
        have hjs : ∀ i ∈ sp2, ∃ n, g2 i = some (.spare n 1) := fun i hi => by obtain ⟨_, _, _, hh, _⟩ := hj2; exact hh.has i hi
        simp -implicitDefEqProofs only [go_sem, ↓reduceIte, Nat.reduceLT, Nat.reduceEqDiff, Nat.reduceAdd, Nat.reduceLeDiff, Nat.reduceMul, Nat.reduceSub, Int.natCast_zero, Int.ofNat_zero, Int.natCast_one, Int.cast_ofNat_Int, bne_self_eq_false, beq_self_eq_true, Int.reduceBEq, Int.reduceBNe, Bool.not_true, Bool.not_false, r0, r13, r15, r16, w1]
        refine ⟨_, ?_, i + 1, ps ++ [P], w2, ⟨xs ++ [.sl (P.map byteA) qz], sp2, spw2, by rw [frames_snoc]; exact hd2.keep (hg2.keepObj ht3), hj2.touch ht3 (by obtain ⟨z, _, hz, _⟩ := hj2; exact hg2.ne hz) (fun i hi h => hdis2 i h hi), hg3, fun g => rows_snoc (hrs g) (.sl _ _), fun i hi h2 => ?_, fun q hq => ?_⟩, by simp; omega, by rw [frames_snoc, List.length_append]; omega, by omega, by omega, rfl, ?_, ?_, ?_, ?_, ?_, ?_, ?_, ?_, ?_⟩
        · omega
        · rcases hspw2 i hi with h3 | h3
          · exact hdis2 i h3 h2
          · obtain ⟨n, hn⟩ := hjs i h2
            rw [h3] at hn; cases hn
        · rcases List.mem_append.1 hq with h1 | h1
          · exact hps q h1
          · rw [List.mem_singleton.1 h1]; exact hPl
        all_goals simp -implicitDefEqProofs only [go_sem, ↓reduceIte, Nat.reduceLT, Nat.reduceEqDiff, Nat.reduceAdd, Nat.reduceLeDiff, Nat.reduceMul, Nat.reduceSub, Int.natCast_zero, Int.ofNat_zero, Int.natCast_one, Int.cast_ofNat_Int, bne_self_eq_false, beq_self_eq_true, Int.reduceBEq, Int.reduceBNe, Bool.not_true, Bool.not_false, r0, r1, r2, r3, r4, r11, r13, r15, r16, w1]
      · have exit : (decide ((i : Int) < (ls.length : Int)) = false) ∨ (decide ((i : Int) < (ls.length : Int)) = true ∧ decide ((i : Int) < 10) = false) := by
          by_cases h1 : i < ls.length
          · exact .inr ⟨decide_eq_true (by omega), decide_eq_false (by omega)⟩
          · exact .inl (decide_eq_false (by omega))
        rcases exit with d1 | ⟨d1, d2⟩
        · simp -implicitDefEqProofs only [go_sem, ↓reduceIte, Nat.reduceLT, Nat.reduceEqDiff, Nat.reduceAdd, Nat.reduceLeDiff, Nat.reduceMul, Nat.reduceSub, Int.natCast_zero, Int.ofNat_zero, Int.natCast_one, Int.cast_ofNat_Int, bne_self_eq_false, beq_self_eq_true, Int.reduceBEq, Int.reduceBNe, Bool.not_true, Bool.not_false, r0, r16, List.length_map, d1]
          refine ⟨ps, w, ⟨xs, sp, spw, hd, hj, hg, hrs, hdis, hps⟩, by omega, by omega, ?_, ?_, ?_, ?_, ?_, ?_, ?_⟩ <;> simp -implicitDefEqProofs only [go_sem, ↓reduceIte, Nat.reduceLT, Nat.reduceEqDiff, Nat.reduceAdd, Nat.reduceLeDiff, Nat.reduceMul, Nat.reduceSub, Int.natCast_zero, Int.ofNat_zero, Int.natCast_one, Int.cast_ofNat_Int, bne_self_eq_false, beq_self_eq_true, Int.reduceBEq, Int.reduceBNe, Bool.not_true, Bool.not_false, r1, r2, r3, r4, r11, r13, r15]
        · simp -implicitDefEqProofs only [go_sem, ↓reduceIte, Nat.reduceLT, Nat.reduceEqDiff, Nat.reduceAdd, Nat.reduceLeDiff, Nat.reduceMul, Nat.reduceSub, Int.natCast_zero, Int.ofNat_zero, Int.natCast_one, Int.cast_ofNat_Int, bne_self_eq_false, beq_self_eq_true, Int.reduceBEq, Int.reduceBNe, Bool.not_true, Bool.not_false, r0, r16, List.length_map, d1, d2]
          refine ⟨ps, w, ⟨xs, sp, spw, hd, hj, hg, hrs, hdis, hps⟩, by omega, by omega, ?_, ?_, ?_, ?_, ?_, ?_, ?_⟩ <;> simp -implicitDefEqProofs only [go_sem, ↓reduceIte, Nat.reduceLT, Nat.reduceEqDiff, Nat.reduceAdd, Nat.reduceLeDiff, Nat.reduceMul, Nat.reduceSub, Int.natCast_zero, Int.ofNat_zero, Int.natCast_one, Int.cast_ofNat_Int, bne_self_eq_false, beq_self_eq_true, Int.reduceBEq, Int.reduceBNe, Bool.not_true, Bool.not_false, r1, r2, r3, r4, r11, r13, r15]
  clear hd1 hj1 hjn hsp kp1 hO ok0 hd0
  rintro ρ g2 ⟨ps, w, ⟨xs, sp, spw, hd, hj, hg, hrs, hdis, hps⟩, hpl, hfl, r1, r2, r3, r4, r11, r13, r15⟩
  have hps2 : ∀ p ∈ ps, 1 ≤ p.length ∧ p.length ≤ 8192 := fun p hp => ⟨(hps p hp).1, by have := (hps p hp).2; omega⟩
  have hps3 : ∀ p ∈ ps, p.length ≤ 1000000 := fun p hp => by have := (hps p hp).2; omega
  -- the one under way
  refine .one hU hm ?_
  have m40 : (if (40 : Int) < (last.length : Int) then (40 : Int) else (last.length : Int)) = ((min last.length 40 : Nat) : Int) := by split <;> omega
  have htk : (last.take (min last.length 40)).length ≤ 40 := by rw [List.length_take]; omega
  simp -implicitDefEqProofs only [go_sem, ↓reduceIte, Nat.reduceLT, Nat.reduceEqDiff, Nat.reduceAdd, Nat.reduceLeDiff, Nat.reduceMul, Nat.reduceSub, Int.natCast_zero, Int.ofNat_zero, Int.natCast_one, Int.cast_ofNat_Int, bne_self_eq_false, beq_self_eq_true, Int.reduceBEq, Int.reduceBNe, Bool.not_true, Bool.not_false, r1, List.length_map, m40]
  refine ⟨by omega, by omega, by omega, .acc fun z g3 hz hk => ?_⟩
  obtain ⟨P, hP⟩ : ∃ P, (2 : UInt8) :: last.take (min last.length 40) = P := ⟨_, rfl⟩
  have hPl : 1 ≤ P.length ∧ P.length ≤ 41 := by rw [← hP]; simp only [List.length_cons]; omega
  have hz' : Acc U 5 g2 g3 z (P.map byteA) := by rw [← hP]; exact hz
  clear hz
  obtain ⟨qz, rfl⟩ := hz'.row
  have hs3 := hz'.1
  have hPf := frame_length P
  have hd3 := hd.keep hs3.keepObj
  have hj3 := hj.sub hs3
  have hg3 := hg.sub hs3
  simp -implicitDefEqProofs only [go_sem, ↓reduceIte, Nat.reduceLT, Nat.reduceEqDiff, Nat.reduceAdd, Nat.reduceLeDiff, Nat.reduceMul, Nat.reduceSub, Int.natCast_zero, Int.ofNat_zero, Int.natCast_one, Int.cast_ofNat_Int, bne_self_eq_false, beq_self_eq_true, Int.reduceBEq, Int.reduceBNe, Bool.not_true, Bool.not_false, r1, r2, r3, r4, r11, r13, r15]
  refine .one hU hm ?_
  simp -implicitDefEqProofs only [go_sem, ↓reduceIte, Nat.reduceLT, Nat.reduceEqDiff, Nat.reduceAdd, Nat.reduceLeDiff, Nat.reduceMul, Nat.reduceSub, Int.natCast_zero, Int.ofNat_zero, Int.natCast_one, Int.cast_ofNat_Int, bne_self_eq_false, beq_self_eq_true, Int.reduceBEq, Int.reduceBNe, Bool.not_true, Bool.not_false, r1, r2, r3, r4, r11, r13, r15]
  refine (within_ok fuse 0 1 g3 b1 (by omega) (by omega) (by omega)).mono fun r h2 ⟨e1, n, n1, n2, e2⟩ => ?_
  subst e1; subst e2
  obtain ⟨n, rfl⟩ := Int.eq_ofNat_of_zero_le n1
  have w1 : IntKind.i64.wrap ((1 : Int) + (n : Int)) = ((1 + n : Nat) : Int) := by rw [wr64 _ (by omega)]; omega
  simp -implicitDefEqProofs only [go_sem, ↓reduceIte, Nat.reduceLT, Nat.reduceEqDiff, Nat.reduceAdd, Nat.reduceLeDiff, Nat.reduceMul, Nat.reduceSub, Int.natCast_zero, Int.ofNat_zero, Int.natCast_one, Int.cast_ofNat_Int, bne_self_eq_false, beq_self_eq_true, Int.reduceBEq, Int.reduceBNe, Bool.not_true, Bool.not_false, r1, r2, r3, r4, r11, r13, r15, w1]
  refine .one hU hm ?_
  simp -implicitDefEqProofs only [go_sem, ↓reduceIte, Nat.reduceLT, Nat.reduceEqDiff, Nat.reduceAdd, Nat.reduceLeDiff, Nat.reduceMul, Nat.reduceSub, Int.natCast_zero, Int.ofNat_zero, Int.natCast_one, Int.cast_ofNat_Int, bne_self_eq_false, beq_self_eq_true, Int.reduceBEq, Int.reduceBNe, Bool.not_true, Bool.not_false, r1, r2, r3, r4, r11, r13, r15]
  refine (arm_ok' _ (1 + n) id h2 hd3).mono fun r g4 ⟨hd4, kp4⟩ => ?_
  have hjne : jid ≠ id := fun e => by
    obtain ⟨z, hz, _⟩ := hd3
    obtain ⟨y, _, hy, _⟩ := hj3
    rw [e, hz] at hy
    simp only [Option.some.injEq, Blk.obj.injEq] at hy
    exact absurd hy.2 (by decide)
  have hj4 := hj3.keepD hd3 hjne kp4
  have hg4 := hg3.keepD hd3 kp4
  simp -implicitDefEqProofs only [go_sem, ↓reduceIte, Nat.reduceLT, Nat.reduceEqDiff, Nat.reduceAdd, Nat.reduceLeDiff, Nat.reduceMul, Nat.reduceSub, Int.natCast_zero, Int.ofNat_zero, Int.natCast_one, Int.cast_ofNat_Int, bne_self_eq_false, beq_self_eq_true, Int.reduceBEq, Int.reduceBNe, Bool.not_true, Bool.not_false, r1, r2, r3, r4, r11, r13, r15]
  refine .one hU hm ?_
  simp -implicitDefEqProofs only [go_sem, ↓reduceIte, Nat.reduceLT, Nat.reduceEqDiff, Nat.reduceAdd, Nat.reduceLeDiff, Nat.reduceMul, Nat.reduceSub, Int.natCast_zero, Int.ofNat_zero, Int.natCast_one, Int.cast_ofNat_Int, bne_self_eq_false, beq_self_eq_true, Int.reduceBEq, Int.reduceBNe, Bool.not_true, Bool.not_false, r1, r2, r3, r4, r11, r13, r15]
  have ok4 : D.ok ⟨4000, frames ps, (frames ps).length, 1 + n, false⟩ := ⟨by show (frames ps).length ≤ 4000; omega, by show 4000 ≤ 1048576; decide, by show (frames ps).length ≤ (frames ps).length; omega, by show 1 + n < _; omega⟩
  refine (add_ok _ ok4 id jid ps false sp g4 _ P hd4 hj4 (.sl _ _) (by omega) (by omega)).mono fun r g5 ⟨e1, sp5, hd5, hj5, ht5, hsp5⟩ => ?_
  subst e1
  have hn12 : 1 + n = 1 ∨ 1 + n = 2 := by omega
  rw [jaddArm hn12 hPl.1 (by omega) (by omega)] at hd5 hj5 ⊢
  simp only at hd5 hj5 ⊢
  have hidw : id ∉ spw := by obtain ⟨z, hz, _⟩ := hd; exact hg.ne hz
  have hjdw : jid ∉ spw := by obtain ⟨z, _, hz, _⟩ := hj; exact hg.ne hz
  have hg5 : GrowAt g5 w xs spw := hg4.touch ht5 (fun i hi => by
    have := hdis i hi
    simp only [List.mem_cons, not_or]
    exact ⟨fun e => hidw (e ▸ hi), fun e => hjdw (e ▸ hi), this⟩)
  have hdis5 : ∀ i ∈ spw, i ∉ sp5 := fun i hi h2 => by
    rcases hsp5 i h2 with h3 | h3
    · exact hdis i hi h3
    · obtain ⟨n, hn⟩ := hg4.has i hi
      rw [h3] at hn; cases hn
  obtain ⟨qw, rfl⟩ := hg.row
  simp -implicitDefEqProofs only [go_sem, ↓reduceIte, Nat.reduceLT, Nat.reduceEqDiff, Nat.reduceAdd, Nat.reduceLeDiff, Nat.reduceMul, Nat.reduceSub, Int.natCast_zero, Int.ofNat_zero, Int.natCast_one, Int.cast_ofNat_Int, bne_self_eq_false, beq_self_eq_true, Int.reduceBEq, Int.reduceBNe, Bool.not_true, Bool.not_false, r1, r2, r3, r4, r11, r13, r15]
  refine (down_ok jid id ps true sp5 g5 hj5).pthen ?_
  simp -implicitDefEqProofs only [go_sem, ↓reduceIte, Nat.reduceLT, Nat.reduceEqDiff, Nat.reduceAdd, Nat.reduceLeDiff, Nat.reduceMul, Nat.reduceSub, Int.natCast_zero, Int.ofNat_zero, Int.natCast_one, Int.cast_ofNat_Int, bne_self_eq_false, beq_self_eq_true, Int.reduceBEq, Int.reduceBNe, Bool.not_true, Bool.not_false, r1, r2, r3, r4, r11, r13, r15]
  have ok5 : D.ok ⟨4000, frames ps ++ frame P, (frames ps).length, 0, true⟩ := ⟨by show (frames ps ++ frame P).length ≤ 4000; rw [List.length_append]; omega, by show 4000 ≤ 1048576; decide, by show (frames ps).length ≤ (frames ps ++ frame P).length; rw [List.length_append]; omega, by show 0 < _; decide⟩
  refine (add_ok _ ok5 id jid ps true sp5 g5 _ P hd5 hj5 (.sl _ _) (by omega) (by omega)).mono fun r g6 ⟨e1, sp6, hd6, hj6, ht6, hsp6⟩ => ?_
  subst e1
  rw [jaddDown] at hd6 hj6 ⊢
  simp only at hd6 hj6 ⊢
  have hg6 : GrowAt g6 (.sl xs qw) xs spw := hg5.touch ht6 (fun i hi => by
    have := hdis5 i hi
    simp only [List.mem_cons, not_or]
    exact ⟨fun e => hidw (e ▸ hi), fun e => hjdw (e ▸ hi), this⟩)
  simp -implicitDefEqProofs only [go_sem, ↓reduceIte, Nat.reduceLT, Nat.reduceEqDiff, Nat.reduceAdd, Nat.reduceLeDiff, Nat.reduceMul, Nat.reduceSub, Int.natCast_zero, Int.ofNat_zero, Int.natCast_one, Int.cast_ofNat_Int, bne_self_eq_false, beq_self_eq_true, Int.reduceBEq, Int.reduceBNe, Bool.not_true, Bool.not_false, r1, r2, r3, r4, r11, r13, r15]
  refine (records_ok jid id ps true sp6 g6 hj6 (by omega) hps3).mono fun r g7 ⟨q7, e1, hs7⟩ => ?_
  subst e1
  simp -implicitDefEqProofs only [go_sem, ↓reduceIte, Nat.reduceLT, Nat.reduceEqDiff, Nat.reduceAdd, Nat.reduceLeDiff, Nat.reduceMul, Nat.reduceSub, Int.natCast_zero, Int.ofNat_zero, Int.natCast_one, Int.cast_ofNat_Int, bne_self_eq_false, beq_self_eq_true, Int.reduceBEq, Int.reduceBNe, Bool.not_true, Bool.not_false, r1, r2, r3, r4, r11, r13, r15]
  refine (rows_ok (.sl [] .no) (.sl [] .no) _ _ q7 qw ps ps g7 (rows_of _ g7) (hrs g7) (by omega) hps3).pthen ?_
  rw [decide_eq_true rfl]
  simp -implicitDefEqProofs only [go_sem, ↓reduceIte, Nat.reduceLT, Nat.reduceEqDiff, Nat.reduceAdd, Nat.reduceLeDiff, Nat.reduceMul, Nat.reduceSub, Int.natCast_zero, Int.ofNat_zero, Int.natCast_one, Int.cast_ofNat_Int, bne_self_eq_false, beq_self_eq_true, Int.reduceBEq, Int.reduceBNe, Bool.not_true, Bool.not_false, r1, r2, r3, r4, r11, r13, r15]
  -- the crash
  have hd7 := hd6.keep hs7.keepObj
  refine .one hU hm ?_
  simp -implicitDefEqProofs only [go_sem, ↓reduceIte, Nat.reduceLT, Nat.reduceEqDiff, Nat.reduceAdd, Nat.reduceLeDiff, Nat.reduceMul, Nat.reduceSub, Int.natCast_zero, Int.ofNat_zero, Int.natCast_one, Int.cast_ofNat_Int, bne_self_eq_false, beq_self_eq_true, Int.reduceBEq, Int.reduceBNe, Bool.not_true, Bool.not_false, r1, r2, r3, r4, r11, r13, r15]
  refine (within_ok keep 0 60 g7 b2 (by omega) (by omega) (by omega)).mono fun r h2 ⟨e1, k, k1, k2, e2⟩ => ?_
  subst e1; subst e2
  obtain ⟨k, rfl⟩ := Int.eq_ofNat_of_zero_le k1
  simp -implicitDefEqProofs only [go_sem, ↓reduceIte, Nat.reduceLT, Nat.reduceEqDiff, Nat.reduceAdd, Nat.reduceLeDiff, Nat.reduceMul, Nat.reduceSub, Int.natCast_zero, Int.ofNat_zero, Int.natCast_one, Int.cast_ofNat_Int, bne_self_eq_false, beq_self_eq_true, Int.reduceBEq, Int.reduceBNe, Bool.not_true, Bool.not_false, r1, r2, r3, r4, r11, r13, r15]
  refine .one hU hm ?_
  simp -implicitDefEqProofs only [go_sem, ↓reduceIte, Nat.reduceLT, Nat.reduceEqDiff, Nat.reduceAdd, Nat.reduceLeDiff, Nat.reduceMul, Nat.reduceSub, Int.natCast_zero, Int.ofNat_zero, Int.natCast_one, Int.cast_ofNat_Int, bne_self_eq_false, beq_self_eq_true, Int.reduceBEq, Int.reduceBNe, Bool.not_true, Bool.not_false, r1, r2, r3, r4, r11, r13, r15]
  refine (within_ok torn 0 4 h2 b3 (by omega) (by omega) (by omega)).mono fun r h3 ⟨e1, t, t1, t2, e2⟩ => ?_
  subst e1; subst e2
  obtain ⟨t, rfl⟩ := Int.eq_ofNat_of_zero_le t1
  simp -implicitDefEqProofs only [go_sem, ↓reduceIte, Nat.reduceLT, Nat.reduceEqDiff, Nat.reduceAdd, Nat.reduceLeDiff, Nat.reduceMul, Nat.reduceSub, Int.natCast_zero, Int.ofNat_zero, Int.natCast_one, Int.cast_ofNat_Int, bne_self_eq_false, beq_self_eq_true, Int.reduceBEq, Int.reduceBNe, Bool.not_true, Bool.not_false, r1, r2, r3, r4, r11, r13, r15]
  refine (boot_ok _ ok5 id _ k t hd7).mono fun r g8 ⟨hd8, kp8⟩ => ?_
  obtain ⟨G, hG, hsc, htake⟩ := boot_scan ps P hps2 hPl.1 (by omega) k t (by omega)
  have ok8 := D.boot_ok ok5 k t
  have hB1 : (D.boot ⟨4000, frames ps ++ frame P, (frames ps).length, 0, true⟩ k t).q = 4000 := rfl
  have hB2 : (D.boot ⟨4000, frames ps ++ frame P, (frames ps).length, 0, true⟩ k t).f = 0 := rfl
  have hB3 : (D.boot ⟨4000, frames ps ++ frame P, (frames ps).length, 0, true⟩ k t).off = false := rfl
  generalize D.boot ⟨4000, frames ps ++ frame P, (frames ps).length, 0, true⟩ k t = B at hd8 hsc htake ok8 hB1 hB2 hB3
  have hGl : G.length ≤ 11 ∧ (∀ p ∈ G, 1 ≤ p.length ∧ p.length ≤ 41) ∧ (frames G).length ≤ 539 := by
    rcases hG with rfl | rfl
    · exact ⟨by omega, hps, by omega⟩
    · refine ⟨by rw [List.length_append, List.length_singleton]; omega, fun q hq => ?_, by rw [frames_snoc, List.length_append]; omega⟩
      rcases List.mem_append.1 hq with h1 | h1
      · exact hps q h1
      · rw [List.mem_singleton.1 h1]; exact hPl
  obtain ⟨hGl1, hGl2, hGl3⟩ := hGl
  have hG2 : ∀ p ∈ G, 1 ≤ p.length ∧ p.length ≤ 8192 := fun p hp => ⟨(hGl2 p hp).1, by have := (hGl2 p hp).2; omega⟩
  have hG3 : ∀ p ∈ G, p.length ≤ 1000000 := fun p hp => by have := (hGl2 p hp).2; omega
  simp -implicitDefEqProofs only [go_sem, ↓reduceIte, Nat.reduceLT, Nat.reduceEqDiff, Nat.reduceAdd, Nat.reduceLeDiff, Nat.reduceMul, Nat.reduceSub, Int.natCast_zero, Int.ofNat_zero, Int.natCast_one, Int.cast_ofNat_Int, bne_self_eq_false, beq_self_eq_true, Int.reduceBEq, Int.reduceBNe, Bool.not_true, Bool.not_false, r1, r2, r3, r4, r11, r13, r15]
  refine .one hU hm ?_
  simp -implicitDefEqProofs only [go_sem, ↓reduceIte, Nat.reduceLT, Nat.reduceEqDiff, Nat.reduceAdd, Nat.reduceLeDiff, Nat.reduceMul, Nat.reduceSub, Int.natCast_zero, Int.ofNat_zero, Int.natCast_one, Int.cast_ofNat_Int, bne_self_eq_false, beq_self_eq_true, Int.reduceBEq, Int.reduceBNe, Bool.not_true, Bool.not_false, r1, r2, r3, r4, r11, r13, r15]
  have hO8 := D.openD0 ok8 hB3 hB2
  refine (open_ok _ ok8 id g8 hd8).mono fun r g9 ⟨J, e1, hd9, kp9, hJ⟩ => ?_
  rw [hO8] at e1 hd9 hJ
  simp only [hsc, htake, hB1, hB2, hB3, if_true] at e1 hd9 hJ
  obtain ⟨xid, spx, rfl, hxn, hx9, hspx⟩ := hJ
  subst e1
  simp -implicitDefEqProofs only [go_sem, ↓reduceIte, Nat.reduceLT, Nat.reduceEqDiff, Nat.reduceAdd, Nat.reduceLeDiff, Nat.reduceMul, Nat.reduceSub, Int.natCast_zero, Int.ofNat_zero, Int.natCast_one, Int.cast_ofNat_Int, bne_self_eq_false, beq_self_eq_true, Int.reduceBEq, Int.reduceBNe, Bool.not_true, Bool.not_false, r1, r2, r3, r4, r11, r13, r15]
  refine .one hU hm ?_
  simp -implicitDefEqProofs only [go_sem, ↓reduceIte, Nat.reduceLT, Nat.reduceEqDiff, Nat.reduceAdd, Nat.reduceLeDiff, Nat.reduceMul, Nat.reduceSub, Int.natCast_zero, Int.ofNat_zero, Int.natCast_one, Int.cast_ofNat_Int, bne_self_eq_false, beq_self_eq_true, Int.reduceBEq, Int.reduceBNe, Bool.not_true, Bool.not_false, r1, r2, r3, r4, r11, r13, r15]
  refine .one hU hm ?_
  simp -implicitDefEqProofs only [go_sem, ↓reduceIte, Nat.reduceLT, Nat.reduceEqDiff, Nat.reduceAdd, Nat.reduceLeDiff, Nat.reduceMul, Nat.reduceSub, Int.natCast_zero, Int.ofNat_zero, Int.natCast_one, Int.cast_ofNat_Int, bne_self_eq_false, beq_self_eq_true, Int.reduceBEq, Int.reduceBNe, Bool.not_true, Bool.not_false, r1, r2, r3, r4, r11, r13, r15]
  refine (records_ok xid id G false spx g9 hx9 (by omega) hG3).mono fun r g10 ⟨q10, e1, hs10⟩ => ?_
  subst e1
  simp -implicitDefEqProofs only [go_sem, ↓reduceIte, Nat.reduceLT, Nat.reduceEqDiff, Nat.reduceAdd, Nat.reduceLeDiff, Nat.reduceMul, Nat.reduceSub, Int.natCast_zero, Int.ofNat_zero, Int.natCast_one, Int.cast_ofNat_Int, bne_self_eq_false, beq_self_eq_true, Int.reduceBEq, Int.reduceBNe, Bool.not_true, Bool.not_false, r1, r2, r3, r4, r11, r13, r15]
  refine .cut (fun ρ g => DiskAt g id ⟨4000, frames G, (frames G).length, 0, false⟩ ∧ lk ρ 11 = some (.ptr id 0) ∧ lk ρ 18 = some (.sl (P.map byteA) qz) ∧ lk ρ 23 = some (.sl (G.map rowA) q10)) (.vc hU hm ?_) ?_
  · have hd10 := hd9.keep hs10.keepObj
    simp -implicitDefEqProofs only [go_sem, ↓reduceIte, Nat.reduceLT, Nat.reduceEqDiff, Nat.reduceAdd, Nat.reduceLeDiff, Nat.reduceMul, Nat.reduceSub, Int.natCast_zero, Int.ofNat_zero, Int.natCast_one, Int.cast_ofNat_Int, bne_self_eq_false, beq_self_eq_true, Int.reduceBEq, Int.reduceBNe, Bool.not_true, Bool.not_false, r11, r15]
    refine (rows_ok (.sl [] .no) (.sl [] .no) _ _ q10 qw G ps g10 (rows_of _ g10) (hrs g10) (by omega) hG3).pthen ?_
    by_cases hGp : G = ps
    · rw [decide_eq_true hGp]
      simp -implicitDefEqProofs only [go_sem, ↓reduceIte, Nat.reduceLT, Nat.reduceEqDiff, Nat.reduceAdd, Nat.reduceLeDiff, Nat.reduceMul, Nat.reduceSub, Int.natCast_zero, Int.ofNat_zero, Int.natCast_one, Int.cast_ofNat_Int, bne_self_eq_false, beq_self_eq_true, Int.reduceBEq, Int.reduceBNe, Bool.not_true, Bool.not_false, r11, r15]
      refine ⟨hd10, ?_, ?_, ?_⟩ <;> simp -implicitDefEqProofs only [go_sem, ↓reduceIte, Nat.reduceLT, Nat.reduceEqDiff, Nat.reduceAdd, Nat.reduceLeDiff, Nat.reduceMul, Nat.reduceSub, Int.natCast_zero, Int.ofNat_zero, Int.natCast_one, Int.cast_ofNat_Int, bne_self_eq_false, beq_self_eq_true, Int.reduceBEq, Int.reduceBNe, Bool.not_true, Bool.not_false, r11]
    · rw [decide_eq_false hGp]
      simp -implicitDefEqProofs only [go_sem, ↓reduceIte, Nat.reduceLT, Nat.reduceEqDiff, Nat.reduceAdd, Nat.reduceLeDiff, Nat.reduceMul, Nat.reduceSub, Int.natCast_zero, Int.ofNat_zero, Int.natCast_one, Int.cast_ofNat_Int, bne_self_eq_false, beq_self_eq_true, Int.reduceBEq, Int.reduceBNe, Bool.not_true, Bool.not_false, r11, r15]
      have hGe : G = ps ++ [P] := hG.resolve_left hGp
      have hxl := (hrs g10).1
      refine ⟨(hrs g10).sized, by omega, .acc fun y1 g11 ha1 _ => ?_⟩
      rw [List.nil_append] at ha1
      simp -implicitDefEqProofs only [go_sem, ↓reduceIte, Nat.reduceLT, Nat.reduceEqDiff, Nat.reduceAdd, Nat.reduceLeDiff, Nat.reduceMul, Nat.reduceSub, Int.natCast_zero, Int.ofNat_zero, Int.natCast_one, Int.cast_ofNat_Int, bne_self_eq_false, beq_self_eq_true, Int.reduceBEq, Int.reduceBNe, Bool.not_true, Bool.not_false]
      refine ha1.app (v := .sl [.sl (P.map byteA) qz] .full) (zs := [.sl (P.map byteA) qz]) (by rw [u27]; decide) (by rw [u27b]; decide) (fun k hk => hk) (by rw [u27]; exact (hrs g10).sized) (by rw [u27]; simp [Sized, AV.cells]) (by rw [u27b]; simp; omega) fun y2 g12 ha2 _ => ?_
      obtain ⟨q2, rfl⟩ := ha2.row
      simp -implicitDefEqProofs only [go_sem, ↓reduceIte, Nat.reduceLT, Nat.reduceEqDiff, Nat.reduceAdd, Nat.reduceLeDiff, Nat.reduceMul, Nat.reduceSub, Int.natCast_zero, Int.ofNat_zero, Int.natCast_one, Int.cast_ofNat_Int, bne_self_eq_false, beq_self_eq_true, Int.reduceBEq, Int.reduceBNe, Bool.not_true, Bool.not_false, r11, r15]
      refine (rows_ok (.sl [] .no) (.sl [] .no) _ _ q10 q2 G (ps ++ [P]) g12 (rows_of _ g12) (rows_snoc (hrs g12) (.sl _ _)) (by omega) hG3).pthen ?_
      rw [decide_eq_true hGe]
      simp -implicitDefEqProofs only [go_sem, ↓reduceIte, Nat.reduceLT, Nat.reduceEqDiff, Nat.reduceAdd, Nat.reduceLeDiff, Nat.reduceMul, Nat.reduceSub, Int.natCast_zero, Int.ofNat_zero, Int.natCast_one, Int.cast_ofNat_Int, bne_self_eq_false, beq_self_eq_true, Int.reduceBEq, Int.reduceBNe, Bool.not_true, Bool.not_false, r11, r15]
      refine ⟨hd10.keep ha2.1.keepObj, ?_, ?_, ?_⟩ <;> simp -implicitDefEqProofs only [go_sem, ↓reduceIte, Nat.reduceLT, Nat.reduceEqDiff, Nat.reduceAdd, Nat.reduceLeDiff, Nat.reduceMul, Nat.reduceSub, Int.natCast_zero, Int.ofNat_zero, Int.natCast_one, Int.cast_ofNat_Int, bne_self_eq_false, beq_self_eq_true, Int.reduceBEq, Int.reduceBNe, Bool.not_true, Bool.not_false, r11]
  rintro ρ g11 ⟨hd11, r11, r18, r23⟩
  have ok11 : D.ok ⟨4000, frames G, (frames G).length, 0, false⟩ := ⟨by show (frames G).length ≤ 4000; omega, by show 4000 ≤ 1048576; decide, by show (frames G).length ≤ (frames G).length; omega, by show 0 < _; decide⟩
  have hsc2 := scan_tail G [] hG2 (by decide)
  rw [List.append_nil] at hsc2
  refine .one hU hm ?_
  simp -implicitDefEqProofs only [go_sem, ↓reduceIte, Nat.reduceLT, Nat.reduceEqDiff, Nat.reduceAdd, Nat.reduceLeDiff, Nat.reduceMul, Nat.reduceSub, Int.natCast_zero, Int.ofNat_zero, Int.natCast_one, Int.cast_ofNat_Int, bne_self_eq_false, beq_self_eq_true, Int.reduceBEq, Int.reduceBNe, Bool.not_true, Bool.not_false, r11, r18, r23]
  have hO11 := D.openD0 ok11 rfl rfl
  refine (open_ok _ ok11 id g11 hd11).mono fun r g12 ⟨J, e1, hd12, kp12, hJ⟩ => ?_
  rw [hO11] at e1 hd12 hJ
  simp only [hsc2, List.take_length, if_true] at e1 hd12 hJ
  obtain ⟨yid, spy, rfl, hyn, hy12, hspy⟩ := hJ
  subst e1
  simp -implicitDefEqProofs only [go_sem, ↓reduceIte, Nat.reduceLT, Nat.reduceEqDiff, Nat.reduceAdd, Nat.reduceLeDiff, Nat.reduceMul, Nat.reduceSub, Int.natCast_zero, Int.ofNat_zero, Int.natCast_one, Int.cast_ofNat_Int, bne_self_eq_false, beq_self_eq_true, Int.reduceBEq, Int.reduceBNe, Bool.not_true, Bool.not_false, r11, r18, r23]
  refine .one hU hm ?_
  simp -implicitDefEqProofs only [go_sem, ↓reduceIte, Nat.reduceLT, Nat.reduceEqDiff, Nat.reduceAdd, Nat.reduceLeDiff, Nat.reduceMul, Nat.reduceSub, Int.natCast_zero, Int.ofNat_zero, Int.natCast_one, Int.cast_ofNat_Int, bne_self_eq_false, beq_self_eq_true, Int.reduceBEq, Int.reduceBNe, Bool.not_true, Bool.not_false, r11, r18, r23]
  refine (records_ok yid id G false spy g12 hy12 (by omega) hG3).mono fun r g13 ⟨q13, e1, hs13⟩ => ?_
  subst e1
  simp -implicitDefEqProofs only [go_sem, ↓reduceIte, Nat.reduceLT, Nat.reduceEqDiff, Nat.reduceAdd, Nat.reduceLeDiff, Nat.reduceMul, Nat.reduceSub, Int.natCast_zero, Int.ofNat_zero, Int.natCast_one, Int.cast_ofNat_Int, bne_self_eq_false, beq_self_eq_true, Int.reduceBEq, Int.reduceBNe, Bool.not_true, Bool.not_false, r11, r18, r23]
  refine (rows_ok (.sl [] .no) (.sl [] .no) _ _ q13 q10 G G g13 (rows_of _ g13) (rows_of _ g13) (by omega) hG3).pthen ?_
  rw [decide_eq_true rfl]
  simp -implicitDefEqProofs only [go_sem, ↓reduceIte, Nat.reduceLT, Nat.reduceEqDiff, Nat.reduceAdd, Nat.reduceLeDiff, Nat.reduceMul, Nat.reduceSub, Int.natCast_zero, Int.ofNat_zero, Int.natCast_one, Int.cast_ofNat_Int, bne_self_eq_false, beq_self_eq_true, Int.reduceBEq, Int.reduceBNe, Bool.not_true, Bool.not_false, r11, r18, r23]
  refine .vc hU hm ?_
  simp -implicitDefEqProofs only [go_sem, ↓reduceIte, Nat.reduceLT, Nat.reduceEqDiff, Nat.reduceAdd, Nat.reduceLeDiff, Nat.reduceMul, Nat.reduceSub, Int.natCast_zero, Int.ofNat_zero, Int.natCast_one, Int.cast_ofNat_Int, bne_self_eq_false, beq_self_eq_true, Int.reduceBEq, Int.reduceBNe, Bool.not_true, Bool.not_false, r11, r18, r23]
  refine (add_ok _ ok11 id yid G false spy g13 _ P (hd12.keep hs13.keepObj) (hy12.sub hs13) (.sl _ _) (by omega) (by omega)).mono fun r g14 ⟨e1, sp14, hd14, hy14, _, _⟩ => ?_
  subst e1
  rw [jadd0 rfl rfl hPl.1 (by omega) (by show (frames G).length + (frame P).length ≤ 4000; omega)] at hd14 hy14 ⊢
  simp only at hd14 hy14 ⊢
  simp -implicitDefEqProofs only [go_sem, ↓reduceIte, Nat.reduceLT, Nat.reduceEqDiff, Nat.reduceAdd, Nat.reduceLeDiff, Nat.reduceMul, Nat.reduceSub, Int.natCast_zero, Int.ofNat_zero, Int.natCast_one, Int.cast_ofNat_Int, bne_self_eq_false, beq_self_eq_true, Int.reduceBEq, Int.reduceBNe, Bool.not_true, Bool.not_false, r11, r18, r23]
  have hGP : ∀ p ∈ G ++ [P], p.length ≤ 1000000 := fun q hq => by
    rcases List.mem_append.1 hq with h1 | h1
    · exact hG3 q h1
    · rw [List.mem_singleton.1 h1]; omega
  refine (records_ok yid id (G ++ [P]) false sp14 g14 hy14 (by simp; omega) hGP).mono fun r g15 ⟨q15, e1, hs15⟩ => ?_
  subst e1
  simp -implicitDefEqProofs only [go_sem, ↓reduceIte, Nat.reduceLT, Nat.reduceEqDiff, Nat.reduceAdd, Nat.reduceLeDiff, Nat.reduceMul, Nat.reduceSub, Int.natCast_zero, Int.ofNat_zero, Int.natCast_one, Int.cast_ofNat_Int, bne_self_eq_false, beq_self_eq_true, Int.reduceBEq, Int.reduceBNe, Bool.not_true, Bool.not_false, r11, r18, r23]
  refine ⟨rowA_sized G, by rw [List.length_map]; omega, .acc fun y1 g16 ha1 _ => ?_⟩
  rw [List.nil_append] at ha1
  simp -implicitDefEqProofs only [go_sem, ↓reduceIte, Nat.reduceLT, Nat.reduceEqDiff, Nat.reduceAdd, Nat.reduceLeDiff, Nat.reduceMul, Nat.reduceSub, Int.natCast_zero, Int.ofNat_zero, Int.natCast_one, Int.cast_ofNat_Int, bne_self_eq_false, beq_self_eq_true, Int.reduceBEq, Int.reduceBNe, Bool.not_true, Bool.not_false, r18]
  refine ha1.app (v := .sl [.sl (P.map byteA) qz] .full) (zs := [.sl (P.map byteA) qz]) (by rw [u27]; decide) (by rw [u27b]; decide) (fun k hk => hk) (by rw [u27]; exact rowA_sized G) (by rw [u27]; simp [Sized, AV.cells]) (by rw [u27b]; simp; omega) fun y2 g17 ha2 _ => ?_
  obtain ⟨q2, rfl⟩ := ha2.row
  simp -implicitDefEqProofs only [go_sem, ↓reduceIte, Nat.reduceLT, Nat.reduceEqDiff, Nat.reduceAdd, Nat.reduceLeDiff, Nat.reduceMul, Nat.reduceSub, Int.natCast_zero, Int.ofNat_zero, Int.natCast_one, Int.cast_ofNat_Int, bne_self_eq_false, beq_self_eq_true, Int.reduceBEq, Int.reduceBNe, Bool.not_true, Bool.not_false, r11, r18, r23]
  refine (rows_ok (.sl [] .no) (.sl [] .no) _ _ q15 q2 (G ++ [P]) (G ++ [P]) g17 (rows_of _ g17) (rows_snoc (rows_of _ g17) (.sl _ _)) (by simp; omega) hGP).pthen ?_
  rw [decide_eq_true rfl]
  simp -implicitDefEqProofs only [go_sem, ↓reduceIte, Nat.reduceLT, Nat.reduceEqDiff, Nat.reduceAdd, Nat.reduceLeDiff, Nat.reduceMul, Nat.reduceSub, Int.natCast_zero, Int.ofNat_zero, Int.natCast_one, Int.cast_ofNat_Int, bne_self_eq_false, beq_self_eq_true, Int.reduceBEq, Int.reduceBNe, Bool.not_true, Bool.not_false, r11, r18, r23]
  refine (journalRuns_ok g17).sthen fun g18 _ => ?_
  simp -implicitDefEqProofs only [go_sem, ↓reduceIte, Nat.reduceLT, Nat.reduceEqDiff, Nat.reduceAdd, Nat.reduceLeDiff, Nat.reduceMul, Nat.reduceSub, Int.natCast_zero, Int.ofNat_zero, Int.natCast_one, Int.cast_ofNat_Int, bne_self_eq_false, beq_self_eq_true, Int.reduceBEq, Int.reduceBNe, Bool.not_true, Bool.not_false, r11, r18, r23]
  exact .same (.refl _) rfl

theorem journalKeeps_law (x0 x1 x2 x3 x4 : AV) (d0 : Dat U 38 x0) (d1 : Dat U 27 x1) (d2 : Dat U 3 x2) (d3 : Dat U 3 x3) (d4 : Dat U 3 x4) : FnOK Try.prog 13 [x0, x1, x2, x3, x4] noHeap fun r _ => r = .v (.bool true) := by
  obtain ⟨ls, rfl, h1, h2⟩ := d0.list (f := rowA) (p := fun l => l.length ≤ maxLen) rfl fun y hy => hy.bytes rfl rfl
  obtain ⟨b, rfl, h0⟩ := d1.bytes rfl rfl
  obtain ⟨n2, rfl, hn2⟩ := d2.i64 rfl
  obtain ⟨n3, rfl, hn3⟩ := d3.i64 rfl
  obtain ⟨n4, rfl, hn4⟩ := d4.i64 rfl
  exact journalKeeps_ok ls b n2 n3 n4 h1 h2 h0 hn2 hn3 hn4 noHeap
end Go.Proofs.Ytidpcjblciompaa

/- The document's disk. -/
set_option linter.unusedSimpArgs false
set_option linter.unusedVariables false
namespace Go.Proofs.Ytidpcjblciompaa
open Go Go.Ab

def RefAt (h : Heap) (id : Nat) (d : D) : Prop := ∃ y, h id = some (.obj (d.cells y) 56) ∧ By h y d.b

theorem RefAt.keepObj {h h' : Heap} {id : Nat} {d : D} (hd : RefAt h id d) (hs : KeepObj h h') : RefAt h' id d := by
  obtain ⟨y, h1, h2⟩ := hd
  exact ⟨y, hs _ _ _ h1, h2.keepObj hs⟩
theorem By.set2 {h : Heap} {id : Nat} {x : AV} {l : List UInt8} {cs cs' : List AV} (hb : By h x l) (hid : h id = some (.obj cs 56)) : By (upd h id (some (.obj cs' 56))) x l := hb.keep (Keep.upd id _) hid (by decide)
theorem DiskAt.keepRef {h h' : Heap} {i j : Nat} {d e : D} (hd : DiskAt h i d) (he : RefAt h j e) (hs : Keep j h h') : DiskAt h' i d := by
  obtain ⟨y, h1, h2⟩ := hd
  obtain ⟨z, h3, h4⟩ := he
  have : i ≠ j := fun hh => by subst hh; rw [h1] at h3; simp only [Option.some.injEq, Blk.obj.injEq] at h3; exact absurd h3.2 (by decide)
  exact ⟨y, hs _ _ this h1, h2.keep hs h3 (by decide)⟩
theorem RefAt.keepDisk {h h' : Heap} {i j : Nat} {d e : D} (hd : RefAt h i d) (he : DiskAt h j e) (hs : Keep j h h') : RefAt h' i d := by
  obtain ⟨y, h1, h2⟩ := hd
  obtain ⟨z, h3, h4⟩ := he
  have : i ≠ j := fun hh => by subst hh; rw [h1] at h3; simp only [Option.some.injEq, Blk.obj.injEq] at h3; exact absurd h3.2 (by decide)
  exact ⟨y, hs _ _ this h1, h2.keep hs h3 (by decide)⟩

/-- Behind a call that changes the document's disk. -/
theorem ethen {f : FuncId} {args : List AV} {h : Heap} {Q : AV → Heap → Prop} {X : AV} {id : Nat} {d : D} (hf : FnOK Try.prog f args h fun r h' => r = X ∧ RefAt h' id d ∧ Keep id h h') (k : ∀ h', RefAt h' id d → Keep id h h' → Q X h') : FnOK Try.prog f args h Q :=
  hf.mono fun r h' ⟨e1, e2, e3⟩ => by subst e1; exact k h' e2 e3

theorem rnew_ok (q : Nat) (hq : q ≤ 1048576) (h : Heap) :
    FnOK Try.prog 34 [.v (.int .i64 q)] h fun r h' => ∃ id, h id = none ∧ r = .tup [.ptr id 0, .v (.int .i64 0)] ∧ RefAt h' id ⟨q, [], 0, 0, false⟩ ∧ Sub h h' := by
  refine FnOK.body hU hm Try.func34 rfl (by kernel_rfl) 13 rfl [.tmp 2, .tmp 3] rfl (Nat.le_of_ble_eq_true rfl) (fun hwf => ?_)
  have d1 : decide ((q : Int) < 0) = false := decide_eq_false (by omega)
  have d2 : decide ((1048576 : Int) < (q : Int)) = false := decide_eq_false (by omega)
  simp -implicitDefEqProofs only [go_sem, ↓reduceIte, Nat.reduceLT, Nat.reduceEqDiff, Nat.reduceAdd, Nat.reduceLeDiff, Nat.reduceMul, Nat.reduceSub, Int.natCast_zero, Int.ofNat_zero, Int.natCast_one, Int.cast_ofNat_Int, bne_self_eq_false, beq_self_eq_true, Int.reduceBEq, Int.reduceBNe, Bool.not_true, Bool.not_false, d1, d2]
  intro id hid
  simp -implicitDefEqProofs only [go_sem, ↓reduceIte, Nat.reduceLT, Nat.reduceEqDiff, Nat.reduceAdd, Nat.reduceLeDiff, Nat.reduceMul, Nat.reduceSub]
  exact .same (.refl _) ⟨id, hid, rfl, ⟨_, upd_same .., .inl ⟨.full, rfl⟩⟩, (Sub.refl h).new hid _⟩

theorem rnew_bad (q : Int) (hq : q < 0 ∨ 1048576 < q) (h : Heap) :
    FnOK Try.prog 34 [.v (.int .i64 q)] h fun r h' => r = .tup [.v (.pointer none), .v (.int .i64 1)] ∧ h' = h := by
  refine FnOK.body hU hm Try.func34 rfl (by kernel_rfl) 13 rfl [.tmp 2, .tmp 3] rfl (Nat.le_of_ble_eq_true rfl) (fun hwf => ?_)
  simp -implicitDefEqProofs only [go_sem, ↓reduceIte, Nat.reduceLT, Nat.reduceEqDiff, Nat.reduceAdd, Nat.reduceLeDiff, Nat.reduceMul, Nat.reduceSub]
  refine .intro (fun e => ?_) (fun e => ?_)
  · simp -implicitDefEqProofs only [go_sem, ↓reduceIte, Nat.reduceLT, Nat.reduceEqDiff, Nat.reduceAdd, Nat.reduceLeDiff, Nat.reduceMul, Nat.reduceSub, e]
    exact .same (.refl _) ⟨rfl, rfl⟩
  · have := of_decide_eq_false e
    simp -implicitDefEqProofs only [go_sem, ↓reduceIte, Nat.reduceLT, Nat.reduceEqDiff, Nat.reduceAdd, Nat.reduceLeDiff, Nat.reduceMul, Nat.reduceSub, e]
    refine .yes (decide_eq_true (by omega)) ?_
    simp -implicitDefEqProofs only [go_sem, ↓reduceIte, Nat.reduceLT, Nat.reduceEqDiff, Nat.reduceAdd, Nat.reduceLeDiff, Nat.reduceMul, Nat.reduceSub]
    exact .same (.refl _) ⟨rfl, rfl⟩

theorem rburn_ok (d : D) (hd : d.f < 9223372036854775808) (ho : d.off = false) (id : Nat) (h : Heap) (y : AV) (hid : h id = some (.obj (d.cells y) 56)) :
    FnOK Try.prog 52 [.ptr id 0] h fun r h' => r = .v (.bool false) ∧ h' = upd h id (some (.obj (d.burn.cells y) 56)) := by
  obtain ⟨q, b, sy, f, off⟩ := d
  simp only at hd ho
  subst ho
  simp only [D.cells] at hid
  refine FnOK.body hU hm Try.func52 rfl (by kernel_rfl) 27 rfl [.tmp 2] rfl (Nat.le_of_ble_eq_true rfl) (fun hwf => ?_)
  simp -implicitDefEqProofs only [go_sem, ↓reduceIte, Nat.reduceLT, Nat.reduceEqDiff, Nat.reduceAdd, Nat.reduceLeDiff, Nat.reduceMul, Nat.reduceSub, Int.natCast_zero, Int.ofNat_zero, Int.natCast_one, Int.cast_ofNat_Int, bne_self_eq_false, beq_self_eq_true, Int.reduceBEq, Int.reduceBNe, Bool.not_true, Bool.not_false, hid]
  refine .intro (fun e => ?_) (fun e => ?_)
  · have e := of_decide_eq_true e
    have w1 : IntKind.i64.wrap ((f : Int) - 1) = ((f - 1 : Nat) : Int) := by rw [IntWalk.i64_in _ (by omega)]; omega
    simp -implicitDefEqProofs only [go_sem, ↓reduceIte, Nat.reduceLT, Nat.reduceEqDiff, Nat.reduceAdd, Nat.reduceLeDiff, Nat.reduceMul, Nat.reduceSub, hid, w1]
    have hb : (((f - 1 : Nat) : Int) == 0) = decide (f = 1) := by
      by_cases h1 : f = 1
      · simp [h1]
      · have : f - 1 ≠ 0 := by omega
        simp [h1, Int.natCast_eq_zero, this]
    refine .same (.refl _) ⟨rfl, ?_⟩
    simp only [D.burn, D.cells, if_pos (show 0 < f by omega), hb]
  · have e := of_decide_eq_false e
    have hf : ¬ 0 < f := by omega
    simp -implicitDefEqProofs only [go_sem, ↓reduceIte, Nat.reduceLT, Nat.reduceEqDiff, Nat.reduceAdd, Nat.reduceLeDiff, Nat.reduceMul, Nat.reduceSub, hid]
    refine .same (.refl _) ⟨rfl, ?_⟩
    simp only [D.burn, D.cells, if_neg hf]
    funext j
    simp only [upd]
    split
    · rename_i e; subst e; exact hid
    · rfl

/-- A slice behind the empty one: new memory, known for good. -/
theorem apNil {h : Heap} {Q : AV → Heap → Prop} {y : AV} {l : List UInt8} {q : Perm} (hb : By h y l) (hl : l.length ≤ 140737488355328) (hk : ∀ z h', By h' z l → Sub h h' → (∃ p, z = .sl (l.map byteA) p) → Q z h') : apK U h (.sl [] .full) y Q (.slice 5) := by
  refine (apK_full ..).mpr ⟨by rw [u5]; decide, by rw [u5b]; decide, ?_⟩
  rw [hb.src u5]
  refine ⟨by simp [Sized], by rw [u5, Sized_bytes]; trivial, by rw [u5b]; simp; omega, fun hn => ?_, fun hn => ?_⟩
  · have hl0 : l = [] := by simpa using hn
    subst hl0
    exact hk _ _ (.nil _) (.refl _) ⟨_, rfl⟩
  · refine .own fun id hid => ?_
    exact hk _ _ (.sl _ _) ((Sub.refl h).new hid _) ⟨_, rfl⟩

theorem D.burn_with (d : D) (x : List UInt8) : D.burn { d with b := x } = { d.burn with b := x } := by
  unfold D.burn
  by_cases h : 0 < d.f <;> simp [h]
theorem D.burn_with2 (d : D) (x : List UInt8) (s : Nat) : D.burn { d with b := x, sy := s } = { d.burn with b := x, sy := s } := by
  unfold D.burn
  by_cases h : 0 < d.f <;> simp [h]

theorem rappend_ok (d : D) (hd : d.ok) (id : Nat) (h : Heap) (x : AV) (b : List UInt8) (hdk : RefAt h id d) (hx : By h x b) (hl : b.length ≤ 1000000000) :
    FnOK Try.prog 35 [.ptr id 0, x] h fun r h' => r = .v (.int .i64 (d.append b).2) ∧ RefAt h' id (d.append b).1 ∧ Keep id h h' := by
  obtain ⟨y, hid0, hb⟩ := hdk
  have hid := hid0
  simp only [D.cells] at hid
  obtain ⟨d1, d2, d3, d4⟩ := hd
  refine FnOK.body hU hm Try.func35 rfl (by kernel_rfl) 39 rfl [.tmp 4] rfl (Nat.le_of_ble_eq_true rfl) (fun hwf => ?_)
  simp -implicitDefEqProofs only [go_sem, ↓reduceIte, Nat.reduceLT, Nat.reduceEqDiff, Nat.reduceAdd, Nat.reduceLeDiff, Nat.reduceMul, Nat.reduceSub, Int.natCast_zero, Int.ofNat_zero, Int.natCast_one, Int.cast_ofNat_Int, bne_self_eq_false, beq_self_eq_true, Int.reduceBEq, Int.reduceBNe, Bool.not_true, Bool.not_false, hid]
  cases ho : d.off with
  | true =>
    simp -implicitDefEqProofs only [go_sem, ↓reduceIte, Nat.reduceLT, Nat.reduceEqDiff, Nat.reduceAdd, Nat.reduceLeDiff, Nat.reduceMul, Nat.reduceSub, Int.natCast_zero, Int.ofNat_zero, Int.natCast_one, Int.cast_ofNat_Int, bne_self_eq_false, beq_self_eq_true, Int.reduceBEq, Int.reduceBNe, Bool.not_true, Bool.not_false, hid]
    refine .same (.refl _) ?_
    simp only [D.append, ho, if_true, oneOr]
    exact ⟨rfl, ⟨y, hid0, hb⟩, .refl _ _⟩
  | false =>
    have w1 : IntKind.i64.wrap ((d.q : Int) - (d.b.length : Int)) = ((d.q - d.b.length : Nat) : Int) := by rw [wr64 _ (by omega)]; omega
    rw [ho] at hid
    simp -implicitDefEqProofs only [go_sem, ↓reduceIte, Nat.reduceLT, Nat.reduceEqDiff, Nat.reduceAdd, Nat.reduceLeDiff, Nat.reduceMul, Nat.reduceSub, Int.natCast_zero, Int.ofNat_zero, Int.natCast_one, Int.cast_ofNat_Int, bne_self_eq_false, beq_self_eq_true, Int.reduceBEq, Int.reduceBNe, Bool.not_true, Bool.not_false, hid, hx.len, hb.len, w1]
    refine ⟨.of (by kernel_rfl), ?_⟩
    by_cases hf : d.q < d.b.length + b.length
    · have t1 : decide (((d.q - d.b.length : Nat) : Int) < (b.length : Int)) = true := decide_eq_true (by omega)
      simp -implicitDefEqProofs only [go_sem, ↓reduceIte, Nat.reduceLT, Nat.reduceEqDiff, Nat.reduceAdd, Nat.reduceLeDiff, Nat.reduceMul, Nat.reduceSub, Int.natCast_zero, Int.ofNat_zero, Int.natCast_one, Int.cast_ofNat_Int, bne_self_eq_false, beq_self_eq_true, Int.reduceBEq, Int.reduceBNe, Bool.not_true, Bool.not_false, t1]
      refine .same (.refl _) ?_
      simp only [D.append, ho, if_pos hf, oneOr]
      exact ⟨rfl, ⟨y, hid0, hb⟩, .refl _ _⟩
    · have t1 : decide (((d.q - d.b.length : Nat) : Int) < (b.length : Int)) = false := decide_eq_false (by omega)
      simp -implicitDefEqProofs only [go_sem, ↓reduceIte, Nat.reduceLT, Nat.reduceEqDiff, Nat.reduceAdd, Nat.reduceLeDiff, Nat.reduceMul, Nat.reduceSub, Int.natCast_zero, Int.ofNat_zero, Int.natCast_one, Int.cast_ofNat_Int, bne_self_eq_false, beq_self_eq_true, Int.reduceBEq, Int.reduceBNe, Bool.not_true, Bool.not_false, t1]
      have hA : d.append b = ({ d.burn with b := d.b ++ b }, if d.burn.off then 9 else 0) := by
        unfold D.append
        rw [if_neg (by simp [ho]), if_neg hf]
        simp only [D.burn_with]
      rw [hA]
      refine (rburn_ok d d4 ho id h y hid0).mono fun r h1 ⟨e1, e2⟩ => ?_
      subst e1
      have hid1 : h1 id = some (.obj (d.burn.cells y) 56) := by rw [e2, upd_same]
      have hb1 : By h1 y d.b := by rw [e2]; exact hb.set2 hid0
      have hx1 : By h1 x b := by rw [e2]; exact hx.set2 hid0
      have hk1 : Keep id h h1 := by rw [e2]; exact Keep.upd _ _
      clear e2
      simp only [D.cells, D.burn_q, D.burn_sy] at hid1
      simp -implicitDefEqProofs only [go_sem, ↓reduceIte, Nat.reduceLT, Nat.reduceEqDiff, Nat.reduceAdd, Nat.reduceLeDiff, Nat.reduceMul, Nat.reduceSub, Int.natCast_zero, Int.ofNat_zero, Int.natCast_one, Int.cast_ofNat_Int, bne_self_eq_false, beq_self_eq_true, Int.reduceBEq, Int.reduceBNe, Bool.not_true, Bool.not_false, hid1]
      rw [hb1.src u5]
      simp -implicitDefEqProofs only [go_sem, ↓reduceIte, Nat.reduceLT, Nat.reduceEqDiff, Nat.reduceAdd, Nat.reduceLeDiff, Nat.reduceMul, Nat.reduceSub, Int.natCast_zero, Int.ofNat_zero, Int.natCast_one, Int.cast_ofNat_Int, bne_self_eq_false, beq_self_eq_true, Int.reduceBEq, Int.reduceBNe, Bool.not_true, Bool.not_false]
      refine ⟨by omega, .acc fun z h2 ha2 hk2 => ?_⟩
      have hid2 := hk2 _ _ _ hid1
      simp -implicitDefEqProofs only [go_sem, ↓reduceIte, Nat.reduceLT, Nat.reduceEqDiff, Nat.reduceAdd, Nat.reduceLeDiff, Nat.reduceMul, Nat.reduceSub, Int.natCast_zero, Int.ofNat_zero, Int.natCast_one, Int.cast_ofNat_Int, bne_self_eq_false, beq_self_eq_true, Int.reduceBEq, Int.reduceBNe, Bool.not_true, Bool.not_false, hid2]
      refine ha2.app (zs := b.map byteA) (by rw [u5]; decide) (by rw [u5b]; decide) (fun k hk => by rw [(hx1.keepObj hk2).src u5]; exact hk) (by rw [u5, List.nil_append, Sized_bytes]; trivial) (by rw [u5, Sized_bytes]; trivial) (by rw [u5b]; simp; omega) fun z3 h3 ha3 hk3 => ?_
      have hid3 := hk3 _ _ _ hid2
      have hs3 := ha3.1
      obtain ⟨p3, rfl⟩ := ha3.row
      rw [List.nil_append, ← List.map_append] at *
      simp -implicitDefEqProofs only [go_sem, ↓reduceIte, Nat.reduceLT, Nat.reduceEqDiff, Nat.reduceAdd, Nat.reduceLeDiff, Nat.reduceMul, Nat.reduceSub, Int.natCast_zero, Int.ofNat_zero, Int.natCast_one, Int.cast_ofNat_Int, bne_self_eq_false, beq_self_eq_true, Int.reduceBEq, Int.reduceBNe, Bool.not_true, Bool.not_false, hid3]
      have fin : ∀ c : Nat, c = (if d.burn.off = true then 9 else 0) → RetOK [.v (.int .i64 c)] (upd h3 id (some (.obj [.v (.int .i64 d.q), .sl ((d.b ++ b).map byteA) p3, .v (.int .i64 d.sy), .v (.int .i64 d.burn.f), .v (.bool d.burn.off)] 56)))
          fun r h' => r = .v (.int .i64 (if d.burn.off = true then 9 else 0 : Nat)) ∧ RefAt h' id { d.burn with b := d.b ++ b } ∧ Keep id h h' := fun c hc => by
        subst hc
        refine .same (.refl _) ⟨rfl, ⟨_, ?_, .sl _ p3⟩, ?_⟩
        · rw [upd_same]; simp only [D.cells, D.burn_q, D.burn_sy]
        · exact (hk1.trans (hs3.keep id)).trans (Keep.upd _ _)
      refine .intro (fun e => ?_) (fun e => ?_)
      · simp -implicitDefEqProofs only [go_sem, ↓reduceIte, Nat.reduceLT, Nat.reduceEqDiff, Nat.reduceAdd, Nat.reduceLeDiff, Nat.reduceMul, Nat.reduceSub, Int.natCast_zero, Int.ofNat_zero, Int.natCast_one, Int.cast_ofNat_Int, bne_self_eq_false, beq_self_eq_true, Int.reduceBEq, Int.reduceBNe, Bool.not_true, Bool.not_false, e]
        simpa [e] using fin 9 (by rw [if_pos e])
      · simp -implicitDefEqProofs only [go_sem, ↓reduceIte, Nat.reduceLT, Nat.reduceEqDiff, Nat.reduceAdd, Nat.reduceLeDiff, Nat.reduceMul, Nat.reduceSub, Int.natCast_zero, Int.ofNat_zero, Int.natCast_one, Int.cast_ofNat_Int, bne_self_eq_false, beq_self_eq_true, Int.reduceBEq, Int.reduceBNe, Bool.not_true, Bool.not_false, e]
        simpa [e] using fin 0 (by rw [if_neg (by simp [e])])

theorem rsync_ok (d : D) (hd : d.ok) (id : Nat) (h : Heap) (hdk : RefAt h id d) :
    FnOK Try.prog 36 [.ptr id 0] h fun r h' => r = .v (.int .i64 d.sync.2) ∧ RefAt h' id d.sync.1 ∧ Keep id h h' := by
  obtain ⟨y, hid0, hb⟩ := hdk
  have hid := hid0
  simp only [D.cells] at hid
  refine FnOK.body hU hm Try.func36 rfl (by kernel_rfl) 21 rfl [.tmp 2] rfl (Nat.le_of_ble_eq_true rfl) (fun hwf => ?_)
  simp -implicitDefEqProofs only [go_sem, ↓reduceIte, Nat.reduceLT, Nat.reduceEqDiff, Nat.reduceAdd, Nat.reduceLeDiff, Nat.reduceMul, Nat.reduceSub, Int.natCast_zero, Int.ofNat_zero, Int.natCast_one, Int.cast_ofNat_Int, bne_self_eq_false, beq_self_eq_true, Int.reduceBEq, Int.reduceBNe, Bool.not_true, Bool.not_false, hid]
  cases ho : d.off with
  | true =>
    simp -implicitDefEqProofs only [go_sem, ↓reduceIte, Nat.reduceLT, Nat.reduceEqDiff, Nat.reduceAdd, Nat.reduceLeDiff, Nat.reduceMul, Nat.reduceSub, Int.natCast_zero, Int.ofNat_zero, Int.natCast_one, Int.cast_ofNat_Int, bne_self_eq_false, beq_self_eq_true, Int.reduceBEq, Int.reduceBNe, Bool.not_true, Bool.not_false]
    refine .same (.refl _) ?_
    simp only [D.sync, ho, if_true, oneOr]
    exact ⟨rfl, ⟨y, hid0, hb⟩, .refl _ _⟩
  | false =>
    simp -implicitDefEqProofs only [go_sem, ↓reduceIte, Nat.reduceLT, Nat.reduceEqDiff, Nat.reduceAdd, Nat.reduceLeDiff, Nat.reduceMul, Nat.reduceSub, Int.natCast_zero, Int.ofNat_zero, Int.natCast_one, Int.cast_ofNat_Int, bne_self_eq_false, beq_self_eq_true, Int.reduceBEq, Int.reduceBNe, Bool.not_true, Bool.not_false]
    refine (rburn_ok d hd.2.2.2 ho id h y hid0).mono fun r h1 ⟨e1, e2⟩ => ?_
    subst e1; subst e2
    cases hc : d.burn.off with
    | true =>
      simp only [D.cells, hc]
      simp -implicitDefEqProofs only [go_sem, ↓reduceIte, Nat.reduceLT, Nat.reduceEqDiff, Nat.reduceAdd, Nat.reduceLeDiff, Nat.reduceMul, Nat.reduceSub, Int.natCast_zero, Int.ofNat_zero, Int.natCast_one, Int.cast_ofNat_Int, bne_self_eq_false, beq_self_eq_true, Int.reduceBEq, Int.reduceBNe, Bool.not_true, Bool.not_false]
      refine .same (.refl _) ?_
      rw [show d.sync = (d.burn, 9) by unfold D.sync; rw [if_neg (by simp [ho]), if_pos hc]]
      exact ⟨rfl, ⟨y, by rw [upd_same]; simp only [D.cells, hc], by rw [D.burn_b]; exact hb.set2 hid⟩, Keep.upd id _⟩
    | false =>
      simp only [D.cells, hc]
      simp -implicitDefEqProofs only [go_sem, ↓reduceIte, Nat.reduceLT, Nat.reduceEqDiff, Nat.reduceAdd, Nat.reduceLeDiff, Nat.reduceMul, Nat.reduceSub, Int.natCast_zero, Int.ofNat_zero, Int.natCast_one, Int.cast_ofNat_Int, bne_self_eq_false, beq_self_eq_true, Int.reduceBEq, Int.reduceBNe, Bool.not_true, Bool.not_false, hb.len]
      refine .same (.refl _) ?_
      rw [show d.sync = ({ d.burn with sy := d.b.length }, 0) by unfold D.sync; rw [if_neg (by simp [ho]), if_neg (by simp [hc])]]
      exact ⟨rfl, ⟨y, by rw [upd_same]; simp only [D.cells, hc], by show By _ _ d.burn.b; rw [D.burn_b]; exact hb.set2 hid⟩, Keep.upd id _⟩

theorem rcut_ok (d : D) (hd : d.ok) (id : Nat) (h : Heap) (n : Int) (hdk : RefAt h id d) :
    FnOK Try.prog 37 [.ptr id 0, .v (.int .i64 n)] h fun r h' => r = .v (.int .i64 (d.cut n).2) ∧ RefAt h' id (d.cut n).1 ∧ Keep id h h' := by
  obtain ⟨y, hid0, hb⟩ := hdk
  have hid := hid0
  simp only [D.cells] at hid
  have hok := hd
  obtain ⟨d1, d2, d3, d4⟩ := hd
  refine FnOK.body hU hm Try.func37 rfl (by kernel_rfl) 46 rfl [.tmp 4] rfl (Nat.le_of_ble_eq_true rfl) (fun hwf => ?_)
  simp -implicitDefEqProofs only [go_sem, ↓reduceIte, Nat.reduceLT, Nat.reduceEqDiff, Nat.reduceAdd, Nat.reduceLeDiff, Nat.reduceMul, Nat.reduceSub, Int.natCast_zero, Int.ofNat_zero, Int.natCast_one, Int.cast_ofNat_Int, bne_self_eq_false, beq_self_eq_true, Int.reduceBEq, Int.reduceBNe, Bool.not_true, Bool.not_false, hid]
  cases ho : d.off with
  | true =>
    simp -implicitDefEqProofs only [go_sem, ↓reduceIte, Nat.reduceLT, Nat.reduceEqDiff, Nat.reduceAdd, Nat.reduceLeDiff, Nat.reduceMul, Nat.reduceSub, Int.natCast_zero, Int.ofNat_zero, Int.natCast_one, Int.cast_ofNat_Int, bne_self_eq_false, beq_self_eq_true, Int.reduceBEq, Int.reduceBNe, Bool.not_true, Bool.not_false]
    refine .same (.refl _) ?_
    simp only [D.cut, ho, if_true, oneOr]
    exact ⟨rfl, ⟨y, hid0, hb⟩, .refl _ _⟩
  | false =>
    have bad : (n < 0 ∨ (d.b.length : Int) < n) → RetOK [.v (.int .i64 1)] h fun r h' => r = .v (.int .i64 (d.cut n).2) ∧ RefAt h' id (d.cut n).1 ∧ Keep id h h' := fun hbad => by
      refine .same (.refl _) ?_
      rw [D.cutBad ho hbad]
      exact ⟨rfl, ⟨y, hid0, hb⟩, .refl _ _⟩
    by_cases h1 : n < 0
    · have t1 : decide (n < 0) = true := decide_eq_true h1
      simp -implicitDefEqProofs only [go_sem, ↓reduceIte, Nat.reduceLT, Nat.reduceEqDiff, Nat.reduceAdd, Nat.reduceLeDiff, Nat.reduceMul, Nat.reduceSub, Int.natCast_zero, Int.ofNat_zero, Int.natCast_one, Int.cast_ofNat_Int, bne_self_eq_false, beq_self_eq_true, Int.reduceBEq, Int.reduceBNe, Bool.not_true, Bool.not_false, t1]
      exact bad (.inl h1)
    · have t1 : decide (n < 0) = false := decide_eq_false h1
      by_cases h2 : (d.b.length : Int) < n
      · have t2 : decide ((d.b.length : Int) < n) = true := decide_eq_true h2
        simp -implicitDefEqProofs only [go_sem, ↓reduceIte, Nat.reduceLT, Nat.reduceEqDiff, Nat.reduceAdd, Nat.reduceLeDiff, Nat.reduceMul, Nat.reduceSub, Int.natCast_zero, Int.ofNat_zero, Int.natCast_one, Int.cast_ofNat_Int, bne_self_eq_false, beq_self_eq_true, Int.reduceBEq, Int.reduceBNe, Bool.not_true, Bool.not_false, t1, hid, hb.len, t2]
        exact bad (.inr h2)
      · have t2 : decide ((d.b.length : Int) < n) = false := decide_eq_false h2
        simp -implicitDefEqProofs only [go_sem, ↓reduceIte, Nat.reduceLT, Nat.reduceEqDiff, Nat.reduceAdd, Nat.reduceLeDiff, Nat.reduceMul, Nat.reduceSub, Int.natCast_zero, Int.ofNat_zero, Int.natCast_one, Int.cast_ofNat_Int, bne_self_eq_false, beq_self_eq_true, Int.reduceBEq, Int.reduceBNe, Bool.not_true, Bool.not_false, t1, hid, hb.len, t2]
        refine (rburn_ok d d4 ho id h y hid0).mono fun r h1 ⟨e1, e2⟩ => ?_
        subst e1; subst e2
        cases hc : d.burn.off with
        | true =>
          simp only [D.cells, hc]
          simp -implicitDefEqProofs only [go_sem, ↓reduceIte, Nat.reduceLT, Nat.reduceEqDiff, Nat.reduceAdd, Nat.reduceLeDiff, Nat.reduceMul, Nat.reduceSub, Int.natCast_zero, Int.ofNat_zero, Int.natCast_one, Int.cast_ofNat_Int, bne_self_eq_false, beq_self_eq_true, Int.reduceBEq, Int.reduceBNe, Bool.not_true, Bool.not_false]
          refine .same (.refl _) ?_
          rw [show d.cut n = (d.burn, 9) by unfold D.cut; rw [if_neg (by simp [ho]), if_neg (by omega), if_pos hc]]
          exact ⟨rfl, ⟨y, by rw [upd_same]; simp only [D.cells, hc], by rw [D.burn_b]; exact hb.set2 hid⟩, Keep.upd id _⟩
        | false =>
          have hid1 : upd h id (some (.obj (d.burn.cells y) 56)) id = some (.obj (d.burn.cells y) 56) := upd_same ..
          have hb1 : By (upd h id (some (.obj (d.burn.cells y) 56))) y d.b := hb.set2 hid
          have hk1 : Keep id h (upd h id (some (.obj (d.burn.cells y) 56))) := Keep.upd _ _
          generalize upd h id (some (.obj (d.burn.cells y) 56)) = g1 at hid1 hb1 hk1 ⊢
          simp only [D.cells, D.burn_q, D.burn_sy, hc] at hid1
          simp -implicitDefEqProofs only [go_sem, ↓reduceIte, Nat.reduceLT, Nat.reduceEqDiff, Nat.reduceAdd, Nat.reduceLeDiff, Nat.reduceMul, Nat.reduceSub, Int.natCast_zero, Int.ofNat_zero, Int.natCast_one, Int.cast_ofNat_Int, bne_self_eq_false, beq_self_eq_true, Int.reduceBEq, Int.reduceBNe, Bool.not_true, Bool.not_false, hid1]
          refine hb1.take (m := n) (x := .i64) n.toNat ?_ (by omega) (by omega) u5 fun z hz => ?_
          · simp -implicitDefEqProofs only [go_sem, ↓reduceIte, Nat.reduceLT, Nat.reduceEqDiff, Nat.reduceAdd, Nat.reduceLeDiff, Nat.reduceMul, Nat.reduceSub]
          simp -implicitDefEqProofs only [go_sem, ↓reduceIte, Nat.reduceLT, Nat.reduceEqDiff, Nat.reduceAdd, Nat.reduceLeDiff, Nat.reduceMul, Nat.reduceSub, Int.natCast_zero, Int.ofNat_zero, Int.natCast_one, Int.cast_ofNat_Int, bne_self_eq_false, beq_self_eq_true, Int.reduceBEq, Int.reduceBNe, Bool.not_true, Bool.not_false]
          rw [hz.src u5]
          simp -implicitDefEqProofs only [go_sem, ↓reduceIte, Nat.reduceLT, Nat.reduceEqDiff, Nat.reduceAdd, Nat.reduceLeDiff, Nat.reduceMul, Nat.reduceSub, Int.natCast_zero, Int.ofNat_zero, Int.natCast_one, Int.cast_ofNat_Int, bne_self_eq_false, beq_self_eq_true, Int.reduceBEq, Int.reduceBNe, Bool.not_true, Bool.not_false]
          refine ⟨by rw [List.length_take]; omega, .acc fun z2 g2 ha2 hk2 => ?_⟩
          have hid2 := hk2 _ _ _ hid1
          have hs2 := ha2.1
          obtain ⟨p2, rfl⟩ := ha2.row
          simp -implicitDefEqProofs only [go_sem, ↓reduceIte, Nat.reduceLT, Nat.reduceEqDiff, Nat.reduceAdd, Nat.reduceLeDiff, Nat.reduceMul, Nat.reduceSub, Int.natCast_zero, Int.ofNat_zero, Int.natCast_one, Int.cast_ofNat_Int, bne_self_eq_false, beq_self_eq_true, Int.reduceBEq, Int.reduceBNe, Bool.not_true, Bool.not_false, hid2]
          refine .same (.refl _) ?_
          rw [show d.cut n = ({ d.burn with b := d.b.take n.toNat, sy := min d.sy n.toNat }, 0) by unfold D.cut; rw [if_neg (by simp [ho]), if_neg (by omega), if_neg (by simp [hc])]]
          refine ⟨rfl, ⟨_, ?_, .sl _ p2⟩, (hk1.trans (hs2.keep id)).trans (Keep.upd id _)⟩
          have : (if n < (d.sy : Int) then n else (d.sy : Int)) = ((min d.sy n.toNat : Nat) : Int) := by split <;> omega
          rw [upd_same, this]
          simp only [D.cells, D.burn_q, hc]

set_option maxHeartbeats 1000000 in
theorem rboot_ok (d : D) (hd : d.ok) (id : Nat) (h : Heap) (keep torn : Int) (hdk : RefAt h id d) :
    FnOK Try.prog 38 [.ptr id 0, .v (.int .i64 keep), .v (.int .i64 torn)] h fun _ h' => RefAt h' id (d.boot keep torn) ∧ Keep id h h' := by
  obtain ⟨y, hid0, hb⟩ := hdk
  have hid := hid0
  simp only [D.cells] at hid
  obtain ⟨d1, d2, d3, d4⟩ := hd
  obtain ⟨l1, l2⟩ := D.left_le ⟨d1, d2, d3, d4⟩ keep
  have w1 : IntKind.i64.wrap ((d.b.length : Int) - d.sy) = ((d.b.length - d.sy : Nat) : Int) := by rw [IntWalk.i64_in _ (by omega)]; omega
  have m1 : (if keep < 0 then (0 : Int) else keep) = (keep.toNat : Int) := by split <;> omega
  have m2 : (if (((d.b.length - d.sy : Nat) : Int)) < (keep.toNat : Int) then (((d.b.length - d.sy : Nat) : Int)) else (keep.toNat : Int)) = ((min keep.toNat (d.b.length - d.sy) : Nat) : Int) := by split <;> omega
  have w2 : IntKind.i64.wrap ((d.sy : Int) + ((min keep.toNat (d.b.length - d.sy) : Nat) : Int)) = (d.left keep : Int) := by unfold D.left at *; rw [IntWalk.i64_in _ (by omega)]; omega
  have hbad : d.bad keep torn ≤ d.left keep := by unfold D.bad; omega
  have m3 : (if torn < 0 then (0 : Int) else torn) = (torn.toNat : Int) := by split <;> omega
  have m4 : (if (d.left keep : Int) < (torn.toNat : Int) then (d.left keep : Int) else (torn.toNat : Int)) = ((min torn.toNat (d.left keep) : Nat) : Int) := by split <;> omega
  have w3 : IntKind.i64.wrap ((d.left keep : Int) - ((min torn.toNat (d.left keep) : Nat) : Int)) = ((d.left keep - min torn.toNat (d.left keep) : Nat) : Int) := by rw [IntWalk.i64_in _ (by omega)]; omega
  have m5 : (if (d.sy : Int) < ((d.left keep - min torn.toNat (d.left keep) : Nat) : Int) then ((d.left keep - min torn.toNat (d.left keep) : Nat) : Int) else (d.sy : Int)) = ((d.left keep - d.bad keep torn : Nat) : Int) := by unfold D.bad; split <;> omega
  refine FnOK.body hU hm Try.func38 rfl (by kernel_rfl) 77 rfl [] rfl (Nat.le_of_ble_eq_true rfl) (fun hwf => ?_)
  simp -implicitDefEqProofs only [go_sem, ↓reduceIte, Nat.reduceLT, Nat.reduceEqDiff, Nat.reduceAdd, Nat.reduceLeDiff, Nat.reduceMul, Nat.reduceSub, Int.natCast_zero, Int.ofNat_zero, Int.natCast_one, Int.cast_ofNat_Int, bne_self_eq_false, beq_self_eq_true, Int.reduceBEq, Int.reduceBNe, Bool.not_true, Bool.not_false, hid, hb.len, w1, m1, m2, w2]
  refine ⟨.of (by kernel_rfl), ?_⟩
  refine hb.take (m := d.left keep) (x := .i64) (d.left keep) ?_ rfl l2 u5 fun z hz => ?_
  · simp -implicitDefEqProofs only [go_sem, ↓reduceIte, Nat.reduceLT, Nat.reduceEqDiff, Nat.reduceAdd, Nat.reduceLeDiff, Nat.reduceMul, Nat.reduceSub]
  simp -implicitDefEqProofs only [go_sem, ↓reduceIte, Nat.reduceLT, Nat.reduceEqDiff, Nat.reduceAdd, Nat.reduceLeDiff, Nat.reduceMul, Nat.reduceSub, Int.natCast_zero, Int.ofNat_zero, Int.natCast_one, Int.cast_ofNat_Int, bne_self_eq_false, beq_self_eq_true, Int.reduceBEq, Int.reduceBNe, Bool.not_true, Bool.not_false]
  rw [hz.src u5]
  simp -implicitDefEqProofs only [go_sem, ↓reduceIte, Nat.reduceLT, Nat.reduceEqDiff, Nat.reduceAdd, Nat.reduceLeDiff, Nat.reduceMul, Nat.reduceSub, Int.natCast_zero, Int.ofNat_zero, Int.natCast_one, Int.cast_ofNat_Int, bne_self_eq_false, beq_self_eq_true, Int.reduceBEq, Int.reduceBNe, Bool.not_true, Bool.not_false]
  have hlen : (d.b.take (d.left keep)).length = d.left keep := by rw [List.length_take]; omega
  refine ⟨by omega, fun hn => ?_, fun hn => ?_⟩
  · have hl0 : d.b.take (d.left keep) = [] := by simpa using hn
    have hl00 : d.left keep = 0 := by rw [hl0] at hlen; simpa using hlen.symm
    have hb0 : d.bad keep torn = 0 := by omega
    have hf : d.boot keep torn = ⟨d.q, [], 0, 0, false⟩ := by
      unfold D.boot
      rw [hl0, hl00]
      simp [flipTail]
    simp -implicitDefEqProofs only [go_sem, ↓reduceIte, Nat.reduceLT, Nat.reduceEqDiff, Nat.reduceAdd, Nat.reduceLeDiff, Nat.reduceMul, Nat.reduceSub, Int.natCast_zero, Int.ofNat_zero, Int.natCast_one, Int.cast_ofNat_Int, bne_self_eq_false, beq_self_eq_true, Int.reduceBEq, Int.reduceBNe, Bool.not_true, Bool.not_false, hid, m3, m4, w3, m5]
    refine .intro (fun m ρ h' => h' = upd h id (some (.obj [.v (.int .i64 d.q), .sl [] .full, .v (.int .i64 d.sy), .v (.int .i64 d.f), .v (.bool d.off)] 56)) ∧ lk ρ 0 = some (.ptr id 0) ∧ lk ρ 6 = some (.v (.int .i64 0)) ∧ lk ρ 7 = some (.v (.int .i64 0))) 0 ?_ ?_
    · refine ⟨rfl, ?_, ?_, ?_⟩ <;> simp -implicitDefEqProofs only [go_sem, ↓reduceIte, Nat.reduceLT, Nat.reduceEqDiff, Nat.reduceAdd, Nat.reduceLeDiff, Nat.reduceMul, Nat.reduceSub]
      · rw [hl00]; rfl
      · rw [hl00, hb0]; rfl
    · rintro m ρ h' ⟨rfl, r0, r6, r7⟩
      simp -implicitDefEqProofs only [go_sem, ↓reduceIte, Nat.reduceLT, Nat.reduceEqDiff, Nat.reduceAdd, Nat.reduceLeDiff, Nat.reduceMul, Nat.reduceSub, Int.natCast_zero, Int.ofNat_zero, Int.natCast_one, Int.cast_ofNat_Int, bne_self_eq_false, beq_self_eq_true, Int.reduceBEq, Int.reduceBNe, Bool.not_true, Bool.not_false, r0, r6, r7]
      refine .no (by decide) ?_
      simp -implicitDefEqProofs only [go_sem, ↓reduceIte, Nat.reduceLT, Nat.reduceEqDiff, Nat.reduceAdd, Nat.reduceLeDiff, Nat.reduceMul, Nat.reduceSub, Int.natCast_zero, Int.ofNat_zero, Int.natCast_one, Int.cast_ofNat_Int, bne_self_eq_false, beq_self_eq_true, Int.reduceBEq, Int.reduceBNe, Bool.not_true, Bool.not_false, r0, r6, r7]
      refine .same (.refl _) ⟨⟨.sl [] .full, ?_, ?_⟩, Keep.upd id _⟩
      · rw [upd_same, hf]; rfl
      · rw [hf]; exact .nil _
  · refine .oa u5 ?_ ?_ (by rw [List.nil_append]; exact noAgg_bytes _) fun id2 m hid2 => ?_
    · simp -implicitDefEqProofs only [go_sem, ↓reduceIte, Nat.reduceLT, Nat.reduceEqDiff, Nat.reduceAdd, Nat.reduceLeDiff, Nat.reduceMul, Nat.reduceSub]
    · simp -implicitDefEqProofs only [go_sem, ↓reduceIte, Nat.reduceLT, Nat.reduceEqDiff, Nat.reduceAdd, Nat.reduceLeDiff, Nat.reduceMul, Nat.reduceSub]
    have hne : ¬ id = id2 := fun e => by subst e; rw [hid] at hid2; cases hid2
    have hne' : ¬ id2 = id := fun e => hne e.symm
    simp -implicitDefEqProofs only [go_sem, ↓reduceIte, Nat.reduceLT, Nat.reduceEqDiff, Nat.reduceAdd, Nat.reduceLeDiff, Nat.reduceMul, Nat.reduceSub, Int.natCast_zero, Int.ofNat_zero, Int.natCast_one, Int.cast_ofNat_Int, bne_self_eq_false, beq_self_eq_true, Int.reduceBEq, Int.reduceBNe, Bool.not_true, Bool.not_false, hid, hne, m3, m4, w3, m5, hlen]
    generalize hL : d.b.take (d.left keep) = L at *
    generalize hs : d.left keep - d.bad keep torn = s at *
    refine .intro (fun k ρ h' => ∃ (i : Nat) (cs : List AV), k = d.left keep - i ∧ s ≤ i ∧ i ≤ d.left keep ∧ cs.length = d.left keep + m ∧ (∀ j (hj : j < L.length), cs[j]? = some (byteA (if s ≤ j ∧ j < i then ~~~ L[j] else L[j]))) ∧
      h' = upd (upd h id2 (some (.obj cs 5))) id (some (.obj [.v (.int .i64 d.q), .oa id2 0 (d.left keep), .v (.int .i64 d.sy), .v (.int .i64 d.f), .v (.bool d.off)] 56)) ∧ lk ρ 0 = some (.ptr id 0) ∧ lk ρ 6 = some (.v (.int .i64 (d.left keep : Nat))) ∧ lk ρ 7 = some (.v (.int .i64 (i : Nat)))) (d.left keep - s) ?_ ?_
    · refine ⟨s, _, rfl, Nat.le_refl _, by omega, ?_, fun j hj => ?_, rfl, ?_, ?_, ?_⟩
      · simp [hlen]
      · rw [List.getElem?_append_left (by simpa using hj), List.getElem?_map, List.getElem?_eq_getElem hj, if_neg (by omega)]; rfl
      all_goals simp -implicitDefEqProofs only [go_sem, ↓reduceIte, Nat.reduceLT, Nat.reduceEqDiff, Nat.reduceAdd, Nat.reduceLeDiff, Nat.reduceMul, Nat.reduceSub]
    · rintro k ρ h' ⟨i, cs, rfl, hi1, hi2, hcl, hcs, rfl, r0, r6, r7⟩
      simp -implicitDefEqProofs only [go_sem, ↓reduceIte, Nat.reduceLT, Nat.reduceEqDiff, Nat.reduceAdd, Nat.reduceLeDiff, Nat.reduceMul, Nat.reduceSub, r0, r6, r7]
      refine .intro (fun e => ?_) (fun e => ?_)
      · have hlt : i < d.left keep := by simpa using e
        have c1 : ((0 : Int) ≤ (i : Int)) = True := eq_true (by omega)
        have c2 : ((i : Int) < ((d.left keep : Nat) : Int)) = True := eq_true (by omega)
        have c3 := hcs i (by omega)
        rw [if_neg (by omega)] at c3
        have c4 : (i + 1 ≤ cs.length) = True := eq_true (by omega)
        have w5 : IntKind.i64.wrap ((i : Int) + 1) = ((i + 1 : Nat) : Int) := by rw [IntWalk.i64_in _ (by omega)]; omega
        simp -implicitDefEqProofs only [go_sem, ↓reduceIte, Nat.reduceLT, Nat.reduceEqDiff, Nat.reduceAdd, Nat.reduceLeDiff, Nat.reduceMul, Nat.reduceSub, r0, r6, r7, hne, hne', c1, c2, c3, c4, Nat.mul_one, Int.toNat_natCast, ↓unA_xor8]
        refine ⟨.of (by kernel_rfl), ?_⟩
        simp -implicitDefEqProofs only [go_sem, ↓reduceIte, Nat.reduceLT, Nat.reduceEqDiff, Nat.reduceAdd, Nat.reduceLeDiff, Nat.reduceMul, Nat.reduceSub, r0, r6, r7, w5]
        refine ⟨d.left keep - (i + 1), by omega, i + 1, _, rfl, by omega, hlt, ?_, ?_, upd_swap hne' .., ?_, ?_, ?_⟩
        · simp; omega
        · intro j hj
          show _ = some (byteA (if s ≤ j ∧ j < i + 1 then ~~~ L[j] else L[j]))
          have hjc : j < cs.length := by omega
          have hold := hcs j hj
          by_cases hji : j = i
          · subst hji
            rw [if_pos ⟨hi1, by omega⟩]
            rw [List.append_assoc, List.getElem?_append_right (by simp; omega)]
            simp [show j ≤ cs.length by omega, byteA]
          · have hcond : (s ≤ j ∧ j < i + 1) ↔ (s ≤ j ∧ j < i) := by omega
            simp only [hcond]
            rw [← show cs[j]? = some (byteA (if s ≤ j ∧ j < i then ~~~ L[j] else L[j])) from hold]
            rcases Nat.lt_or_ge j i with hlt2 | hge2
            · rw [List.append_assoc, List.getElem?_append_left (by simp; omega), List.getElem?_take, if_pos (by omega)]
            · rw [List.getElem?_append_right (by simp; omega), List.getElem?_drop]
              congr 1
              simp; omega
        all_goals simp -implicitDefEqProofs only [go_sem, ↓reduceIte, Nat.reduceLT, Nat.reduceEqDiff, Nat.reduceAdd, Nat.reduceLeDiff, Nat.reduceMul, Nat.reduceSub, r0, r6, r7, w5]
      · have hge : i = d.left keep := by
          have : ¬ (i < d.left keep) := by simpa using e
          omega
        subst hge
        simp -implicitDefEqProofs only [go_sem, ↓reduceIte, Nat.reduceLT, Nat.reduceEqDiff, Nat.reduceAdd, Nat.reduceLeDiff, Nat.reduceMul, Nat.reduceSub, r0, r6, r7, hne, hne']
        refine .same (.refl _) ⟨⟨.oa id2 0 (d.left keep), ?_, ?_⟩, ?_⟩
        · rw [upd_same]
          rfl
        · have hbl : (d.boot keep torn).b = flipTail L s := by
            unfold D.boot
            rw [hL, hs]
          have hll : (flipTail L s).length = d.left keep := by rw [flipTail_length, hlen]
          rw [hbl, ← hll]
          refine .oa (cs := cs) ?_ (by omega) ?_
          · rw [upd_other _ _ hne', upd_same]
          · apply List.ext_getElem?
            intro j
            rw [List.drop_zero, List.getElem?_take, List.getElem?_map]
            by_cases hj : j < d.left keep
            · have hj2 : j < L.length := by omega
              have := hcs j hj2
              rw [if_pos (by omega), show cs[j]? = _ from this]
              unfold flipTail
              by_cases hsj : s ≤ j
              · rw [if_pos ⟨hsj, hj⟩, List.getElem?_append_right (by simp; omega)]
                have : min s L.length = s := by omega
                simp [this, hj2, show s + (j - s) = j by omega, byteA]
              · rw [if_neg (by omega), List.getElem?_append_left (by simp; omega), List.getElem?_take, if_pos (by omega), List.getElem?_eq_getElem hj2]; rfl
            · rw [if_neg (by omega), List.getElem?_eq_none (by omega)]; rfl
        · intro j k hj hk
          have h3 : ¬ j = id2 := fun e => by subst e; rw [hid2] at hk; cases hk
          rw [upd_other _ _ hj, upd_other _ _ h3]; exact hk
end Go.Proofs.Ytidpcjblciompaa

/- The document's journal. -/
set_option linter.unusedSimpArgs false
set_option linter.unusedVariables false
namespace Go.Proofs.Ytidpcjblciompaa
open Go Go.Ab

theorem ropen_ok (d : D) (hd : d.ok) (id : Nat) (h : Heap) (hdk : RefAt h id d) :
    FnOK Try.prog 43 [.ptr id 0] h fun r h' => ∃ J, r = .tup [J, .v (.int .i64 (d.openD.2 : Nat))] ∧ RefAt h' id d.openD.1 ∧ Keep id h h' ∧
      if d.openD.2 = 0 then ∃ jid sp, J = .ptr jid 0 ∧ h jid = none ∧ JAt h' 72 jid id (scan d.b).1 false sp ∧ ∀ i ∈ sp, h i = none ∧ i ≠ jid else J = .v (.pointer none) := by
  refine FnOK.of_wp hU Try.func43 rfl (by kernel_rfl) 38 rfl [.tmp 2, .tmp 3] rfl (Nat.le_of_ble_eq_true rfl) ?_
  refine .one hU hm ?_
  simp -implicitDefEqProofs only [go_sem, ↓reduceIte, Nat.reduceLT, Nat.reduceEqDiff, Nat.reduceAdd, Nat.reduceLeDiff, Nat.reduceMul, Nat.reduceSub, Int.natCast_zero, Int.ofNat_zero, Int.natCast_one, Int.cast_ofNat_Int, bne_self_eq_false, beq_self_eq_true, Int.reduceBEq, Int.reduceBNe, Bool.not_true, Bool.not_false]
  have hlen : d.b.length ≤ 2000000 := by have := hd.1; have := hd.2.1; omega
  obtain ⟨at_, hat⟩ : ∃ n, (scan d.b).2 = n := ⟨_, rfl⟩
  have hatl := scan_le d.b
  rw [hat] at hatl
  refine .cut (fun ρ g => ∃ z xs sp, GrowAt g z xs sp ∧ (∀ g, Ab.Rows 5 g xs (scan d.b).1) ∧ Ab.Sub h g ∧ (∀ i ∈ sp, h i = none) ∧ lk ρ 0 = some (.ptr id 0) ∧ lk ρ 4 = some z ∧ lk ρ 5 = some (.v (.int .i64 at_))) (.vc hU hm ?_) ?_
  · obtain ⟨yb, hyb0, hyb⟩ := hdk
    simp only [D.cells] at hyb0
    simp -implicitDefEqProofs only [go_sem, ↓reduceIte, Nat.reduceLT, Nat.reduceEqDiff, Nat.reduceAdd, Nat.reduceLeDiff, Nat.reduceMul, Nat.reduceSub, Int.natCast_zero, Int.ofNat_zero, Int.natCast_one, Int.cast_ofNat_Int, bne_self_eq_false, beq_self_eq_true, Int.reduceBEq, Int.reduceBNe, Bool.not_true, Bool.not_false, hyb0]
    refine (rscan_ok yb d.b h hyb hlen).mono fun r g ⟨z, xs, sp, e1, hg, hrs, hs, hsp⟩ => ?_
    subst e1
    rw [hat]
    simp -implicitDefEqProofs only [go_sem, ↓reduceIte, Nat.reduceLT, Nat.reduceEqDiff, Nat.reduceAdd, Nat.reduceLeDiff, Nat.reduceMul, Nat.reduceSub, Int.natCast_zero, Int.ofNat_zero, Int.natCast_one, Int.cast_ofNat_Int, bne_self_eq_false, beq_self_eq_true, Int.reduceBEq, Int.reduceBNe, Bool.not_true, Bool.not_false]
    refine ⟨z, xs, sp, hg, hrs, hs, hsp, ?_, ?_, ?_⟩ <;> simp -implicitDefEqProofs only [go_sem, ↓reduceIte, Nat.reduceLT, Nat.reduceEqDiff, Nat.reduceAdd, Nat.reduceLeDiff, Nat.reduceMul, Nat.reduceSub, Int.natCast_zero, Int.ofNat_zero, Int.natCast_one, Int.cast_ofNat_Int, bne_self_eq_false, beq_self_eq_true, Int.reduceBEq, Int.reduceBNe, Bool.not_true, Bool.not_false]
  rintro ρ g ⟨z, xs, sp, hg, hrs, hs, hsp, r0, r4, r5⟩
  have hdk1 := hdk.keepObj hs.keepObj
  have hob : ∀ i ∈ sp, i ≠ id := fun i hi e => by
    obtain ⟨y, hy, _⟩ := hdk
    have := hsp i hi
    rw [e, hy] at this
    cases this
  refine .cut (fun ρ g => ∃ d1, d.openD = d1.sync ∧ d1.ok ∧ RefAt g id d1 ∧ GrowAt g z xs sp ∧ Keep id h g ∧ lk ρ 0 = some (.ptr id 0) ∧ lk ρ 4 = some z) (.vc hU hm ?_) ?_
  · have hdk1' := hdk1
    obtain ⟨yb, hyb0, hyb⟩ := hdk1'
    simp only [D.cells] at hyb0
    simp -implicitDefEqProofs only [go_sem, ↓reduceIte, Nat.reduceLT, Nat.reduceEqDiff, Nat.reduceAdd, Nat.reduceLeDiff, Nat.reduceMul, Nat.reduceSub, Int.natCast_zero, Int.ofNat_zero, Int.natCast_one, Int.cast_ofNat_Int, bne_self_eq_false, beq_self_eq_true, Int.reduceBEq, Int.reduceBNe, Bool.not_true, Bool.not_false, r0, r4, r5, hyb0, hyb.len]
    refine .intro (fun e => ?_) (fun e => ?_)
    · have e := of_decide_eq_true e
      have e' : at_ < d.b.length := by omega
      simp -implicitDefEqProofs only [go_sem, ↓reduceIte, Nat.reduceLT, Nat.reduceEqDiff, Nat.reduceAdd, Nat.reduceLeDiff, Nat.reduceMul, Nat.reduceSub, Int.natCast_zero, Int.ofNat_zero, Int.natCast_one, Int.cast_ofNat_Int, bne_self_eq_false, beq_self_eq_true, Int.reduceBEq, Int.reduceBNe, Bool.not_true, Bool.not_false, r0, r4, r5]
      refine ethen (rcut_ok d hd id g at_ hdk1) fun g1 hd1 kp => ?_
      have hO : d.openD = if (d.cut (at_ : Nat)).2 = 0 then (d.cut (at_ : Nat)).1.sync else d.cut (at_ : Nat) := by
        unfold D.openD; rw [hat, if_pos e']
      have ok1 := D.cut_ok hd at_
      generalize d.cut (at_ : Nat) = D0 at hO hd1 ok1 ⊢
      obtain ⟨D1, c1⟩ := D0
      simp only at hO hd1 ok1 ⊢
      simp -implicitDefEqProofs only [go_sem, ↓reduceIte, Nat.reduceLT, Nat.reduceEqDiff, Nat.reduceAdd, Nat.reduceLeDiff, Nat.reduceMul, Nat.reduceSub, Int.natCast_zero, Int.ofNat_zero, Int.natCast_one, Int.cast_ofNat_Int, bne_self_eq_false, beq_self_eq_true, Int.reduceBEq, Int.reduceBNe, Bool.not_true, Bool.not_false, r0, r4, r5]
      by_cases hc : c1 = 0
      · subst hc
        rw [if_pos rfl] at hO
        simp -implicitDefEqProofs only [go_sem, ↓reduceIte, Nat.reduceLT, Nat.reduceEqDiff, Nat.reduceAdd, Nat.reduceLeDiff, Nat.reduceMul, Nat.reduceSub, Int.natCast_zero, Int.ofNat_zero, Int.natCast_one, Int.cast_ofNat_Int, bne_self_eq_false, beq_self_eq_true, Int.reduceBEq, Int.reduceBNe, Bool.not_true, Bool.not_false, r0, r4, r5]
        refine ⟨D1, hO, ok1, hd1, hg.touch (Touch.keep kp) (fun i hi => by simp [hob i hi]), (hs.keep id).trans kp, ?_, ?_⟩ <;> simp -implicitDefEqProofs only [go_sem, ↓reduceIte, Nat.reduceLT, Nat.reduceEqDiff, Nat.reduceAdd, Nat.reduceLeDiff, Nat.reduceMul, Nat.reduceSub, Int.natCast_zero, Int.ofNat_zero, Int.natCast_one, Int.cast_ofNat_Int, bne_self_eq_false, beq_self_eq_true, Int.reduceBEq, Int.reduceBNe, Bool.not_true, Bool.not_false, r0, r4]
      · rw [if_neg hc] at hO
        have t1 : (((c1 : Nat) : Int) != 0) = true := by simp [hc]
        simp -implicitDefEqProofs only [go_sem, ↓reduceIte, Nat.reduceLT, Nat.reduceEqDiff, Nat.reduceAdd, Nat.reduceLeDiff, Nat.reduceMul, Nat.reduceSub, Int.natCast_zero, Int.ofNat_zero, Int.natCast_one, Int.cast_ofNat_Int, bne_self_eq_false, beq_self_eq_true, Int.reduceBEq, Int.reduceBNe, Bool.not_true, Bool.not_false, r0, r4, r5, t1]
        refine .same (.refl _) ⟨_, by rw [hO]; rfl, by rw [hO]; exact hd1, (hs.keep id).trans kp, ?_⟩
        rw [hO, if_neg hc]
    · have e := of_decide_eq_false e
      have e' : ¬ at_ < d.b.length := by omega
      have hO : d.openD = d.sync := by
        unfold D.openD; rw [hat, if_neg e']; rfl
      simp -implicitDefEqProofs only [go_sem, ↓reduceIte, Nat.reduceLT, Nat.reduceEqDiff, Nat.reduceAdd, Nat.reduceLeDiff, Nat.reduceMul, Nat.reduceSub, Int.natCast_zero, Int.ofNat_zero, Int.natCast_one, Int.cast_ofNat_Int, bne_self_eq_false, beq_self_eq_true, Int.reduceBEq, Int.reduceBNe, Bool.not_true, Bool.not_false, r0, r4, r5]
      refine ⟨d, hO, hd, hdk1, hg, hs.keep id, ?_, ?_⟩ <;> simp -implicitDefEqProofs only [go_sem, ↓reduceIte, Nat.reduceLT, Nat.reduceEqDiff, Nat.reduceAdd, Nat.reduceLeDiff, Nat.reduceMul, Nat.reduceSub, Int.natCast_zero, Int.ofNat_zero, Int.natCast_one, Int.cast_ofNat_Int, bne_self_eq_false, beq_self_eq_true, Int.reduceBEq, Int.reduceBNe, Bool.not_true, Bool.not_false, r0, r4]
  rintro ρ g1 ⟨d1, hO, ok1, hd1, hg1, kp1, r0, r4⟩
  refine .vc hU hm ?_
  simp -implicitDefEqProofs only [go_sem, ↓reduceIte, Nat.reduceLT, Nat.reduceEqDiff, Nat.reduceAdd, Nat.reduceLeDiff, Nat.reduceMul, Nat.reduceSub, Int.natCast_zero, Int.ofNat_zero, Int.natCast_one, Int.cast_ofNat_Int, bne_self_eq_false, beq_self_eq_true, Int.reduceBEq, Int.reduceBNe, Bool.not_true, Bool.not_false, r0, r4]
  refine ethen (rsync_ok d1 ok1 id g1 hd1) fun g2 hd2 kp2 => ?_
  rw [hO]
  generalize d1.sync = D0 at hd2 ⊢
  obtain ⟨D2, c2⟩ := D0
  simp only at hd2 ⊢
  have kp := kp1.trans kp2
  have hg2 := hg1.touch (Touch.keep kp2) (fun i hi => by simp [hob i hi])
  simp -implicitDefEqProofs only [go_sem, ↓reduceIte, Nat.reduceLT, Nat.reduceEqDiff, Nat.reduceAdd, Nat.reduceLeDiff, Nat.reduceMul, Nat.reduceSub, Int.natCast_zero, Int.ofNat_zero, Int.natCast_one, Int.cast_ofNat_Int, bne_self_eq_false, beq_self_eq_true, Int.reduceBEq, Int.reduceBNe, Bool.not_true, Bool.not_false, r0, r4]
  by_cases hc : c2 = 0
  · subst hc
    obtain ⟨qz, rfl⟩ := hg2.row
    simp -implicitDefEqProofs only [go_sem, ↓reduceIte, Nat.reduceLT, Nat.reduceEqDiff, Nat.reduceAdd, Nat.reduceLeDiff, Nat.reduceMul, Nat.reduceSub, Int.natCast_zero, Int.ofNat_zero, Int.natCast_one, Int.cast_ofNat_Int, bne_self_eq_false, beq_self_eq_true, Int.reduceBEq, Int.reduceBNe, Bool.not_true, Bool.not_false, r0, r4]
    intro jid hjid
    simp -implicitDefEqProofs only [go_sem, ↓reduceIte, Nat.reduceLT, Nat.reduceEqDiff, Nat.reduceAdd, Nat.reduceLeDiff, Nat.reduceMul, Nat.reduceSub, Int.natCast_zero, Int.ofNat_zero, Int.natCast_one, Int.cast_ofNat_Int, bne_self_eq_false, beq_self_eq_true, Int.reduceBEq, Int.reduceBNe, Bool.not_true, Bool.not_false, r0, r4]
    have hne : jid ≠ id := fun e => by
      obtain ⟨y, hy, _⟩ := hd2
      rw [e, hy] at hjid; cases hjid
    have hjh : h jid = none := by
      cases hh : h jid with
      | none => rfl
      | some k => rw [kp _ _ hne hh] at hjid; cases hjid
    have hsj : ∀ i ∈ sp, i ≠ jid := fun i hi e => by
      obtain ⟨n, hn⟩ := hg2.has i hi
      rw [e, hjid] at hn; cases hn
    refine .same (.refl _) ⟨_, rfl, hd2.keepObj (.new hjid), fun j k e hj => ?_, jid, sp, rfl, hjh, ⟨_, _, upd_same .., hg2.touch .upd (fun i hi => by simp [hsj i hi]), hrs⟩, fun i hi => ⟨hsp i hi, hsj i hi⟩⟩
    have h2 := kp j k e hj
    rw [upd_other _ _ (fun e => by subst e; rw [h2] at hjid; cases hjid)]
    exact h2
  · have t1 : (((c2 : Nat) : Int) != 0) = true := by simp [hc]
    simp -implicitDefEqProofs only [go_sem, ↓reduceIte, Nat.reduceLT, Nat.reduceEqDiff, Nat.reduceAdd, Nat.reduceLeDiff, Nat.reduceMul, Nat.reduceSub, Int.natCast_zero, Int.ofNat_zero, Int.natCast_one, Int.cast_ofNat_Int, bne_self_eq_false, beq_self_eq_true, Int.reduceBEq, Int.reduceBNe, Bool.not_true, Bool.not_false, r0, r4, t1]
    exact .same (.refl _) ⟨_, rfl, hd2, kp, by rw [if_neg hc]⟩

theorem radd_ok (d : D) (hd : d.ok) (id jid : Nat) (ps : List (List UInt8)) (down : Bool) (sp : List Nat) (h : Heap) (x : AV) (p : List UInt8) (hdk : RefAt h id d) (hj : JAt h 72 jid id ps down sp) (hx : By h x p) (hp : p.length ≤ 1000000) (hps : ps.length ≤ 1000000) :
    FnOK Try.prog 44 [.ptr jid 0, x] h fun r h' => r = .v (.int .i64 ((jadd d ps down p).2 : Nat)) ∧ ∃ sp', RefAt h' id (jadd d ps down p).1.1 ∧ JAt h' 72 jid id (jadd d ps down p).1.2.1 (jadd d ps down p).1.2.2 sp' ∧
      Touch (id :: jid :: sp) h h' ∧ ∀ i ∈ sp', i ∈ sp ∨ h i = none := by
  obtain ⟨y, xs, hjid, hg, hrs⟩ := hj
  have hne : jid ≠ id := fun e => by
    obtain ⟨z, hz, _⟩ := hdk
    rw [← e, hjid] at hz
    simp only [Option.some.injEq, Blk.obj.injEq] at hz
    exact absurd hz.2 (by decide)
  refine FnOK.of_wp hU Try.func44 rfl (by kernel_rfl) 51 rfl [.tmp 4] rfl (Nat.le_of_ble_eq_true rfl) ?_
  refine .one hU hm ?_
  simp -implicitDefEqProofs only [go_sem, ↓reduceIte, Nat.reduceLT, Nat.reduceEqDiff, Nat.reduceAdd, Nat.reduceLeDiff, Nat.reduceMul, Nat.reduceSub, Int.natCast_zero, Int.ofNat_zero, Int.natCast_one, Int.cast_ofNat_Int, bne_self_eq_false, beq_self_eq_true, Int.reduceBEq, Int.reduceBNe, Bool.not_true, Bool.not_false]
  show WP _ _ _ _ _ _
  refine .one hU hm ?_
  cases down with
  | true =>
    have hJ : jadd d ps true p = ((d, ps, true), 9) := by simp [jadd]
    simp -implicitDefEqProofs only [go_sem, ↓reduceIte, Nat.reduceLT, Nat.reduceEqDiff, Nat.reduceAdd, Nat.reduceLeDiff, Nat.reduceMul, Nat.reduceSub, Int.natCast_zero, Int.ofNat_zero, Int.natCast_one, Int.cast_ofNat_Int, bne_self_eq_false, beq_self_eq_true, Int.reduceBEq, Int.reduceBNe, Bool.not_true, Bool.not_false, hjid]
    refine .same (.refl _) ?_
    rw [hJ]
    exact ⟨rfl, sp, hdk, ⟨y, xs, hjid, hg, hrs⟩, .refl _ _, fun i hi => .inl hi⟩
  | false =>
    simp -implicitDefEqProofs only [go_sem, ↓reduceIte, Nat.reduceLT, Nat.reduceEqDiff, Nat.reduceAdd, Nat.reduceLeDiff, Nat.reduceMul, Nat.reduceSub, Int.natCast_zero, Int.ofNat_zero, Int.natCast_one, Int.cast_ofNat_Int, bne_self_eq_false, beq_self_eq_true, Int.reduceBEq, Int.reduceBNe, Bool.not_true, Bool.not_false, hjid]
    show WP _ _ _ _ _ _
    refine .one hU hm ?_
    have bad : (p.length = 0 ∨ 8192 < p.length) → RetOK [.v (.int .i64 1)] h fun r h' => r = .v (.int .i64 ((jadd d ps false p).2 : Nat)) ∧ ∃ sp', RefAt h' id (jadd d ps false p).1.1 ∧ JAt h' 72 jid id (jadd d ps false p).1.2.1 (jadd d ps false p).1.2.2 sp' ∧
        Touch (id :: jid :: sp) h h' ∧ ∀ i ∈ sp', i ∈ sp ∨ h i = none := fun hb => by
      have hJ : jadd d ps false p = ((d, ps, false), 1) := by unfold jadd; rw [if_neg (by simp), if_pos hb]
      refine .same (.refl _) ?_
      rw [hJ]
      exact ⟨rfl, sp, hdk, ⟨y, xs, hjid, hg, hrs⟩, .refl _ _, fun i hi => .inl hi⟩
    by_cases h0 : p.length = 0
    · have t0 : decide ((p.length : Int) < 1) = true := decide_eq_true (by omega)
      simp -implicitDefEqProofs only [go_sem, ↓reduceIte, Nat.reduceLT, Nat.reduceEqDiff, Nat.reduceAdd, Nat.reduceLeDiff, Nat.reduceMul, Nat.reduceSub, Int.natCast_zero, Int.ofNat_zero, Int.natCast_one, Int.cast_ofNat_Int, bne_self_eq_false, beq_self_eq_true, Int.reduceBEq, Int.reduceBNe, Bool.not_true, Bool.not_false, hx.len, t0]
      exact bad (.inl h0)
    · have t0 : decide ((p.length : Int) < 1) = false := decide_eq_false (by omega)
      by_cases h1 : 8192 < p.length
      · have t1 : decide ((8192 : Int) < (p.length : Int)) = true := decide_eq_true (by omega)
        simp -implicitDefEqProofs only [go_sem, ↓reduceIte, Nat.reduceLT, Nat.reduceEqDiff, Nat.reduceAdd, Nat.reduceLeDiff, Nat.reduceMul, Nat.reduceSub, Int.natCast_zero, Int.ofNat_zero, Int.natCast_one, Int.cast_ofNat_Int, bne_self_eq_false, beq_self_eq_true, Int.reduceBEq, Int.reduceBNe, Bool.not_true, Bool.not_false, hx.len, t0, t1]
        exact bad (.inr h1)
      · have t1 : decide ((8192 : Int) < (p.length : Int)) = false := decide_eq_false (by omega)
        have hJ : jadd d ps false p = if (d.append (frame p)).2 = 8 then (((d.append (frame p)).1, ps, false), 8) else
            if (if (d.append (frame p)).2 = 0 then (d.append (frame p)).1.sync else d.append (frame p)).2 = 0 then
              (((if (d.append (frame p)).2 = 0 then (d.append (frame p)).1.sync else d.append (frame p)).1, ps ++ [p], false), 0)
            else (((if (d.append (frame p)).2 = 0 then (d.append (frame p)).1.sync else d.append (frame p)).1, ps, true), 9) := by
          have hno : ¬ (p.length = 0 ∨ 8192 < p.length) := by omega
          unfold jadd; rw [if_neg (by simp), if_neg hno]
        have hcode := D.append_code d (frame p)
        simp -implicitDefEqProofs only [go_sem, ↓reduceIte, Nat.reduceLT, Nat.reduceEqDiff, Nat.reduceAdd, Nat.reduceLeDiff, Nat.reduceMul, Nat.reduceSub, Int.natCast_zero, Int.ofNat_zero, Int.natCast_one, Int.cast_ofNat_Int, bne_self_eq_false, beq_self_eq_true, Int.reduceBEq, Int.reduceBNe, Bool.not_true, Bool.not_false, hx.len, t0, t1]
        show WP _ _ _ _ _ _
        refine .one hU hm ?_
        simp -implicitDefEqProofs only [go_sem, ↓reduceIte, Nat.reduceLT, Nat.reduceEqDiff, Nat.reduceAdd, Nat.reduceLeDiff, Nat.reduceMul, Nat.reduceSub, Int.natCast_zero, Int.ofNat_zero, Int.natCast_one, Int.cast_ofNat_Int, bne_self_eq_false, beq_self_eq_true, Int.reduceBEq, Int.reduceBNe, Bool.not_true, Bool.not_false]
        refine .calls (hm1 jid _) [0, 1, 2, 3, 4, 5, 6, 7] (.hm1 hjid) (by kernel_rfl) rfl ?_
        simp -implicitDefEqProofs only [go_sem, ↓reduceIte, Nat.reduceLT, Nat.reduceEqDiff, Nat.reduceAdd, Nat.reduceLeDiff, Nat.reduceMul, Nat.reduceSub, Int.natCast_zero, Int.ofNat_zero, Int.natCast_one, Int.cast_ofNat_Int, bne_self_eq_false, beq_self_eq_true, Int.reduceBEq, Int.reduceBNe, Bool.not_true, Bool.not_false, hjid]
        refine (rframe_ok x p h hx hp).sthen fun g1 hs1 => ?_
        refine ⟨.hm1 (hs1 _ _ hjid), ?_⟩
        simp -implicitDefEqProofs only [go_sem, ↓reduceIte, Nat.reduceLT, Nat.reduceEqDiff, Nat.reduceAdd, Nat.reduceLeDiff, Nat.reduceMul, Nat.reduceSub, Int.natCast_zero, Int.ofNat_zero, Int.natCast_one, Int.cast_ofNat_Int, bne_self_eq_false, beq_self_eq_true, Int.reduceBEq, Int.reduceBNe, Bool.not_true, Bool.not_false]
        refine ethen (rappend_ok d hd id g1 _ (frame p) (hdk.keepObj hs1.keepObj) (.sl _ _) (by rw [frame_length]; omega)) fun g2 hd2 kp => ?_
        have hj2 : g2 jid = some (.obj [.ptr id 0, y, .v (.bool false)] 72) := kp _ _ hne (hs1 _ _ hjid)
        refine ⟨.hm1 hj2, ?_⟩
        have ok2 := D.append_ok hd (frame p)
        have hkp : Keep id h g2 := (hs1.keep id).trans kp
        have hgid : ∀ i ∈ sp, i ≠ id := fun i hi e => by
          obtain ⟨n, hn⟩ := hg.has i hi
          obtain ⟨z, hz, _⟩ := hdk
          rw [e, hz] at hn; cases hn
        have hg2 : GrowAt g2 y xs sp := hg.touch (Touch.keep hkp) (fun i hi => by simp [hgid i hi])
        have hx2 : By g2 x p := by
          obtain ⟨z, hz, _⟩ := hdk
          exact (hx.keep hkp hz (by decide))
        have hT2 : Touch (id :: jid :: sp) h g2 := (Touch.keep hkp).mono (fun i hi => .inl (by simp at hi; simp [hi]))
        generalize d.append (frame p) = A at hJ hcode hd2 ok2 ⊢
        obtain ⟨d2, c2⟩ := A
        simp only at hJ hcode hd2 ok2 ⊢
        simp -implicitDefEqProofs only [go_sem, ↓reduceIte, Nat.reduceLT, Nat.reduceEqDiff, Nat.reduceAdd, Nat.reduceLeDiff, Nat.reduceMul, Nat.reduceSub, Int.natCast_zero, Int.ofNat_zero, Int.natCast_one, Int.cast_ofNat_Int, bne_self_eq_false, beq_self_eq_true, Int.reduceBEq, Int.reduceBNe, Bool.not_true, Bool.not_false]
        show WP _ _ _ _ _ _
        refine .one hU hm ?_
        have downed : ∀ (g : Heap) (e : D) (ρ : Env), RefAt g id e → g jid = some (.obj [.ptr id 0, y, .v (.bool false)] 72) → GrowAt g y xs sp → Touch (id :: jid :: sp) h g → jadd d ps false p = ((e, ps, true), 9) →
            (RetOK [.v (.int .i64 9)] (upd g jid (some (.obj [.ptr id 0, y, .v (.bool true)] 72))) fun r h' => r = .v (.int .i64 ((jadd d ps false p).2 : Nat)) ∧ ∃ sp', RefAt h' id (jadd d ps false p).1.1 ∧ JAt h' 72 jid id (jadd d ps false p).1.2.1 (jadd d ps false p).1.2.2 sp' ∧
              Touch (id :: jid :: sp) h h' ∧ ∀ i ∈ sp', i ∈ sp ∨ h i = none) := fun g e ρ a1 a2 a3 a4 hJ => by
          rw [hJ]
          have hsj : ∀ i ∈ sp, i ≠ jid := fun i hi e => by
            obtain ⟨n, hn⟩ := hg.has i hi
            rw [e, hjid] at hn; cases hn
          have ht : Touch [jid] g (upd g jid (some (.obj [.ptr id 0, y, .v (.bool true)] 72))) := .upd
          refine .same (.refl _) ⟨rfl, sp, ?_, ⟨y, xs, upd_same .., a3.touch ht (fun i hi => by simp [hsj i hi]), hrs⟩, (a4.trans ht).mono (fun i hi => .inl (by simp at hi ⊢; rcases hi with h | h | h | h <;> simp [h])), fun i hi => .inl hi⟩
          obtain ⟨z, z1, z2⟩ := a1
          exact ⟨z, ht _ _ (by simp; exact fun e => hne e.symm) z1, z2.keep (Keep.upd jid _) a2 (by decide)⟩
        have hc0 := hcode
        rcases hcode with rfl | rfl | rfl
        · -- taken: sync
          simp -implicitDefEqProofs only [go_sem, ↓reduceIte, Nat.reduceLT, Nat.reduceEqDiff, Nat.reduceAdd, Nat.reduceLeDiff, Nat.reduceMul, Nat.reduceSub, Int.natCast_zero, Int.ofNat_zero, Int.natCast_one, Int.cast_ofNat_Int, bne_self_eq_false, beq_self_eq_true, Int.reduceBEq, Int.reduceBNe, Bool.not_true, Bool.not_false]
          refine .one hU hm ?_
          simp -implicitDefEqProofs only [go_sem, ↓reduceIte, Nat.reduceLT, Nat.reduceEqDiff, Nat.reduceAdd, Nat.reduceLeDiff, Nat.reduceMul, Nat.reduceSub, Int.natCast_zero, Int.ofNat_zero, Int.natCast_one, Int.cast_ofNat_Int, bne_self_eq_false, beq_self_eq_true, Int.reduceBEq, Int.reduceBNe, Bool.not_true, Bool.not_false, hj2]
          refine ethen (rsync_ok d2 ok2 id g2 hd2) fun g3 hd3 kp3 => ?_
          have hj3 : g3 jid = some (.obj [.ptr id 0, y, .v (.bool false)] 72) := kp3 _ _ hne hj2
          have hg3 : GrowAt g3 y xs sp := hg2.touch (Touch.keep kp3) (fun i hi => by simp [hgid i hi])
          have hx3 : By g3 x p := by
            obtain ⟨z, hz, _⟩ := hd2
            exact (hx2.keep kp3 hz (by decide))
          have hT3 : Touch (id :: jid :: sp) h g3 := (hT2.trans (Touch.keep kp3)).mono (fun i hi => .inl (by simp at hi ⊢; rcases hi with h | h | h | h <;> simp [h]))
          have hcs := D.sync_code d2
          rw [if_neg (by decide), if_pos rfl] at hJ
          generalize d2.sync = A at hJ hcs hd3 ⊢
          obtain ⟨d3, c3⟩ := A
          simp only at hJ hcs hd3 ⊢
          rcases hcs with rfl | rfl
          · simp -implicitDefEqProofs only [go_sem, ↓reduceIte, Nat.reduceLT, Nat.reduceEqDiff, Nat.reduceAdd, Nat.reduceLeDiff, Nat.reduceMul, Nat.reduceSub, Int.natCast_zero, Int.ofNat_zero, Int.natCast_one, Int.cast_ofNat_Int, bne_self_eq_false, beq_self_eq_true, Int.reduceBEq, Int.reduceBNe, Bool.not_true, Bool.not_false]
            refine .one hU hm ?_
            simp -implicitDefEqProofs only [go_sem, ↓reduceIte, Nat.reduceLT, Nat.reduceEqDiff, Nat.reduceAdd, Nat.reduceLeDiff, Nat.reduceMul, Nat.reduceSub, Int.natCast_zero, Int.ofNat_zero, Int.natCast_one, Int.cast_ofNat_Int, bne_self_eq_false, beq_self_eq_true, Int.reduceBEq, Int.reduceBNe, Bool.not_true, Bool.not_false]
            refine .one hU hm ?_
            simp -implicitDefEqProofs only [go_sem, ↓reduceIte, Nat.reduceLT, Nat.reduceEqDiff, Nat.reduceAdd, Nat.reduceLeDiff, Nat.reduceMul, Nat.reduceSub, Int.natCast_zero, Int.ofNat_zero, Int.natCast_one, Int.cast_ofNat_Int, bne_self_eq_false, beq_self_eq_true, Int.reduceBEq, Int.reduceBNe, Bool.not_true, Bool.not_false]
            refine .last (hm1 jid _) [0, 1, 2, 3, 4, 5, 6, 7, 8, 9, 10, 11] (.hm1 hj3) (by kernel_rfl) rfl (by kernel_rfl) rfl ?_
            simp -implicitDefEqProofs only [go_sem, ↓reduceIte, Nat.reduceLT, Nat.reduceEqDiff, Nat.reduceAdd, Nat.reduceLeDiff, Nat.reduceMul, Nat.reduceSub, Int.natCast_zero, Int.ofNat_zero, Int.natCast_one, Int.cast_ofNat_Int, bne_self_eq_false, beq_self_eq_true, Int.reduceBEq, Int.reduceBNe, Bool.not_true, Bool.not_false, hj3, hx3.src u5, List.length_map]
            refine ⟨by omega, .acc fun zp g3' hzp _ => ?_⟩
            rw [List.nil_append] at hzp
            obtain ⟨qp, rfl⟩ := hzp.row
            have hs4 := hzp.1
            have hT3' : Touch (id :: jid :: sp) h g3' := fun j k e hj => hs4 _ _ (hT3 j k e hj)
            have hj3' := hs4 _ _ hj3
            have hg3' := hg3.sub hs4
            have hd3' := hd3.keepObj hs4.keepObj
            clear hT3 hj3 hg3 hd3 hzp hx3 hs4
            have hT3 := hT3'
            have hj3 := hj3'
            have hg3 := hg3'
            have hd3 := hd3'
            clear hT3' hj3' hg3' hd3'
            obtain ⟨qy, rfl⟩ := hg3.row
            refine ⟨.hm1 hj3, ?_⟩
            simp -implicitDefEqProofs only [go_sem, ↓reduceIte, Nat.reduceLT, Nat.reduceEqDiff, Nat.reduceAdd, Nat.reduceLeDiff, Nat.reduceMul, Nat.reduceSub, Int.natCast_zero, Int.ofNat_zero, Int.natCast_one, Int.cast_ofNat_Int, bne_self_eq_false, beq_self_eq_true, Int.reduceBEq, Int.reduceBNe, Bool.not_true, Bool.not_false, hj3]
            refine hg3.app (v := .sl [.sl (p.map byteA) qp] .full) (zs := [.sl (p.map byteA) qp]) (fun k hk => hk) (hrs h).sized (by simp [Sized, AV.cells]) (by have := (hrs h).1; simp; omega) fun z g4 sp' hg4 ht4 hsp' => ?_
            have hsj : ∀ i ∈ sp, i ≠ jid := fun i hi e => by
              obtain ⟨n, hn⟩ := hg.has i hi
              rw [e, hjid] at hn; cases hn
            have hj4 : g4 jid = some (.obj [.ptr id 0, .sl xs qy, .v (.bool false)] 72) := ht4 _ _ (fun hi => hsj _ hi rfl) hj3
            refine ⟨.hm1 hj4, ?_⟩
            obtain ⟨qz, rfl⟩ := hg4.row
            simp -implicitDefEqProofs only [go_sem, ↓reduceIte, Nat.reduceLT, Nat.reduceEqDiff, Nat.reduceAdd, Nat.reduceLeDiff, Nat.reduceMul, Nat.reduceSub, Int.natCast_zero, Int.ofNat_zero, Int.natCast_one, Int.cast_ofNat_Int, bne_self_eq_false, beq_self_eq_true, Int.reduceBEq, Int.reduceBNe, Bool.not_true, Bool.not_false, hj4]
            refine .vc hU hm ?_
            simp -implicitDefEqProofs only [go_sem, ↓reduceIte, Nat.reduceLT, Nat.reduceEqDiff, Nat.reduceAdd, Nat.reduceLeDiff, Nat.reduceMul, Nat.reduceSub, Int.natCast_zero, Int.ofNat_zero, Int.natCast_one, Int.cast_ofNat_Int, bne_self_eq_false, beq_self_eq_true, Int.reduceBEq, Int.reduceBNe, Bool.not_true, Bool.not_false]
            have ht5 : Touch [jid] g4 (upd g4 jid (some (.obj [.ptr id 0, .sl (xs ++ [.sl (p.map byteA) qp]) qz, .v (.bool false)] 72))) := .upd
            have hsj' : ∀ i ∈ sp', i ≠ jid := fun i hi e => by
              obtain ⟨n, hn⟩ := hg4.has i hi
              rw [e, hj4] at hn; cases hn
            rw [if_pos rfl] at hJ
            refine .same (.refl _) ?_
            rw [hJ]
            refine ⟨rfl, sp', ?_, ⟨_, _, upd_same .., hg4.touch ht5 (fun i hi => by simp [hsj' i hi]), fun g => rows_snoc (hrs g) (.sl _ _)⟩, ?_, fun i hi => ?_⟩
            · obtain ⟨z, z1, z2⟩ := hd3
              have hid4 : g4 id = some (.obj (d3.cells z) 56) := ht4 _ _ (fun hi => hgid _ hi rfl) z1
              have z4 : By g4 z d3.b := by
                rcases z2 with z2 | ⟨i, off, cs, rfl, a1, a2, a3⟩
                · exact .inl z2
                · exact .oa (ht4 _ _ (fun hi => by obtain ⟨n, hn⟩ := hg3.has i hi; rw [a1] at hn; cases hn) a1) a2 a3
              exact ⟨z, ht5 _ _ (by simp; exact fun e => hne e.symm) hid4, z4.keep (Keep.upd jid _) hj4 (by decide)⟩
            · exact ((hT3.trans ht4).trans ht5).mono (fun i hi => .inl (by simp at hi ⊢; grind))
            · rcases hsp' i hi with h1 | h1
              · exact .inl h1
              · cases hh : h i with
                | none => exact .inr rfl
                | some k =>
                  by_cases hin : i ∈ id :: jid :: sp
                  · simp only [List.mem_cons] at hin
                    rcases hin with e | e | e
                    · subst e; rw [hd3.choose_spec.1] at h1; cases h1
                    · subst e; rw [hj3] at h1; cases h1
                    · exact .inl e
                  · rw [hT3 i k hin hh] at h1; cases h1
          · simp -implicitDefEqProofs only [go_sem, ↓reduceIte, Nat.reduceLT, Nat.reduceEqDiff, Nat.reduceAdd, Nat.reduceLeDiff, Nat.reduceMul, Nat.reduceSub, Int.natCast_zero, Int.ofNat_zero, Int.natCast_one, Int.cast_ofNat_Int, bne_self_eq_false, beq_self_eq_true, Int.reduceBEq, Int.reduceBNe, Bool.not_true, Bool.not_false]
            refine .one hU hm ?_
            simp -implicitDefEqProofs only [go_sem, ↓reduceIte, Nat.reduceLT, Nat.reduceEqDiff, Nat.reduceAdd, Nat.reduceLeDiff, Nat.reduceMul, Nat.reduceSub, Int.natCast_zero, Int.ofNat_zero, Int.natCast_one, Int.cast_ofNat_Int, bne_self_eq_false, beq_self_eq_true, Int.reduceBEq, Int.reduceBNe, Bool.not_true, Bool.not_false, hj3]
            exact downed g3 d3 [] hd3 hj3 hg3 hT3 hJ
        · -- full
          simp -implicitDefEqProofs only [go_sem, ↓reduceIte, Nat.reduceLT, Nat.reduceEqDiff, Nat.reduceAdd, Nat.reduceLeDiff, Nat.reduceMul, Nat.reduceSub, Int.natCast_zero, Int.ofNat_zero, Int.natCast_one, Int.cast_ofNat_Int, bne_self_eq_false, beq_self_eq_true, Int.reduceBEq, Int.reduceBNe, Bool.not_true, Bool.not_false]
          refine .same (.refl _) ?_
          rw [hJ]
          exact ⟨rfl, sp, hd2, ⟨y, xs, hj2, hg2, hrs⟩, hT2, fun i hi => .inl hi⟩
        · simp -implicitDefEqProofs only [go_sem, ↓reduceIte, Nat.reduceLT, Nat.reduceEqDiff, Nat.reduceAdd, Nat.reduceLeDiff, Nat.reduceMul, Nat.reduceSub, Int.natCast_zero, Int.ofNat_zero, Int.natCast_one, Int.cast_ofNat_Int, bne_self_eq_false, beq_self_eq_true, Int.reduceBEq, Int.reduceBNe, Bool.not_true, Bool.not_false]
          refine .one hU hm ?_
          simp -implicitDefEqProofs only [go_sem, ↓reduceIte, Nat.reduceLT, Nat.reduceEqDiff, Nat.reduceAdd, Nat.reduceLeDiff, Nat.reduceMul, Nat.reduceSub, Int.natCast_zero, Int.ofNat_zero, Int.natCast_one, Int.cast_ofNat_Int, bne_self_eq_false, beq_self_eq_true, Int.reduceBEq, Int.reduceBNe, Bool.not_true, Bool.not_false, hj2]
          refine .one hU hm ?_
          simp -implicitDefEqProofs only [go_sem, ↓reduceIte, Nat.reduceLT, Nat.reduceEqDiff, Nat.reduceAdd, Nat.reduceLeDiff, Nat.reduceMul, Nat.reduceSub, Int.natCast_zero, Int.ofNat_zero, Int.natCast_one, Int.cast_ofNat_Int, bne_self_eq_false, beq_self_eq_true, Int.reduceBEq, Int.reduceBNe, Bool.not_true, Bool.not_false, hj2]
          exact downed g2 d2 [] hd2 hj2 hg2 hT2 hJ
end Go.Proofs.Ytidpcjblciompaa

/- The law JournalPlays. -/
set_option linter.unusedSimpArgs false
set_option linter.unusedVariables false
namespace Go.Proofs.Ytidpcjblciompaa
open Go Go.Ab

theorem RefAt.touch {g g' : Heap} {S : List Nat} {id : Nat} {d : D} (hd : RefAt g id d) (ht : Touch S g g') (h1 : id ∉ S) (h2 : ∀ i cs, g i = some (.obj cs 5) → i ∉ S) : RefAt g' id d := by
  obtain ⟨y, a, b⟩ := hd
  refine ⟨y, ht _ _ h1 a, ?_⟩
  rcases b with b | ⟨i, off, cs, rfl, a1, a2, a3⟩
  · exact .inl b
  · exact .oa (ht _ _ (h2 i cs a1) a1) a2 a3
theorem DiskAt.touch {g g' : Heap} {S : List Nat} {id : Nat} {d : D} (hd : DiskAt g id d) (ht : Touch S g g') (h1 : id ∉ S) (h2 : ∀ i cs, g i = some (.obj cs 5) → i ∉ S) : DiskAt g' id d := by
  obtain ⟨y, a, b⟩ := hd
  refine ⟨y, ht _ _ h1 a, ?_⟩
  rcases b with b | ⟨i, off, cs, rfl, a1, a2, a3⟩
  · exact .inl b
  · exact .oa (ht _ _ (h2 i cs a1) a1) a2 a3

/-- Both disks, both journals. -/
structure Both (g : Heap) (id id2 jid kid : Nat) (d : D) (ps : List (List UInt8)) (down : Bool) (sj sk : List Nat) : Prop where
  d1 : DiskAt g id d
  d2 : RefAt g id2 d
  j1 : JAt g 84 jid id ps down sj
  j2 : JAt g 72 kid id2 ps down sk
  dis : ∀ i ∈ sj, i ∉ sk

theorem Both.sub {g g' : Heap} {id id2 jid kid : Nat} {d : D} {ps : List (List UInt8)} {down : Bool} {sj sk : List Nat} (b : Both g id id2 jid kid d ps down sj sk) (hs : Ab.Sub g g') : Both g' id id2 jid kid d ps down sj sk :=
  ⟨b.d1.keep hs.keepObj, b.d2.keepObj hs.keepObj, b.j1.sub hs, b.j2.sub hs, b.dis⟩
theorem obj_ne {g : Heap} {i j : Nat} {a b : List AV} {s t : TypeId} (h1 : g i = some (.obj a s)) (h2 : g j = some (.obj b t)) (hn : s ≠ t) : i ≠ j := fun e => by
  subst e
  rw [h1] at h2
  simp only [Option.some.injEq, Blk.obj.injEq] at h2
  exact hn h2.2
theorem JAt.spare {g : Heap} {t jid did : Nat} {ps : List (List UInt8)} {down : Bool} {sp : List Nat} (hj : JAt g t jid did ps down sp) : ∀ i ∈ sp, ∃ n, g i = some (.spare n 1) := by
  obtain ⟨_, _, _, b, _⟩ := hj
  exact b.has
theorem JAt.not {g : Heap} {t jid did : Nat} {ps : List (List UInt8)} {down : Bool} {sp : List Nat} (hj : JAt g t jid did ps down sp) {i : Nat} {cs : List AV} {s : TypeId} (h : g i = some (.obj cs s)) : i ∉ sp := fun hi => by
  obtain ⟨n, hn⟩ := hj.spare i hi
  rw [h] at hn; cases hn
/-- Both disks go on alike. -/
theorem Both.disks {g g1 g2 : Heap} {id id2 jid kid : Nat} {d d' : D} {ps : List (List UInt8)} {down : Bool} {sj sk : List Nat} (b : Both g id id2 jid kid d ps down sj sk) (h1 : DiskAt g1 id d') (k1 : Keep id g g1) (h2 : RefAt g2 id2 d') (k2 : Keep id2 g1 g2) :
    Both g2 id id2 jid kid d' ps down sj sk := by
  obtain ⟨y1, a1, _⟩ := b.d1
  obtain ⟨y2, a2, _⟩ := b.d2
  obtain ⟨y3, x3, a3, _⟩ := b.j1
  obtain ⟨y4, x4, a4, _⟩ := b.j2
  have b2 : RefAt g1 id2 d := b.d2.keepDisk b.d1 k1
  have t1 := Touch.keep k1
  have t2 := Touch.keep k2
  have n1 := obj_ne a3 a1 (by decide)
  have n2 := obj_ne a4 a1 (by decide)
  have n3 := obj_ne a3 a2 (by decide)
  have n4 := obj_ne a4 a2 (by decide)
  have j1 := b.j1.touch t1 (by simpa using n1) (fun i hi => by have := b.j1.not a1; simp; exact fun e => this (e ▸ hi))
  have j2 := b.j2.touch t1 (by simpa using n2) (fun i hi => by have := b.j2.not a1; simp; exact fun e => this (e ▸ hi))
  have a2' : g1 id2 = some (.obj (d.cells y2) 56) := k1 _ _ (obj_ne a2 a1 (by decide)) a2
  exact ⟨h1.keepRef b2 k2, h2, j1.touch t2 (by simpa using n3) (fun i hi => by have := j1.not a2'; simp; exact fun e => this (e ▸ hi)), j2.touch t2 (by simpa using n4) (fun i hi => by have := j2.not a2'; simp; exact fun e => this (e ▸ hi)), b.dis⟩
/-- .. behind the first of two records. -/
theorem Both.half {g g1 : Heap} {id id2 jid kid : Nat} {d : D} {ps : List (List UInt8)} {down : Bool} {sj sk : List Nat} (b : Both g id id2 jid kid d ps down sj sk) (ht : Touch (id :: jid :: sj) g g1) : RefAt g1 id2 d ∧ JAt g1 72 kid id2 ps down sk := by
  obtain ⟨y1, a1, _⟩ := b.d1
  obtain ⟨y2, a2, _⟩ := b.d2
  obtain ⟨y3, x3, a3, _⟩ := b.j1
  obtain ⟨y4, x4, a4, _⟩ := b.j2
  refine ⟨b.d2.touch ht ?_ ?_, b.j2.touch ht ?_ ?_⟩
  · simp only [List.mem_cons, not_or]
    exact ⟨obj_ne a2 a1 (by decide), obj_ne a2 a3 (by decide), b.j1.not a2⟩
  · intro i cs hi
    simp only [List.mem_cons, not_or]
    exact ⟨obj_ne hi a1 (by decide), obj_ne hi a3 (by decide), b.j1.not hi⟩
  · simp only [List.mem_cons, not_or]
    exact ⟨obj_ne a4 a1 (by decide), obj_ne a4 a3 (by decide), b.j1.not a4⟩
  · intro i hi
    simp only [List.mem_cons, not_or]
    refine ⟨fun e => b.j2.not a1 (e ▸ hi), fun e => b.j2.not a3 (e ▸ hi), fun h => b.dis i h hi⟩
theorem Both.added {g g1 g2 : Heap} {id id2 jid kid : Nat} {d d' : D} {ps ps' : List (List UInt8)} {down down' : Bool} {sj sk sj' sk' : List Nat} (b : Both g id id2 jid kid d ps down sj sk)
    (h1 : DiskAt g1 id d') (j1 : JAt g1 84 jid id ps' down' sj') (t1 : Touch (id :: jid :: sj) g g1) (n1 : ∀ i ∈ sj', i ∈ sj ∨ g i = none)
    (h2 : RefAt g2 id2 d') (j2 : JAt g2 72 kid id2 ps' down' sk') (t2 : Touch (id2 :: kid :: sk) g1 g2) (n2 : ∀ i ∈ sk', i ∈ sk ∨ g1 i = none) : Both g2 id id2 jid kid d' ps' down' sj' sk' := by
  obtain ⟨c1, c2⟩ := b.half t1
  obtain ⟨y1, a1, _⟩ := (show _ from h1)
  obtain ⟨y2, a2, _⟩ := (show _ from c1)
  obtain ⟨y3, x3, a3, _⟩ := (show _ from j1)
  obtain ⟨y4, x4, a4, _⟩ := (show _ from c2)
  have hd : ∀ i ∈ sj', i ∉ sk := fun i hi hk => by
    rcases n1 i hi with h | h
    · exact b.dis i h hk
    · obtain ⟨n, hn⟩ := b.j2.spare i hk
      rw [h] at hn; cases hn
  refine ⟨h1.touch t2 ?_ ?_, h2, j1.touch t2 ?_ ?_, j2, fun i hi hk => ?_⟩
  · simp only [List.mem_cons, not_or]
    exact ⟨obj_ne a1 a2 (by decide), obj_ne a1 a4 (by decide), c2.not a1⟩
  · intro i cs hi
    simp only [List.mem_cons, not_or]
    exact ⟨obj_ne hi a2 (by decide), obj_ne hi a4 (by decide), c2.not hi⟩
  · simp only [List.mem_cons, not_or]
    exact ⟨obj_ne a3 a2 (by decide), obj_ne a3 a4 (by decide), c2.not a3⟩
  · intro i hi
    simp only [List.mem_cons, not_or]
    exact ⟨fun e => j1.not a2 (e ▸ hi), fun e => j1.not a4 (e ▸ hi), hd i hi⟩
  · rcases n2 i hk with h | h
    · exact hd i hi h
    · obtain ⟨n, hn⟩ := j1.spare i hi
      rw [h] at hn; cases hn
/-- Opened anew. -/
theorem Both.opened {g g1 g2 : Heap} {id id2 jid kid : Nat} {d' : D} {ps' : List (List UInt8)} {sj sk : List Nat} {d : D} (d2 : RefAt g id2 d) (h1 : DiskAt g1 id d') (j1 : JAt g1 84 jid id ps' false sj) (k1 : Keep id g g1) (d1 : DiskAt g id d)
    (h2 : RefAt g2 id2 d') (j2 : JAt g2 72 kid id2 ps' false sk) (k2 : Keep id2 g1 g2) (n2 : ∀ i ∈ sk, g1 i = none) : Both g2 id id2 jid kid d' ps' false sj sk := by
  have c2 := d2.keepDisk d1 k1
  obtain ⟨y2, a2, _⟩ := (show _ from c2)
  obtain ⟨y3, x3, a3, _⟩ := (show _ from j1)
  refine ⟨h1.keepRef c2 k2, h2, j1.touch (Touch.keep k2) (by simpa using obj_ne a3 a2 (by decide)) (fun i hi => by have := j1.not a2; simp; exact fun e => this (e ▸ hi)), j2, fun i hi hk => ?_⟩
  obtain ⟨n, hn⟩ := j1.spare i hi
  rw [n2 i hk] at hn; cases hn

/-- What holds of the records. -/
structure Ps (i : Nat) (ps : List (List UInt8)) : Prop where
  n : ps.length ≤ 1000 + i
  p : ∀ p ∈ ps, p.length ≤ 8192
theorem Ps.p' {i : Nat} {ps : List (List UInt8)} (h : Ps i ps) : ∀ p ∈ ps, p.length ≤ 1000000 := fun q hq => by have := h.p q hq; omega
theorem Ps.add {i : Nat} {ps : List (List UInt8)} (h : Ps i ps) (d : D) (down : Bool) (p : List UInt8) (hp : p.length ≤ 60) : Ps (i + 1) (jadd d ps down p).1.2.1 := by
  have h0 : Ps (i + 1) ps := ⟨by have := h.n; omega, h.p⟩
  unfold jadd
  by_cases c1 : down = true
  · rw [if_pos c1]; exact h0
  · rw [if_neg c1]
    by_cases c2 : p.length = 0 ∨ 8192 < p.length
    · rw [if_pos c2]; exact h0
    · rw [if_neg c2]
      by_cases c3 : (d.append (frame p)).2 = 8
      · rw [if_pos c3]; exact h0
      · rw [if_neg c3]
        generalize (if (d.append (frame p)).2 = 0 then (d.append (frame p)).1.sync else d.append (frame p)) = s
        by_cases c4 : s.2 = 0
        · rw [if_pos c4]
          refine ⟨by have := h.n; simp; omega, fun q hq => ?_⟩
          rcases List.mem_append.1 hq with h1 | h1
          · exact h.p q h1
          · rw [List.mem_singleton.1 h1]; omega
        · rw [if_neg c4]; exact h0
theorem Ps.scan {i : Nat} (l : List UInt8) (hl : l.length ≤ 1000) : Ps i (scan l).1 := by
  obtain ⟨c1, c2⟩ := scan_ps l
  exact ⟨by omega, c2⟩
theorem D.burn_q' (d : D) : d.burn.q = d.q := by unfold D.burn; split <;> rfl
theorem D.append_q (d : D) (b : List UInt8) : (d.append b).1.q = d.q := by
  unfold D.append
  split
  · rfl
  · split
    · rfl
    · exact D.burn_q' _
theorem D.sync_q (d : D) : d.sync.1.q = d.q := by
  unfold D.sync
  split
  · rfl
  · split
    · exact D.burn_q' _
    · exact D.burn_q' _
theorem D.cut_q (d : D) (n : Int) : (d.cut n).1.q = d.q := by
  unfold D.cut
  split
  · rfl
  · split
    · rfl
    · split
      · exact D.burn_q' _
      · exact D.burn_q' _
theorem D.openD_q (d : D) : d.openD.1.q = d.q := by
  have h1 : (if (scan d.b).2 < d.b.length then d.cut ((scan d.b).2 : Nat) else (d, 0)).1.q = d.q := by
    split
    · exact D.cut_q _ _
    · rfl
  unfold D.openD
  generalize (if (scan d.b).2 < d.b.length then d.cut ((scan d.b).2 : Nat) else (d, 0)) = c at h1
  show (if c.2 = 0 then c.1.sync else c).1.q = _
  split
  · rw [D.sync_q]; exact h1
  · exact h1
theorem jadd_q (d : D) (ps : List (List UInt8)) (down : Bool) (p : List UInt8) : (jadd d ps down p).1.1.q = d.q := by
  have h2 : (if (d.append (frame p)).2 = 0 then (d.append (frame p)).1.sync else d.append (frame p)).1.q = d.q := by
    split
    · rw [D.sync_q, D.append_q]
    · exact D.append_q _ _
  unfold jadd
  generalize (if (d.append (frame p)).2 = 0 then (d.append (frame p)).1.sync else d.append (frame p)) = s at h2
  by_cases c1 : down = true
  · rw [if_pos c1]
  · rw [if_neg c1]
    by_cases c2 : p.length = 0 ∨ 8192 < p.length
    · rw [if_pos c2]
    · rw [if_neg c2]
      by_cases c3 : (d.append (frame p)).2 = 8
      · rw [if_pos c3]; exact D.append_q _ _
      · rw [if_neg c3]
        by_cases c4 : s.2 = 0
        · rw [if_pos c4]; exact h2
        · rw [if_neg c4]; exact h2
end Go.Proofs.Ytidpcjblciompaa
