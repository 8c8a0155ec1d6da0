/- The disk: Boot. -/
import Derived.Test.YtidpcjblciompaaC6
set_option linter.unusedSimpArgs false
set_option linter.unusedVariables false
namespace Go.Proofs.Ytidpcjblciompaa
open Go Go.Ab

def D.left (d : D) (keep : Int) : Nat := d.sy + min keep.toNat (d.b.length - d.sy)
def D.bad (d : D) (keep torn : Int) : Nat := min torn.toNat (d.left keep - d.sy)
def flipTail (l : List UInt8) (i : Nat) : List UInt8 := l.take i ++ (l.drop i).map (~~~ ·)
def D.boot (d : D) (keep torn : Int) : D := { d with b := flipTail (d.b.take (d.left keep)) (d.left keep - d.bad keep torn), sy := d.left keep, f := 0, off := false }

theorem D.left_le {d : D} (hd : d.ok) (keep : Int) : d.sy ≤ d.left keep ∧ d.left keep ≤ d.b.length := by
  obtain ⟨d1, d2, d3, d4⟩ := hd
  unfold D.left; omega
theorem flipTail_length (l : List UInt8) (i : Nat) : (flipTail l i).length = l.length := by simp [flipTail]; omega
theorem D.boot_ok {d : D} (hd : d.ok) (keep torn : Int) : (d.boot keep torn).ok := by
  obtain ⟨d1, d2, d3, d4⟩ := hd
  obtain ⟨l1, l2⟩ := D.left_le ⟨d1, d2, d3, d4⟩ keep
  refine ⟨?_, d2, ?_, by show (0 : Nat) < _; decide⟩
  · show (flipTail _ _).length ≤ d.q
    rw [flipTail_length, List.length_take]; omega
  · show d.left keep ≤ (flipTail _ _).length
    rw [flipTail_length, List.length_take]; omega

theorem flip_byte (c : UInt8) : IntKind.u8.wrap ((BitVec.ofInt IntKind.u8.bits (if IntKind.u8.signed = true then -1 else IntKind.u8.max) ^^^ BitVec.ofInt IntKind.u8.bits (c.toNat : Int)).toNat) = ((~~~ c).toNat : Int) := by
  revert c
  have : ∀ i : Fin 256, IntKind.u8.wrap ((BitVec.ofInt IntKind.u8.bits (if IntKind.u8.signed = true then -1 else IntKind.u8.max) ^^^ BitVec.ofInt IntKind.u8.bits ((UInt8.ofNat i).toNat : Int)).toNat) = ((~~~ (UInt8.ofNat i)).toNat : Int) := by decide +kernel
  intro c
  have h := this ⟨c.toNat, c.toNat_lt⟩
  simpa using h

theorem unA_xor8 (c : UInt8) (k : AV → Prop) : unA .xor (.v (.int .u8 (c.toNat : Int))) k = k (.v (.int .u8 ((~~~ c).toNat : Int))) := by
  rw [unA_xor, flip_byte]
theorem upd_swap {α : Type} {f : Nat → α} {i j : Nat} (hij : ¬ i = j) (a b c : α) : upd (upd (upd f i a) j b) i c = upd (upd f i c) j b := by
  funext k
  simp only [upd]
  by_cases h1 : k = i
  · subst h1; simp [hij]
  · simp [h1]

theorem boot_ok (d : D) (hd : d.ok) (id : Nat) (h : Heap) (keep torn : Int) (hdk : DiskAt h id d) :
    FnOK Try.prog 18 [.ptr id 0, .v (.int .i64 keep), .v (.int .i64 torn)] h fun _ h' => DiskAt h' id (d.boot keep torn) ∧ Keep id h h' := by
  obtain ⟨y, hid0, hb⟩ := hdk
  have hid := hid0
  simp only [D.cells] at hid
  obtain ⟨d1, d2, d3, d4⟩ := hd
  obtain ⟨l1, l2⟩ := D.left_le ⟨d1, d2, d3, d4⟩ keep
  have w1 : IntKind.i64.wrap ((d.b.length : Int) - d.sy) = ((d.b.length - d.sy : Nat) : Int) := by rw [IntWalk.i64_in _ (by omega)]; omega
  have m1 : (if keep < 0 then (0 : Int) else keep) = (keep.toNat : Int) := by split <;> omega
  have m2 : (if (((d.b.length - d.sy : Nat) : Int)) < (keep.toNat : Int) then (((d.b.length - d.sy : Nat) : Int)) else (keep.toNat : Int)) = ((min keep.toNat (d.b.length - d.sy) : Nat) : Int) := by split <;> omega
  have w2 : IntKind.i64.wrap ((d.sy : Int) + ((min keep.toNat (d.b.length - d.sy) : Nat) : Int)) = (d.left keep : Int) := by unfold D.left at *; rw [IntWalk.i64_in _ (by omega)]; omega
  have w3 : IntKind.i64.wrap ((d.left keep : Int) - d.sy) = ((d.left keep - d.sy : Nat) : Int) := by rw [IntWalk.i64_in _ (by omega)]; omega
  have m3 : (if torn < 0 then (0 : Int) else torn) = (torn.toNat : Int) := by split <;> omega
  have m4 : (if (((d.left keep - d.sy : Nat) : Int)) < (torn.toNat : Int) then (((d.left keep - d.sy : Nat) : Int)) else (torn.toNat : Int)) = (d.bad keep torn : Int) := by unfold D.bad; split <;> omega
  have hbad : d.bad keep torn ≤ d.left keep := by unfold D.bad; omega
  have w4 : IntKind.i64.wrap ((d.left keep : Int) - (d.bad keep torn : Int)) = ((d.left keep - d.bad keep torn : Nat) : Int) := by rw [IntWalk.i64_in _ (by omega)]; omega
  refine FnOK.body hU hm Try.func18 rfl (by kernel_rfl) 78 rfl [] rfl (Nat.le_of_ble_eq_true rfl) (fun hwf => ?_)
  simp -implicitDefEqProofs only [go_sem, ↓reduceIte, Nat.reduceLT, Nat.reduceEqDiff, Nat.reduceAdd, Nat.reduceLeDiff, Nat.reduceMul, Nat.reduceSub, hid, hb.len, w1, m1, m2, w2]
  refine ⟨.of (by kernel_rfl), ?_⟩
  simp -implicitDefEqProofs only [go_sem, ↓reduceIte, Nat.reduceLT, Nat.reduceEqDiff, Nat.reduceAdd, Nat.reduceLeDiff, Nat.reduceMul, Nat.reduceSub, hid, w3, m3, m4]
  refine hb.take (m := d.left keep) (x := .i64) (d.left keep) ?_ rfl l2 u5 fun z hz => ?_
  · simp -implicitDefEqProofs only [go_sem, ↓reduceIte, Nat.reduceLT, Nat.reduceEqDiff, Nat.reduceAdd, Nat.reduceLeDiff, Nat.reduceMul, Nat.reduceSub]
  · simp -implicitDefEqProofs only [go_sem, ↓reduceIte, Nat.reduceLT, Nat.reduceEqDiff, Nat.reduceAdd, Nat.reduceLeDiff, Nat.reduceMul, Nat.reduceSub]
    have hlen : (d.b.take (d.left keep)).length = d.left keep := by rw [List.length_take]; omega
    refine (clone_oa z _ _ hz (by omega)).mono fun r h1 hr => ?_
    rcases hr with ⟨hl0, rfl, rfl⟩ | ⟨hl0, id2, m, hid2, rfl, rfl⟩
    · have hl00 : d.left keep = 0 := by rw [hl0] at hlen; simpa using hlen.symm
      have hb0 : d.bad keep torn = 0 := by omega
      have hf : d.boot keep torn = ⟨d.q, [], 0, 0, false⟩ := by
        unfold D.boot
        rw [hl0, hl00]
        simp [flipTail]
      simp -implicitDefEqProofs only [go_sem, ↓reduceIte, Nat.reduceLT, Nat.reduceEqDiff, Nat.reduceAdd, Nat.reduceLeDiff, Nat.reduceMul, Nat.reduceSub, hid, w4]
      refine .intro (fun m ρ h' => h' = upd h1 id (some (.obj [.v (.int .i64 d.q), .sl [] .no, .v (.int .i64 d.sy), .v (.int .i64 d.f), .v (.bool d.off)] 75)) ∧ lk ρ 0 = some (.ptr id 0) ∧ lk ρ 6 = some (.v (.int .i64 0)) ∧ lk ρ 8 = some (.v (.int .i64 0))) 0 ?_ ?_
      · refine ⟨rfl, ?_, ?_, ?_⟩ <;> simp -implicitDefEqProofs only [go_sem, ↓reduceIte, Nat.reduceLT, Nat.reduceEqDiff, Nat.reduceAdd, Nat.reduceLeDiff, Nat.reduceMul, Nat.reduceSub]
        · rw [hl00]; rfl
        · rw [hl00, hb0]; rfl
      · rintro m ρ h' ⟨rfl, r0, r6, r8⟩
        simp -implicitDefEqProofs only [go_sem, ↓reduceIte, Nat.reduceLT, Nat.reduceEqDiff, Nat.reduceAdd, Nat.reduceLeDiff, Nat.reduceMul, Nat.reduceSub, r0, r6, r8]
        refine .no (by decide) ?_
        simp -implicitDefEqProofs only [go_sem, ↓reduceIte, Nat.reduceLT, Nat.reduceEqDiff, Nat.reduceAdd, Nat.reduceLeDiff, Nat.reduceMul, Nat.reduceSub, r0, r6, r8]
        refine .same (.refl _) ⟨⟨.sl [] .no, ?_, ?_⟩, Keep.upd id _⟩
        · rw [upd_same, hf]; rfl
        · rw [hf]; exact .nil _
    · have hne : ¬ id = id2 := fun e => by subst e; rw [hid] at hid2; cases hid2
      have hne' : ¬ id2 = id := fun e => hne e.symm
      simp -implicitDefEqProofs only [go_sem, ↓reduceIte, Nat.reduceLT, Nat.reduceEqDiff, Nat.reduceAdd, Nat.reduceLeDiff, Nat.reduceMul, Nat.reduceSub, hid, hne, w4]
      generalize hL : d.b.take (d.left keep) = L at *
      generalize hs : d.left keep - d.bad keep torn = s at *
      rw [hlen]
      refine .intro (fun k ρ h' => ∃ (i : Nat) (cs : List AV), k = d.left keep - i ∧ s ≤ i ∧ i ≤ d.left keep ∧ cs.length = d.left keep + m ∧ (∀ j (hj : j < L.length), cs[j]? = some (byteA (if s ≤ j ∧ j < i then ~~~ L[j] else L[j]))) ∧
        h' = upd (upd h id2 (some (.obj cs 5))) id (some (.obj [.v (.int .i64 d.q), .oa id2 0 (d.left keep), .v (.int .i64 d.sy), .v (.int .i64 d.f), .v (.bool d.off)] 75)) ∧ lk ρ 0 = some (.ptr id 0) ∧ lk ρ 6 = some (.v (.int .i64 (d.left keep : Nat))) ∧ lk ρ 8 = some (.v (.int .i64 (i : Nat)))) (d.left keep - s) ?_ ?_
      · refine ⟨s, _, rfl, Nat.le_refl _, by omega, ?_, fun j hj => ?_, rfl, ?_, ?_, ?_⟩
        · simp [hlen]
        · rw [List.getElem?_append_left (by simpa using hj), List.getElem?_map, List.getElem?_eq_getElem hj, if_neg (by omega)]; rfl
        all_goals simp -implicitDefEqProofs only [go_sem, ↓reduceIte, Nat.reduceLT, Nat.reduceEqDiff, Nat.reduceAdd, Nat.reduceLeDiff, Nat.reduceMul, Nat.reduceSub]
      · rintro k ρ h' ⟨i, cs, rfl, hi1, hi2, hcl, hcs, rfl, r0, r6, r8⟩
        simp -implicitDefEqProofs only [go_sem, ↓reduceIte, Nat.reduceLT, Nat.reduceEqDiff, Nat.reduceAdd, Nat.reduceLeDiff, Nat.reduceMul, Nat.reduceSub, r0, r6, r8]
        refine .intro (fun e => ?_) (fun e => ?_)
        · have hlt : i < d.left keep := by simpa using e
          have c1 : ((0 : Int) ≤ (i : Int)) = True := eq_true (by omega)
          have c2 : ((i : Int) < ((d.left keep : Nat) : Int)) = True := eq_true (by omega)
          have c3 := hcs i (by omega)
          rw [if_neg (by omega)] at c3
          have c4 : (i + 1 ≤ cs.length) = True := eq_true (by omega)
          have w5 : IntKind.i64.wrap ((i : Int) + 1) = ((i + 1 : Nat) : Int) := by rw [IntWalk.i64_in _ (by omega)]; omega
          simp -implicitDefEqProofs only [go_sem, ↓reduceIte, Nat.reduceLT, Nat.reduceEqDiff, Nat.reduceAdd, Nat.reduceLeDiff, Nat.reduceMul, Nat.reduceSub, r0, r6, r8, hne, hne', c1, c2, c3, c4, Nat.mul_one, Int.toNat_natCast, ↓unA_xor8]
          refine ⟨.of (by kernel_rfl), ?_⟩
          simp -implicitDefEqProofs only [go_sem, ↓reduceIte, Nat.reduceLT, Nat.reduceEqDiff, Nat.reduceAdd, Nat.reduceLeDiff, Nat.reduceMul, Nat.reduceSub, r0, r6, r8, w5]
          refine ⟨d.left keep - (i + 1), by omega, i + 1, _, rfl, by omega, hlt, ?_, ?_, upd_swap hne' .., ?_, ?_, ?_⟩
          · simp; omega
          · intro j hj
            show _ = some (byteA (if s ≤ j ∧ j < i + 1 then ~~~ L[j] else L[j]))
            have hjc : j < cs.length := by omega
            have hold := hcs j hj
            by_cases hji : j = i
            · subst hji
              rw [if_pos ⟨hi1, by omega⟩]
              rw [List.append_assoc, List.getElem?_append_right (by simp; omega)]
              simp [show j ≤ cs.length by omega, byteA]
            · have hcond : (s ≤ j ∧ j < i + 1) ↔ (s ≤ j ∧ j < i) := by omega
              simp only [hcond]
              rw [← show cs[j]? = some (byteA (if s ≤ j ∧ j < i then ~~~ L[j] else L[j])) from hold]
              rcases Nat.lt_or_ge j i with hlt2 | hge2
              · rw [List.append_assoc, List.getElem?_append_left (by simp; omega), List.getElem?_take, if_pos (by omega)]
              · rw [List.getElem?_append_right (by simp; omega), List.getElem?_drop]
                congr 1
                simp; omega
          all_goals simp -implicitDefEqProofs only [go_sem, ↓reduceIte, Nat.reduceLT, Nat.reduceEqDiff, Nat.reduceAdd, Nat.reduceLeDiff, Nat.reduceMul, Nat.reduceSub, r0, r6, r8, w5]
        · have hge : i = d.left keep := by
            have : ¬ (i < d.left keep) := by simpa using e
            omega
          subst hge
          simp -implicitDefEqProofs only [go_sem, ↓reduceIte, Nat.reduceLT, Nat.reduceEqDiff, Nat.reduceAdd, Nat.reduceLeDiff, Nat.reduceMul, Nat.reduceSub, r0, r6, r8, hne, hne']
          refine .same (.refl _) ⟨⟨.oa id2 0 (d.left keep), ?_, ?_⟩, ?_⟩
          · rw [upd_same]
            rfl
          · have hbl : (d.boot keep torn).b = flipTail L s := by
              unfold D.boot
              rw [hL, hs]
            have hll : (flipTail L s).length = d.left keep := by rw [flipTail_length, hlen]
            rw [hbl, ← hll]
            refine .oa (cs := cs) ?_ (by omega) ?_
            · rw [upd_other _ _ hne', upd_same]
            · apply List.ext_getElem?
              intro j
              rw [List.drop_zero, List.getElem?_take, List.getElem?_map]
              by_cases hj : j < d.left keep
              · have hj2 : j < L.length := by omega
                have := hcs j hj2
                rw [if_pos (by omega), show cs[j]? = _ from this]
                unfold flipTail
                by_cases hsj : s ≤ j
                · rw [if_pos ⟨hsj, hj⟩, List.getElem?_append_right (by simp; omega)]
                  have : min s L.length = s := by omega
                  simp [this, hj2, show s + (j - s) = j by omega, byteA]
                · rw [if_neg (by omega), List.getElem?_append_left (by simp; omega), List.getElem?_take, if_pos (by omega), List.getElem?_eq_getElem hj2]; rfl
              · rw [if_neg (by omega), List.getElem?_eq_none (by omega)]; rfl
          · intro j k hj hk
            have h3 : ¬ j = id2 := fun e => by subst e; rw [hid2] at hk; cases hk
            rw [upd_other _ _ hj, upd_other _ _ h3]; exact hk
end Go.Proofs.Ytidpcjblciompaa
