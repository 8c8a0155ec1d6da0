/- Sums of 32 bits; numbers as four bytes. -/
import Derived.Test.YtidpcjblciompaaCB
import Derived.Test.YtidpcjblciompaaAb28
set_option linter.unusedSimpArgs false
set_option linter.unusedVariables false
namespace Go.Proofs.Ytidpcjblciompaa
open Go Go.Ab

def crcBit (s : BitVec 32) : BitVec 32 := if s &&& 1#32 = 1#32 then (s >>> 1) ^^^ 0xedb88320#32 else s >>> 1
def crcN : Nat → BitVec 32 → BitVec 32
  | 0, s => s
  | n + 1, s => crcBit (crcN n s)
def crcByte (s : BitVec 32) (c : UInt8) : BitVec 32 := crcN 8 (s ^^^ BitVec.ofNat 32 c.toNat)
def crc (l : List UInt8) : BitVec 32 := ~~~ (l.foldl crcByte (BitVec.allOnes 32))

theorem byte32 (c : UInt8) : IntKind.u32.wrap (c.toNat : Int) = ((BitVec.ofNat 32 c.toNat).toNat : Int) := by
  have := c.toNat_lt
  rw [w32 _ (by omega), BitVec.toNat_ofNat, Nat.mod_eq_of_lt (by omega)]
theorem out_eq (x : BitVec 32) : (((x &&& 1#32).toNat : Int) == 1) = decide (x &&& 1#32 = 1#32) := by
  rw [Bool.eq_iff_iff, beq_iff_eq, decide_eq_true_iff]
  constructor
  · intro h
    apply BitVec.eq_of_toNat_eq
    show (x &&& 1#32).toNat = 1
    omega
  · intro h; rw [h]; rfl

theorem sum_ok (y : AV) (l : List UInt8) (h : Heap) (hb : By h y l) (hl : l.length ≤ 1000000000) :
    FnOK Try.prog 49 [y] h fun r h' => r = .v (.int .u32 ((crc l).toNat : Int)) ∧ h' = h := by
  refine FnOK.body hU hm Try.func49 rfl (by kernel_rfl) 31 rfl [.tmp 2] rfl (Nat.le_of_ble_eq_true rfl) (fun hwf => ?_)
  simp -implicitDefEqProofs only [go_sem, ↓reduceIte, Nat.reduceLT, Nat.reduceEqDiff, Nat.reduceAdd, Nat.reduceLeDiff, Nat.reduceMul, Nat.reduceSub, Int.natCast_zero, Int.ofNat_zero, Int.natCast_one, Int.cast_ofNat_Int, bne_self_eq_false, beq_self_eq_true, Int.reduceBEq, Int.reduceBNe, Bool.not_true, Bool.not_false, hb.len]
  refine .intro (fun m ρ h' => h' = h ∧ ∃ i : Nat, i ≤ l.length ∧ m = l.length - i ∧ lk ρ 7 = some y ∧ lk ρ 8 = some (.v (.int .i64 l.length)) ∧ lk ρ 9 = some (.v (.int .i64 i)) ∧ lk ρ 3 = some (.v (.int .u32 (((l.take i).foldl crcByte (BitVec.allOnes 32)).toNat : Int)))) l.length ?_ ?_
  · refine ⟨rfl, 0, by omega, rfl, ?_, ?_, ?_, ?_⟩ <;> simp -implicitDefEqProofs only [go_sem, ↓reduceIte, Nat.reduceLT, Nat.reduceEqDiff, Nat.reduceAdd, Nat.reduceLeDiff, Nat.reduceMul, Nat.reduceSub, Int.natCast_zero, Int.ofNat_zero, Int.natCast_one, Int.cast_ofNat_Int, bne_self_eq_false, beq_self_eq_true, Int.reduceBEq, Int.reduceBNe, Bool.not_true, Bool.not_false]
    rfl
  · rintro m ρ h' ⟨rfl, i, hi, rfl, r7, r8, r9, r3⟩
    simp -implicitDefEqProofs only [go_sem, ↓reduceIte, Nat.reduceLT, Nat.reduceEqDiff, Nat.reduceAdd, Nat.reduceLeDiff, Nat.reduceMul, Nat.reduceSub, Int.natCast_zero, Int.ofNat_zero, Int.natCast_one, Int.cast_ofNat_Int, bne_self_eq_false, beq_self_eq_true, Int.reduceBEq, Int.reduceBNe, Bool.not_true, Bool.not_false, r7, r8, r9, r3]
    refine .intro (fun e => ?_) (fun e => ?_)
    · have hlt : i < l.length := Int.ofNat_lt.1 (of_decide_eq_true e)
      have w1 : IntKind.i64.wrap ((i : Int) + 1) = ((i + 1 : Nat) : Int) := by rw [wrap64 _ (by omega)]; omega
      have hs : (l.take (i + 1)).foldl crcByte (BitVec.allOnes 32) = crcByte ((l.take i).foldl crcByte (BitVec.allOnes 32)) l[i] := by
        rw [List.take_succ_eq_append_getElem hlt, List.foldl_append]; rfl
      generalize (l.take i).foldl crcByte (BitVec.allOnes 32) = s at r3 hs
      simp -implicitDefEqProofs only [go_sem, ↓reduceIte, Nat.reduceLT, Nat.reduceEqDiff, Nat.reduceAdd, Nat.reduceLeDiff, Nat.reduceMul, Nat.reduceSub, Int.natCast_zero, Int.ofNat_zero, Int.natCast_one, Int.cast_ofNat_Int, bne_self_eq_false, beq_self_eq_true, Int.reduceBEq, Int.reduceBNe, Bool.not_true, Bool.not_false, r7, r8, r9, r3]
      refine hb.idx i rfl hlt u5 u5a fun p hp => ?_
      simp -implicitDefEqProofs only [go_sem, ↓reduceIte, Nat.reduceLT, Nat.reduceEqDiff, Nat.reduceAdd, Nat.reduceLeDiff, Nat.reduceMul, Nat.reduceSub, Int.natCast_zero, Int.ofNat_zero, Int.natCast_one, Int.cast_ofNat_Int, bne_self_eq_false, beq_self_eq_true, Int.reduceBEq, Int.reduceBNe, Bool.not_true, Bool.not_false, r7, r8, r9, r3, hp _, byte32]
      refine .intro (fun m ρ h2 => h2 = h' ∧ ∃ j : Nat, j ≤ 8 ∧ m = 8 - j ∧ lk ρ 7 = some y ∧ lk ρ 8 = some (.v (.int .i64 l.length)) ∧ lk ρ 9 = some (.v (.int .i64 i)) ∧ lk ρ 17 = some (.v (.int .i64 j)) ∧ lk ρ 3 = some (.v (.int .u32 ((crcN j (s ^^^ BitVec.ofNat 32 l[i].toNat)).toNat : Int)))) 8 ?_ ?_
      · refine ⟨rfl, 0, by omega, rfl, ?_, ?_, ?_, ?_, ?_⟩ <;> simp -implicitDefEqProofs only [go_sem, ↓reduceIte, Nat.reduceLT, Nat.reduceEqDiff, Nat.reduceAdd, Nat.reduceLeDiff, Nat.reduceMul, Nat.reduceSub, Int.natCast_zero, Int.ofNat_zero, Int.natCast_one, Int.cast_ofNat_Int, bne_self_eq_false, beq_self_eq_true, Int.reduceBEq, Int.reduceBNe, Bool.not_true, Bool.not_false, r7, r8, r9, r3]
        rfl
      · rintro m ρ h2 ⟨rfl, j, hj, rfl, q7, q8, q9, q17, q3⟩
        simp -implicitDefEqProofs only [go_sem, ↓reduceIte, Nat.reduceLT, Nat.reduceEqDiff, Nat.reduceAdd, Nat.reduceLeDiff, Nat.reduceMul, Nat.reduceSub, Int.natCast_zero, Int.ofNat_zero, Int.natCast_one, Int.cast_ofNat_Int, bne_self_eq_false, beq_self_eq_true, Int.reduceBEq, Int.reduceBNe, Bool.not_true, Bool.not_false, q7, q8, q9, q17, q3]
        refine .intro (fun e => ?_) (fun e => ?_)
        · have hjl : j < 8 := by have := of_decide_eq_true e; omega
          have w2 : IntKind.i64.wrap ((j : Int) + 1) = ((j + 1 : Nat) : Int) := by rw [wrap64 _ (by omega)]; omega
          have hc : crcN (j + 1) (s ^^^ BitVec.ofNat 32 l[i].toNat) = crcBit (crcN j (s ^^^ BitVec.ofNat 32 l[i].toNat)) := rfl
          generalize crcN j (s ^^^ BitVec.ofNat 32 l[i].toNat) = z at q3 hc
          simp -implicitDefEqProofs only [go_sem, ↓reduceIte, Nat.reduceLT, Nat.reduceEqDiff, Nat.reduceAdd, Nat.reduceLeDiff, Nat.reduceMul, Nat.reduceSub, Int.natCast_zero, Int.ofNat_zero, Int.natCast_one, Int.cast_ofNat_Int, bne_self_eq_false, beq_self_eq_true, Int.reduceBEq, Int.reduceBNe, Bool.not_true, Bool.not_false, q7, q8, q9, q17, q3, out_eq]
          refine .intro (fun e2 => ?_) (fun e2 => ?_)
          · simp -implicitDefEqProofs only [go_sem, ↓reduceIte, Nat.reduceLT, Nat.reduceEqDiff, Nat.reduceAdd, Nat.reduceLeDiff, Nat.reduceMul, Nat.reduceSub, Int.natCast_zero, Int.ofNat_zero, Int.natCast_one, Int.cast_ofNat_Int, bne_self_eq_false, beq_self_eq_true, Int.reduceBEq, Int.reduceBNe, Bool.not_true, Bool.not_false, q7, q8, q9, q17, q3, out_eq, w2]
            refine ⟨_, ?_, rfl, j + 1, by omega, rfl, ?_, ?_, ?_, ?_, ?_⟩
            rotate_left 5
            · simp -implicitDefEqProofs only [go_sem, ↓reduceIte, Nat.reduceLT, Nat.reduceEqDiff, Nat.reduceAdd, Nat.reduceLeDiff, Nat.reduceMul, Nat.reduceSub, Int.natCast_zero, Int.ofNat_zero, Int.natCast_one, Int.cast_ofNat_Int, bne_self_eq_false, beq_self_eq_true, Int.reduceBEq, Int.reduceBNe, Bool.not_true, Bool.not_false, q7, q8, q9, q17, q3]
              rw [hc, crcBit, if_pos (of_decide_eq_true e2)]
            · omega
            all_goals simp -implicitDefEqProofs only [go_sem, ↓reduceIte, Nat.reduceLT, Nat.reduceEqDiff, Nat.reduceAdd, Nat.reduceLeDiff, Nat.reduceMul, Nat.reduceSub, Int.natCast_zero, Int.ofNat_zero, Int.natCast_one, Int.cast_ofNat_Int, bne_self_eq_false, beq_self_eq_true, Int.reduceBEq, Int.reduceBNe, Bool.not_true, Bool.not_false, q7, q8, q9, q17, q3, w2]
          · simp -implicitDefEqProofs only [go_sem, ↓reduceIte, Nat.reduceLT, Nat.reduceEqDiff, Nat.reduceAdd, Nat.reduceLeDiff, Nat.reduceMul, Nat.reduceSub, Int.natCast_zero, Int.ofNat_zero, Int.natCast_one, Int.cast_ofNat_Int, bne_self_eq_false, beq_self_eq_true, Int.reduceBEq, Int.reduceBNe, Bool.not_true, Bool.not_false, q7, q8, q9, q17, q3, out_eq, w2]
            refine ⟨_, ?_, rfl, j + 1, by omega, rfl, ?_, ?_, ?_, ?_, ?_⟩
            rotate_left 5
            · simp -implicitDefEqProofs only [go_sem, ↓reduceIte, Nat.reduceLT, Nat.reduceEqDiff, Nat.reduceAdd, Nat.reduceLeDiff, Nat.reduceMul, Nat.reduceSub, Int.natCast_zero, Int.ofNat_zero, Int.natCast_one, Int.cast_ofNat_Int, bne_self_eq_false, beq_self_eq_true, Int.reduceBEq, Int.reduceBNe, Bool.not_true, Bool.not_false, q7, q8, q9, q17, q3]
              rw [hc, crcBit, if_neg (of_decide_eq_false e2)]
            · omega
            all_goals simp -implicitDefEqProofs only [go_sem, ↓reduceIte, Nat.reduceLT, Nat.reduceEqDiff, Nat.reduceAdd, Nat.reduceLeDiff, Nat.reduceMul, Nat.reduceSub, Int.natCast_zero, Int.ofNat_zero, Int.natCast_one, Int.cast_ofNat_Int, bne_self_eq_false, beq_self_eq_true, Int.reduceBEq, Int.reduceBNe, Bool.not_true, Bool.not_false, q7, q8, q9, q17, q3, w2]
        · have hj8 : j = 8 := by have := of_decide_eq_false e; omega
          subst hj8
          simp -implicitDefEqProofs only [go_sem, ↓reduceIte, Nat.reduceLT, Nat.reduceEqDiff, Nat.reduceAdd, Nat.reduceLeDiff, Nat.reduceMul, Nat.reduceSub, Int.natCast_zero, Int.ofNat_zero, Int.natCast_one, Int.cast_ofNat_Int, bne_self_eq_false, beq_self_eq_true, Int.reduceBEq, Int.reduceBNe, Bool.not_true, Bool.not_false, q7, q8, q9, q17, q3, w1]
          refine ⟨_, ?_, rfl, i + 1, by omega, rfl, ?_, ?_, ?_, ?_⟩
          rotate_left 4
          · simp -implicitDefEqProofs only [go_sem, ↓reduceIte, Nat.reduceLT, Nat.reduceEqDiff, Nat.reduceAdd, Nat.reduceLeDiff, Nat.reduceMul, Nat.reduceSub, Int.natCast_zero, Int.ofNat_zero, Int.natCast_one, Int.cast_ofNat_Int, bne_self_eq_false, beq_self_eq_true, Int.reduceBEq, Int.reduceBNe, Bool.not_true, Bool.not_false, q7, q8, q9, q17, q3]
            rw [hs]; rfl
          · omega
          all_goals simp -implicitDefEqProofs only [go_sem, ↓reduceIte, Nat.reduceLT, Nat.reduceEqDiff, Nat.reduceAdd, Nat.reduceLeDiff, Nat.reduceMul, Nat.reduceSub, Int.natCast_zero, Int.ofNat_zero, Int.natCast_one, Int.cast_ofNat_Int, bne_self_eq_false, beq_self_eq_true, Int.reduceBEq, Int.reduceBNe, Bool.not_true, Bool.not_false, q7, q8, q9, q17, q3, w1]
    · have hge : i = l.length := by have := of_decide_eq_false e; omega
      subst hge
      rw [List.take_length] at r3
      simp -implicitDefEqProofs only [go_sem, ↓reduceIte, Nat.reduceLT, Nat.reduceEqDiff, Nat.reduceAdd, Nat.reduceLeDiff, Nat.reduceMul, Nat.reduceSub, Int.natCast_zero, Int.ofNat_zero, Int.natCast_one, Int.cast_ofNat_Int, bne_self_eq_false, beq_self_eq_true, Int.reduceBEq, Int.reduceBNe, Bool.not_true, Bool.not_false, r7, r8, r9, r3]
      exact .same (.refl _) ⟨rfl, rfl⟩

/-- A number as four bytes. -/
def fourL (n : Nat) : List UInt8 := [UInt8.ofNat n, UInt8.ofNat (n / 256), UInt8.ofNat (n / 65536), UInt8.ofNat (n / 16777216)]
def numL (l : List UInt8) : Nat := (l.getD 0 0).toNat + (l.getD 1 0).toNat * 256 + (l.getD 2 0).toNat * 65536 + (l.getD 3 0).toNat * 16777216

theorem four_ok (n : Nat) (hn : n < 4294967296) (h : Heap) : FnOK Try.prog 48 [.v (.int .u32 (n : Int))] h fun r h' => r = .sl ((fourL n).map byteA) .no ∧ h' = h := by
  refine FnOK.body hU hm Try.func48 rfl (by kernel_rfl) 15 rfl [.tmp 2] rfl (Nat.le_of_ble_eq_true rfl) (fun hwf => ?_)
  have s8 := fun K => bshrN (U := U) (ty := 78) (K := K) n 8 .u64 (by decide)
  have s16 := fun K => bshrN (U := U) (ty := 78) (K := K) n 16 .u64 (by decide)
  have s24 := fun K => bshrN (U := U) (ty := 78) (K := K) n 24 .u64 (by decide)
  simp only [Int.cast_ofNat_Int] at s8 s16 s24
  simp -implicitDefEqProofs only [go_sem, ↓reduceIte, Nat.reduceLT, Nat.reduceEqDiff, Nat.reduceAdd, Nat.reduceLeDiff, Nat.reduceMul, Nat.reduceSub, Int.natCast_zero, Int.ofNat_zero, Int.natCast_one, Int.cast_ofNat_Int, bne_self_eq_false, beq_self_eq_true, Int.reduceBEq, Int.reduceBNe, Bool.not_true, Bool.not_false, ↓s8, ↓s16, ↓s24, w8]
  exact .mk _ (.sl _ _) (.refl _) ⟨rfl, rfl⟩

theorem number_ok (y : AV) (l : List UInt8) (h : Heap) (hb : By h y l) (hl : 4 ≤ l.length) : FnOK Try.prog 54 [y] h fun r h' => r = .v (.int .u32 (numL l : Nat)) ∧ h' = h := by
  refine FnOK.body hU hm Try.func54 rfl (by kernel_rfl) 25 rfl [.tmp 2] rfl (Nat.le_of_ble_eq_true rfl) (fun hwf => ?_)
  have lt : ∀ c : UInt8, c.toNat < 256 := fun c => c.toNat_lt
  have hnum : numL l = l[0].toNat + l[1].toNat * 2 ^ 8 + l[2].toNat * 2 ^ 16 + l[3].toNat * 2 ^ 24 := by
    unfold numL
    simp [List.getD_eq_getElem?_getD, show 0 < l.length by omega, show 1 < l.length by omega, show 2 < l.length by omega, show 3 < l.length by omega]
  generalize hc0 : l[0] = c0 at hnum
  generalize hc1 : l[1] = c1 at hnum
  generalize hc2 : l[2] = c2 at hnum
  generalize hc3 : l[3] = c3 at hnum
  have v := fun c : UInt8 => w32 c.toNat (by have := lt c; omega)
  have s1 := fun K => bshl32 (U := U) (ty := 78) (K := K) c1.toNat 8 .u64 (by decide) (lt _)
  have s2 := fun K => bshl32 (U := U) (ty := 78) (K := K) c2.toNat 16 .u64 (by decide) (lt _)
  have s3 := fun K => bshl32 (U := U) (ty := 78) (K := K) c3.toNat 24 .u64 (by decide) (lt _)
  have o1 := fun K => bor32 (U := U) (ty := 78) (K := K) c0.toNat c1.toNat 8 (by have := lt c0; omega) (by decide) (lt _)
  have o2 := fun K => bor32 (U := U) (ty := 78) (K := K) (c0.toNat + c1.toNat * 2 ^ 8) c2.toNat 16 (by have := lt c0; have := lt c1; omega) (by decide) (lt _)
  have o3 := fun K => bor32 (U := U) (ty := 78) (K := K) (c0.toNat + c1.toNat * 2 ^ 8 + c2.toNat * 2 ^ 16) c3.toNat 24 (by have := lt c0; have := lt c1; have := lt c2; omega) (by decide) (lt _)
  simp only [Int.cast_ofNat_Int] at s1 s2 s3
  simp -implicitDefEqProofs only [go_sem, ↓reduceIte, Nat.reduceLT, Nat.reduceEqDiff, Nat.reduceAdd, Nat.reduceLeDiff, Nat.reduceMul, Nat.reduceSub, Int.natCast_zero, Int.ofNat_zero, Int.natCast_one, Int.cast_ofNat_Int, bne_self_eq_false, beq_self_eq_true, Int.reduceBEq, Int.reduceBNe, Bool.not_true, Bool.not_false]
  refine ⟨.of (by kernel_rfl), ?_⟩
  refine hb.idx 0 rfl (by omega) u5 u5a fun p0 hp0 => ?_
  rw [hc0] at hp0
  simp -implicitDefEqProofs only [go_sem, ↓reduceIte, Nat.reduceLT, Nat.reduceEqDiff, Nat.reduceAdd, Nat.reduceLeDiff, Nat.reduceMul, Nat.reduceSub, Int.natCast_zero, Int.ofNat_zero, Int.natCast_one, Int.cast_ofNat_Int, bne_self_eq_false, beq_self_eq_true, Int.reduceBEq, Int.reduceBNe, Bool.not_true, Bool.not_false, hp0 _, v]
  refine hb.idx 1 rfl (by omega) u5 u5a fun p1 hp1 => ?_
  rw [hc1] at hp1
  simp -implicitDefEqProofs only [go_sem, ↓reduceIte, Nat.reduceLT, Nat.reduceEqDiff, Nat.reduceAdd, Nat.reduceLeDiff, Nat.reduceMul, Nat.reduceSub, Int.natCast_zero, Int.ofNat_zero, Int.natCast_one, Int.cast_ofNat_Int, bne_self_eq_false, beq_self_eq_true, Int.reduceBEq, Int.reduceBNe, Bool.not_true, Bool.not_false, hp1 _, v, ↓s1, ↓o1]
  refine hb.idx 2 rfl (by omega) u5 u5a fun p2 hp2 => ?_
  rw [hc2] at hp2
  simp -implicitDefEqProofs only [go_sem, ↓reduceIte, Nat.reduceLT, Nat.reduceEqDiff, Nat.reduceAdd, Nat.reduceLeDiff, Nat.reduceMul, Nat.reduceSub, Int.natCast_zero, Int.ofNat_zero, Int.natCast_one, Int.cast_ofNat_Int, bne_self_eq_false, beq_self_eq_true, Int.reduceBEq, Int.reduceBNe, Bool.not_true, Bool.not_false, hp2 _, v, ↓s2, ↓o2]
  refine hb.idx 3 rfl (by omega) u5 u5a fun p3 hp3 => ?_
  rw [hc3] at hp3
  simp -implicitDefEqProofs only [go_sem, ↓reduceIte, Nat.reduceLT, Nat.reduceEqDiff, Nat.reduceAdd, Nat.reduceLeDiff, Nat.reduceMul, Nat.reduceSub, Int.natCast_zero, Int.ofNat_zero, Int.natCast_one, Int.cast_ofNat_Int, bne_self_eq_false, beq_self_eq_true, Int.reduceBEq, Int.reduceBNe, Bool.not_true, Bool.not_false, hp3 _, v, ↓s3, ↓o3]
  refine .same (.refl _) ⟨?_, rfl⟩
  rw [hnum]; rfl
end Go.Proofs.Ytidpcjblciompaa
