/- Bytes cut at the front; numbers of 32 bits. -/
import Derived.Test.YtidpcjblciompaaAb26
set_option linter.unusedSimpArgs false
set_option linter.unusedVariables false
namespace Go.Ab
open Go

section
variable {P : Program} {U : TypeId → TI} {n : Nat} {ρ : Env} {h h' : Heap} {tb : TypeId} {y : AV} {l : List UInt8}

theorem Bytes.from (hb : Bytes tb h y l) {lo : Operand} {m : Int} {x : IntKind} {K : AV → Prop} (j : Nat) (hm : ev ρ lo = some (.v (.int x m))) (hj : m = j) (hl : j ≤ l.length) (hz : (U tb).sz = 1) (hk : ∀ z, Bytes tb h z (l.drop j) → K z) :
    sliceK U ρ y (some lo) none none K (.slice tb) := by
  subst hj
  rcases hb with ⟨q, rfl⟩ | ⟨id, off, cs, rfl, h1, h2, h3⟩
  · rw [sliceK_from, hm]
    refine ⟨by rw [hz]; decide, by rw [hz, Sized_bytes]; trivial, ?_⟩
    simp only [bindO_some, intA_eq, Int.toNat_natCast, KV_eq]
    refine ⟨by omega, by simpa using hl, ?_⟩
    rw [← List.map_drop]
    exact hk _ (.sl _ _)
  · rw [sliceK_oa]
    refine ⟨by rw [hz]; decide, fun _ => hz, ?_⟩
    simp only [optA_none, optA_some, hm, bindO_some, intA_eq]
    refine ⟨by omega, by omega, by omega, ?_⟩
    simp only [Int.toNat_natCast, hz, Nat.mul_one]
    have e : (l.drop j).length = l.length - j := by simp
    have := hk (.oa id (off + j) (l.drop j).length) (.oa h1 (by omega) (by
      rw [e, List.map_drop, ← h3, ← List.drop_drop, List.drop_take]))
    rwa [e] at this

theorem Bytes.cut (hb : Bytes tb h y l) {lo hi : Operand} {m m2 : Int} {x x2 : IntKind} {K : AV → Prop} (j k : Nat) (hm : ev ρ lo = some (.v (.int x m))) (hj : m = j) (hm2 : ev ρ hi = some (.v (.int x2 m2))) (hk2 : m2 = k) (hjk : j ≤ k) (hl : k ≤ l.length) (hz : (U tb).sz = 1)
    (hk : ∀ z, Bytes tb h z ((l.drop j).take (k - j)) → K z) : sliceK U ρ y (some lo) (some hi) none K (.slice tb) := by
  subst hj; subst hk2
  rcases hb with ⟨q, rfl⟩ | ⟨id, off, cs, rfl, h1, h2, h3⟩
  · rw [sliceK_ft, hm]
    refine ⟨by rw [hz]; decide, by rw [hz, Sized_bytes]; trivial, ?_⟩
    simp only [bindO_some, intA_eq, hm2, Int.toNat_natCast, KV_eq]
    refine ⟨by omega, by omega, by simpa using hl, ?_⟩
    rw [← List.map_drop, ← List.map_take]
    exact hk _ (.sl _ _)
  · rw [sliceK_oa]
    refine ⟨by rw [hz]; decide, fun _ => hz, ?_⟩
    simp only [optA_some, hm, bindO_some, intA_eq, hm2]
    refine ⟨by omega, by omega, by omega, ?_⟩
    simp only [Int.toNat_natCast, hz, Nat.mul_one]
    have e : ((l.drop j).take (k - j)).length = k - j := by simp; omega
    have := hk (.oa id (off + j) ((l.drop j).take (k - j)).length) (.oa h1 (by omega) (by
      rw [e, List.map_take, List.map_drop, ← h3, ← List.drop_drop, List.drop_take, List.take_take]
      congr 1; omega))
    rwa [e] at this
end

/-! ### Numbers of 32 bits -/
theorem wrapU (k : IntKind) (n : Nat) (hk : k.signed = false) (hn : n < 2 ^ k.bits) : k.wrap (n : Int) = n := by
  cases k <;> simp [IntKind.signed] at hk <;> simp [IntKind.wrap, IntKind.signed, IntKind.bits] at hn ⊢ <;> omega
theorem w32 (n : Nat) (hn : n < 4294967296) : IntKind.u32.wrap (n : Int) = n := wrapU .u32 n rfl (by simpa [IntKind.bits] using hn)
theorem w8 (n : Nat) : IntKind.u8.wrap (n : Int) = (UInt8.ofNat n).toNat := by
  rw [UInt8.toNat_ofNat']
  simp [IntKind.wrap, IntKind.signed, IntKind.bits]
theorem ofInt_nat (w n : Nat) : BitVec.ofInt w (n : Int) = BitVec.ofNat w n := BitVec.ofInt_natCast ..
theorem xor32 (x y : BitVec 32) : IntKind.u32.wrap (((BitVec.ofInt IntKind.u32.bits (x.toNat : Int) ^^^ BitVec.ofInt IntKind.u32.bits (y.toNat : Int)).toNat : Nat) : Int) = ((x ^^^ y).toNat : Int) := by
  have e : ∀ z : BitVec 32, BitVec.ofInt IntKind.u32.bits (z.toNat : Int) = z := fun z => by
    show BitVec.ofInt 32 (z.toNat : Int) = z
    rw [ofInt_nat]; simp
  rw [e, e]
  exact w32 _ (x ^^^ y).isLt
theorem xor32T (x : BitVec 32) : IntKind.u32.wrap (((BitVec.ofInt IntKind.u32.bits (x.toNat : Int) ^^^ BitVec.ofInt IntKind.u32.bits (3988292384 : Int)).toNat : Nat) : Int) = ((x ^^^ 0xedb88320#32).toNat : Int) := xor32 x 0xedb88320#32
theorem not32 (x : BitVec 32) : IntKind.u32.wrap (((BitVec.ofInt IntKind.u32.bits (if IntKind.u32.signed = true then -1 else IntKind.u32.max) ^^^ BitVec.ofInt IntKind.u32.bits (x.toNat : Int)).toNat : Nat) : Int) = ((~~~ x).toNat : Int) := by
  have := xor32 (BitVec.allOnes 32) x
  have e : (BitVec.allOnes 32 ^^^ x) = ~~~ x := by
    apply BitVec.eq_of_getLsbD_eq
    intro i hi
    rw [BitVec.getLsbD_xor, BitVec.getLsbD_allOnes, BitVec.getLsbD_not]
    simp [hi]
  rw [e] at this
  exact this
theorem and32 (x : BitVec 32) : IntKind.u32.wrap (((BitVec.ofInt IntKind.u32.bits (x.toNat : Int) &&& BitVec.ofInt IntKind.u32.bits (1 : Int)).toNat : Nat) : Int) = ((x &&& 1#32).toNat : Int) := by
  have e : BitVec.ofInt IntKind.u32.bits (x.toNat : Int) = x := by
    show BitVec.ofInt 32 (x.toNat : Int) = x
    rw [ofInt_nat]; simp
  rw [e]
  exact w32 _ (x &&& 1#32).isLt
theorem shr32 (x : BitVec 32) : (x.toNat : Int).fdiv (2 ^ (min (1 : Int).toNat IntKind.u32.bits)) = ((x >>> 1).toNat : Int) := by
  show (x.toNat : Int).fdiv (2 ^ 1) = _
  rw [Int.fdiv_eq_ediv_of_nonneg _ (by decide)]
  simp [Nat.shiftRight_eq_div_pow]
theorem shrN (n : Nat) (k : Nat) (hk : k ≤ 24) : (n : Int).fdiv (2 ^ (min (k : Int).toNat IntKind.u32.bits)) = ((n / 2 ^ k : Nat) : Int) := by
  have : min (k : Int).toNat IntKind.u32.bits = k := by simp [IntKind.bits]; omega
  rw [this, Int.fdiv_eq_ediv_of_nonneg _ (by exact Int.le_of_lt (Int.pow_pos (by decide)))]
  simp
theorem or32 (a b k : Nat) (ha : a < 2 ^ k) (hk : k ≤ 24) (hb : b < 256) : IntKind.u32.wrap (((BitVec.ofInt IntKind.u32.bits (a : Int) ||| BitVec.ofInt IntKind.u32.bits ((b * 2 ^ k : Nat) : Int)).toNat : Nat) : Int) = ((a + b * 2 ^ k : Nat) : Int) := by
  have h24 : 2 ^ k ≤ 2 ^ 24 := Nat.pow_le_pow_right (by decide) hk
  have hbk : b * 2 ^ k ≤ 255 * 2 ^ 24 := Nat.mul_le_mul (by omega) h24
  have hlt : b * 2 ^ k + a < 4294967296 := by
    have : (b + 1) * 2 ^ k ≤ 256 * 2 ^ 24 := Nat.mul_le_mul (by omega) h24
    rw [Nat.add_mul] at this
    have e : 256 * 2 ^ 24 = 4294967296 := by decide
    omega
  have e1 : (BitVec.ofNat 32 a ||| BitVec.ofNat 32 (b * 2 ^ k)).toNat = a + b * 2 ^ k := by
    rw [BitVec.toNat_or, BitVec.toNat_ofNat, BitVec.toNat_ofNat, Nat.mod_eq_of_lt (by omega), Nat.mod_eq_of_lt (by omega), Nat.or_comm, ← Nat.shiftLeft_eq, ← Nat.shiftLeft_add_eq_or_of_lt ha, Nat.add_comm, Nat.shiftLeft_eq]
  show IntKind.u32.wrap (((BitVec.ofInt 32 (a : Int) ||| BitVec.ofInt 32 ((b * 2 ^ k : Nat) : Int)).toNat : Nat) : Int) = _
  rw [ofInt_nat, ofInt_nat, e1]
  exact w32 _ (by omega)
theorem shl32 (b k : Nat) (hk : k ≤ 24) (hb : b < 256) : IntKind.u32.wrap ((b : Int) * 2 ^ (min (k : Int).toNat IntKind.u32.bits)) = ((b * 2 ^ k : Nat) : Int) := by
  have h24 : 2 ^ k ≤ 2 ^ 24 := Nat.pow_le_pow_right (by decide) hk
  have hbk : b * 2 ^ k ≤ 255 * 2 ^ 24 := Nat.mul_le_mul (by omega) h24
  have : min (k : Int).toNat IntKind.u32.bits = k := by simp [IntKind.bits]; omega
  rw [this, show ((b : Int) * 2 ^ k) = ((b * 2 ^ k : Nat) : Int) by simp]
  exact w32 _ (by have e : 255 * 2 ^ 24 = 4278190080 := by decide
                  omega)

section
variable {U : TypeId → TI} {ty : TypeId} {K : AV → Prop}
@[go_sem high] theorem bx32 (x y : BitVec 32) : binA U .xor ty (.v (.int .u32 (x.toNat : Int))) (.v (.int .u32 (y.toNat : Int))) K = K (.v (.int .u32 ((x ^^^ y).toNat : Int))) := by rw [b_xor, xor32]
@[go_sem high] theorem bx32T (x : BitVec 32) : binA U .xor ty (.v (.int .u32 (x.toNat : Int))) (.v (.int .u32 3988292384)) K = K (.v (.int .u32 ((x ^^^ 0xedb88320#32).toNat : Int))) := by rw [b_xor, xor32T]
@[go_sem high] theorem band32 (x : BitVec 32) : binA U .and ty (.v (.int .u32 (x.toNat : Int))) (.v (.int .u32 1)) K = K (.v (.int .u32 ((x &&& 1#32).toNat : Int))) := by rw [b_and, and32]
@[go_sem high] theorem bshr32 (x : BitVec 32) (kk : IntKind) : binA U .shr ty (.v (.int .u32 (x.toNat : Int))) (.v (.int kk 1)) K = K (.v (.int .u32 ((x >>> 1).toNat : Int))) := by rw [b_shr, shr32]; simp
@[go_sem high] theorem unot32 (x : BitVec 32) : unA .xor (.v (.int .u32 (x.toNat : Int))) K = K (.v (.int .u32 ((~~~ x).toNat : Int))) := by rw [unA_xor, not32]
theorem bshrN (n k : Nat) (kk : IntKind) (hk : k ≤ 24) : binA U .shr ty (.v (.int .u32 (n : Int))) (.v (.int kk (k : Int))) K = K (.v (.int .u32 ((n / 2 ^ k : Nat) : Int))) := by rw [b_shr, shrN n k hk]; simp
theorem bor32 (a b k : Nat) (ha : a < 2 ^ k) (hk : k ≤ 24) (hb : b < 256) : binA U .or ty (.v (.int .u32 (a : Int))) (.v (.int .u32 ((b * 2 ^ k : Nat) : Int))) K = K (.v (.int .u32 ((a + b * 2 ^ k : Nat) : Int))) := by rw [b_or, or32 a b k ha hk hb]
theorem bshl32 (b k : Nat) (kk : IntKind) (hk : k ≤ 24) (hb : b < 256) : binA U .shl ty (.v (.int .u32 (b : Int))) (.v (.int kk (k : Int))) K = K (.v (.int .u32 ((b * 2 ^ k : Nat) : Int))) := by rw [b_shl, shl32 b k hk hb]; simp
end
end Go.Ab
