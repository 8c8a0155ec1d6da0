/- Numbers of 64 bits put together out of bytes. -/
import Derived.Test.YtidpcjblciompaaAb30
set_option linter.unusedSimpArgs false
set_option linter.unusedVariables false
namespace Go.Ab
open Go

section
variable {U : TypeId → TI} {ty : TypeId} {K : AV → Prop}
theorem or64 (a b k : Nat) (ha : a < 2 ^ k) (hk : k ≤ 24) (hb : b < 256) : IntKind.i64.wrap (((BitVec.ofInt IntKind.i64.bits (a : Int) ||| BitVec.ofInt IntKind.i64.bits ((b * 2 ^ k : Nat) : Int)).toNat : Nat) : Int) = ((a + b * 2 ^ k : Nat) : Int) := by
  have h24 : 2 ^ k ≤ 2 ^ 24 := Nat.pow_le_pow_right (by decide) hk
  have hlt : b * 2 ^ k + a < 4294967296 := by
    have : (b + 1) * 2 ^ k ≤ 256 * 2 ^ 24 := Nat.mul_le_mul (by omega) h24
    rw [Nat.add_mul] at this
    have e : 256 * 2 ^ 24 = 4294967296 := by decide
    omega
  have e1 : (BitVec.ofNat 64 a ||| BitVec.ofNat 64 (b * 2 ^ k)).toNat = a + b * 2 ^ k := by
    rw [BitVec.toNat_or, BitVec.toNat_ofNat, BitVec.toNat_ofNat, Nat.mod_eq_of_lt (by omega), Nat.mod_eq_of_lt (by omega), Nat.or_comm, ← Nat.shiftLeft_eq, ← Nat.shiftLeft_add_eq_or_of_lt ha, Nat.add_comm, Nat.shiftLeft_eq]
  show IntKind.i64.wrap (((BitVec.ofInt 64 (a : Int) ||| BitVec.ofInt 64 ((b * 2 ^ k : Nat) : Int)).toNat : Nat) : Int) = _
  rw [ofInt_nat, ofInt_nat, e1]
  exact wrap64 _ (by omega)
theorem shl64 (b k : Nat) (hk : k ≤ 24) (hb : b < 256) : IntKind.i64.wrap ((b : Int) * 2 ^ (min (k : Int).toNat IntKind.i64.bits)) = ((b * 2 ^ k : Nat) : Int) := by
  have h24 : 2 ^ k ≤ 2 ^ 24 := Nat.pow_le_pow_right (by decide) hk
  have hbk : b * 2 ^ k ≤ 255 * 2 ^ 24 := Nat.mul_le_mul (by omega) h24
  have : min (k : Int).toNat IntKind.i64.bits = k := by simp [IntKind.bits]; omega
  rw [this, show ((b : Int) * 2 ^ k) = ((b * 2 ^ k : Nat) : Int) by simp]
  exact wrap64 _ (by have e : 255 * 2 ^ 24 = 4278190080 := by decide
                     omega)
theorem bor64 (a b k : Nat) (ha : a < 2 ^ k) (hk : k ≤ 24) (hb : b < 256) : binA U .or ty (.v (.int .i64 (a : Int))) (.v (.int .i64 ((b * 2 ^ k : Nat) : Int))) K = K (.v (.int .i64 ((a + b * 2 ^ k : Nat) : Int))) := by rw [b_or, or64 a b k ha hk hb]
theorem bshl64 (b k : Nat) (kk : IntKind) (hk : k ≤ 24) (hb : b < 256) : binA U .shl ty (.v (.int .i64 (b : Int))) (.v (.int kk (k : Int))) K = K (.v (.int .i64 ((b * 2 ^ k : Nat) : Int))) := by rw [b_shl, shl64 b k hk hb]; simp
end
end Go.Ab
