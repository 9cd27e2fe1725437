/- Plain facts on the bit operations of the model: masks, joins, complements. -/
import Derived.WalkKit
namespace Go.Proofs.Ytnienpalbfgflaa.Pl
set_option linter.unusedVariables false
open Go

theorem toNat_ofInt64 (x : Int) : ((BitVec.ofInt 64 x).toNat : Int) = x % 18446744073709551616 := by
  rw [BitVec.toNat_ofInt]; omega

/-- 'x & (2^k - 1)' -/
theorem and_mask_u64 (k : Nat) (hk : k ≤ 63) (x : Int) : bits .and .u64 x (2 ^ k - 1) = x % 2 ^ k := by
  have hp : (2 : Int) ^ k ≤ 2 ^ 63 := by
    have := Nat.pow_le_pow_right (n := 2) (by decide) hk
    exact_mod_cast this
  have hp0 : (0 : Int) < 2 ^ k := Int.pow_pos (by decide)
  have hn : ((2 : Nat) ^ k : Nat) = ((2 : Int) ^ k).toNat := by
    have : ((2 ^ k : Nat) : Int) = (2 : Int) ^ k := by simp
    omega
  have h1 : (BitVec.ofInt 64 ((2 : Int) ^ k - 1)).toNat = 2 ^ k - 1 := by
    have := toNat_ofInt64 ((2 : Int) ^ k - 1)
    have e2 : ((2 : Int) ^ k - 1) % 18446744073709551616 = 2 ^ k - 1 := Int.emod_eq_of_lt (by omega) (by omega)
    rw [e2] at this
    have : ((2 ^ k : Nat) : Int) = (2 : Int) ^ k := by simp
    have hpos : 0 < (2:Nat) ^ k := Nat.pow_pos (by decide)
    omega
  show IntKind.u64.wrap ((BitVec.ofInt 64 x &&& BitVec.ofInt 64 ((2 : Int) ^ k - 1)).toNat : Int) = _
  rw [BitVec.toNat_and, h1, Nat.and_two_pow_sub_one_eq_mod, IntKind.wrap_u64]
  have h2 := toNat_ofInt64 x
  have h3 : (((BitVec.ofInt 64 x).toNat % 2 ^ k : Nat) : Int) = x % 2 ^ k := by
    rw [Int.natCast_emod, h2]
    have : ((2 ^ k : Nat) : Int) = (2 : Int) ^ k := by simp
    rw [this]
    exact Int.emod_emod_of_dvd x (by
      have : (18446744073709551616 : Int) = 2 ^ k * 2 ^ (64 - k) := by
        rw [← Int.pow_add, show k + (64 - k) = 64 by omega]; decide
      rw [this]; exact Int.dvd_mul_right _ _)
  rw [h3]
  have := Int.emod_nonneg x (show (2 : Int) ^ k ≠ 0 by omega)
  have := Int.emod_lt_of_pos x hp0
  omega
theorem and_32_u64 (x : Int) : bits .and .u64 x 4294967295 = x % 4294967296 := and_mask_u64 32 (by decide) x
theorem and_1_u64 (x : Int) : bits .and .u64 x 1 = x % 2 := and_mask_u64 1 (by decide) x

/-- '^x' of 64 bits without a sign -/
theorem xor_max_u64 (x : Int) : bits .xor .u64 IntKind.u64.max x = 18446744073709551615 - x % 18446744073709551616 := by
  have h1 := toNat_ofInt64 x
  show IntKind.u64.wrap ((BitVec.ofInt 64 IntKind.u64.max ^^^ BitVec.ofInt 64 x).toNat : Int) = _
  have e : BitVec.ofInt 64 IntKind.u64.max = BitVec.allOnes 64 := by decide
  rw [e, BitVec.allOnes_xor, BitVec.toNat_not, IntKind.wrap_u64]
  have := (BitVec.ofInt 64 x).isLt
  omega
theorem u64_signed : IntKind.u64.signed = false := rfl

/-- '(x << k) | y', y below 2^k -/
theorem or_shifted_u64 (k : Nat) (x y : Int) (hy0 : 0 ≤ y) (hy : y < 2 ^ k) (hx0 : 0 ≤ x) (hx : x * 2 ^ k + y < 18446744073709551616) :
    bits .or .u64 (x * 2 ^ k) y = x * 2 ^ k + y := by
  have hp0 : (0 : Int) < 2 ^ k := Int.pow_pos (by decide)
  have hxp : 0 ≤ x * 2 ^ k := Int.mul_nonneg hx0 (by omega)
  obtain ⟨X, rfl⟩ := Int.eq_ofNat_of_zero_le hx0
  obtain ⟨Y, rfl⟩ := Int.eq_ofNat_of_zero_le hy0
  have e : ((X : Int) * 2 ^ k) = ((X * 2 ^ k : Nat) : Int) := by simp
  have hY : Y < 2 ^ k := by
    have : ((2 ^ k : Nat) : Int) = (2 : Int) ^ k := by simp
    omega
  rw [e] at hx hxp ⊢
  rw [bits_or_u64_nat _ _ (by omega) (by omega), Nat.mul_comm, ← Nat.two_pow_add_eq_or_of_lt hY]
  simp
attribute [go_sem] and_32_u64 and_1_u64 xor_max_u64 u64_signed
end Go.Proofs.Ytnienpalbfgflaa.Pl
