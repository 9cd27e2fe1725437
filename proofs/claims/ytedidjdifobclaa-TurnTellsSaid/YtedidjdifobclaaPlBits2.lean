/- Plain facts on the bit operations of the model: one bit of a number. -/
import Derived.Test.YtedidjdifobclaaPlBits
namespace Go.Proofs.Ytedidjdifobclaa.Pl
set_option linter.unusedVariables false
open Go

/-- the bit 65536 of a number -/
theorem and_65536_i64 (x : Int) : bits .and .i64 x 65536 = x / 65536 % 2 * 65536 := by
  have h1 := toNat_ofInt64 x
  show IntKind.i64.wrap ((BitVec.ofInt 64 x &&& BitVec.ofInt 64 65536).toNat : Int) = _
  have e : (BitVec.ofInt 64 65536).toNat = 2 ^ 16 := by decide
  rw [BitVec.toNat_and, e]
  have h2 := nat_bit 16 (BitVec.ofInt 64 x).toNat
  rw [h2, IntKind.wrap_i64]
  have h3 : (2 : Nat) ^ 16 = 65536 := by decide
  rw [h3]
  generalize (BitVec.ofInt 64 x).toNat = N at *
  have : ((N / 65536 % 2 * 65536 : Nat) : Int) = (N : Int) / 65536 % 2 * 65536 := by omega
  rw [this, h1]
  omega

attribute [go_sem] and_65536_i64
end Go.Proofs.Ytedidjdifobclaa.Pl
