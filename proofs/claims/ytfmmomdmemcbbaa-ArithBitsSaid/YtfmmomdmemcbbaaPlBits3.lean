/- Plain: and, or, xor of numbers of 31 bits are of 31 bits. -/
import Derived.Test.YtfmmomdmemcbbaaM4
import Derived.Laws.Entries
namespace Go.Proofs.Ytfmmomdmemcbbaa
set_option linter.unusedVariables false

theorem Pl.bv31 (x : Int) (h : -1073741824 ≤ x ∧ x ≤ 1073741823) : BitVec.ofInt 64 x = (BitVec.ofInt 31 x).signExtend 64 := by
  apply BitVec.eq_of_toInt_eq
  rw [BitVec.toInt_signExtend_of_le (by decide), BitVec.toInt_ofInt, BitVec.toInt_ofInt, Int.bmod_def, Int.bmod_def]
  simp only [Nat.reducePow]
  omega
theorem Pl.wrap_toInt (v : BitVec 64) : IntKind.i64.wrap (v.toNat : Int) = v.toInt := by
  have := v.isLt
  rw [IntKind.wrap_i64, BitVec.toInt_eq_toNat_bmod, Int.bmod_def]
  simp only [Nat.reducePow]
  omega
theorem Pl.sx31 (v : BitVec 31) : -1073741824 ≤ (v.signExtend 64).toInt ∧ (v.signExtend 64).toInt ≤ 1073741823 := by
  rw [BitVec.toInt_signExtend_of_le (by decide), BitVec.toInt_eq_toNat_bmod, Int.bmod_def]
  have := v.isLt
  simp only [Nat.reducePow]
  omega
theorem Pl.and_in31 (x y : Int) (hx : -1073741824 ≤ x ∧ x ≤ 1073741823) (hy : -1073741824 ≤ y ∧ y ≤ 1073741823) : -1073741824 ≤ bits .and .i64 x y ∧ bits .and .i64 x y ≤ 1073741823 := by
  show -1073741824 ≤ IntKind.i64.wrap ((BitVec.ofInt 64 x &&& BitVec.ofInt 64 y).toNat : Int) ∧ IntKind.i64.wrap ((BitVec.ofInt 64 x &&& BitVec.ofInt 64 y).toNat : Int) ≤ 1073741823
  rw [Pl.wrap_toInt, Pl.bv31 x hx, Pl.bv31 y hy, ← BitVec.signExtend_and]
  exact Pl.sx31 _
theorem Pl.or_in31 (x y : Int) (hx : -1073741824 ≤ x ∧ x ≤ 1073741823) (hy : -1073741824 ≤ y ∧ y ≤ 1073741823) : -1073741824 ≤ bits .or .i64 x y ∧ bits .or .i64 x y ≤ 1073741823 := by
  show -1073741824 ≤ IntKind.i64.wrap ((BitVec.ofInt 64 x ||| BitVec.ofInt 64 y).toNat : Int) ∧ IntKind.i64.wrap ((BitVec.ofInt 64 x ||| BitVec.ofInt 64 y).toNat : Int) ≤ 1073741823
  rw [Pl.wrap_toInt, Pl.bv31 x hx, Pl.bv31 y hy, ← BitVec.signExtend_or]
  exact Pl.sx31 _
theorem Pl.xor_in31 (x y : Int) (hx : -1073741824 ≤ x ∧ x ≤ 1073741823) (hy : -1073741824 ≤ y ∧ y ≤ 1073741823) : -1073741824 ≤ bits .xor .i64 x y ∧ bits .xor .i64 x y ≤ 1073741823 := by
  show -1073741824 ≤ IntKind.i64.wrap ((BitVec.ofInt 64 x ^^^ BitVec.ofInt 64 y).toNat : Int) ∧ IntKind.i64.wrap ((BitVec.ofInt 64 x ^^^ BitVec.ofInt 64 y).toNat : Int) ≤ 1073741823
  rw [Pl.wrap_toInt, Pl.bv31 x hx, Pl.bv31 y hy, ← BitVec.signExtend_xor]
  exact Pl.sx31 _
end Go.Proofs.Ytfmmomdmemcbbaa
