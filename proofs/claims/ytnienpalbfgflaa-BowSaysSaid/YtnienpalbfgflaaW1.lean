/- The walks of package wide: what each of its functions returns. -/
import Derived.Test.YtnienpalbfgflaaRows
import Derived.Test.YtnienpalbfgflaaPlWide
import Derived.Test.YtnienpalbfgflaaPlBits
import Derived.Test.YtnienpalbfgflaaKit
import Derived.Lib.Hide
namespace Go.Proofs.Ytnienpalbfgflaa
set_option linter.unusedVariables false
open Go.RowKit

theorem size_any (v : Int) (hv : -9223372036854775808 ≤ v ∧ v ≤ 9223372036854775807) (w : World) :
    Calls Try.prog 63 #[.int .i64 v] w fun e w' => e = .returned (.int .u64 (Pl.mag v)) ∧ w = w' := by
  by_cases h : v < 0
  · go_enter Try.func63, Try.ntmps63
    go_wp2
    go_ret
    exact ⟨ret_int (by unfold Pl.mag; rw [if_pos h]; omega), rfl⟩
  · go_enter Try.func63, Try.ntmps63
    go_wp2
    go_ret
    exact ⟨ret_int (by unfold Pl.mag; rw [if_neg (by omega)]), rfl⟩

theorem product_any (a b : Int) (ha : 0 ≤ a ∧ a ≤ 18446744073709551615) (hb : 0 ≤ b ∧ b ≤ 18446744073709551615) (w : World) :
    Calls Try.prog 62 #[.int .u64 a, .int .u64 b] w fun e w' => e = .returned (.tuple #[.int .u64 (a * b / 18446744073709551616), .int .u64 (a * b % 18446744073709551616)]) ∧ Grown w w' := by
  have hm := Pl.and_32_u64
  have p0 := Pl.mul_lt32 (a % 4294967296) (b % 4294967296) (by omega) (by omega) (by omega) (by omega)
  have p1 := Pl.mul_lt32 (a / 4294967296) (b % 4294967296) (by omega) (by omega) (by omega) (by omega)
  have p2 := Pl.mul_lt32 (a % 4294967296) (b / 4294967296) (by omega) (by omega) (by omega) (by omega)
  have p3 := Pl.mul_lt32 (a / 4294967296) (b / 4294967296) (by omega) (by omega) (by omega) (by omega)
  go_enter Try.func62, Try.ntmps62
  go_wp2
  go_quiet (fail)
  go_wp2
  go_ret2
  clear hm
  refine ⟨ret2_int ?_ ?_, grown_drewN ((Grown.refl w).alloc _ _) _⟩
  · exact (Pl.prod_parts a b _ rfl).1
  · rw [← (Pl.prod_parts a b _ rfl).2]
    rw [IntKind.wrap_u64]
    generalize a % 4294967296 * (b % 4294967296) = q0
    generalize (q0 / 4294967296 + a / 4294967296 * (b % 4294967296) % 4294967296 + a % 4294967296 * (b / 4294967296) % 4294967296) = m
    have e : m * 4294967296 % 18446744073709551616 = (m % 4294967296) * 2 ^ 32 := by omega
    rw [e]
    exact Pl.or_shifted_u64 32 _ _ (by omega) (by omega) (by omega) (by omega)

theorem mul_any (a b : Int) (ha : -9223372036854775808 ≤ a ∧ a ≤ 9223372036854775807) (hb : -9223372036854775808 ≤ b ∧ b ≤ 9223372036854775807) (w : World) :
    Calls Try.prog 60 #[.int .i64 a, .int .i64 b] w fun e w' => e = .returned (.tuple #[.int .i64 (a * b / 18446744073709551616), .int .u64 (a * b % 18446744073709551616)]) ∧ Grown w w' := by
  have ma := Pl.mag_nn a
  have mb := Pl.mag_nn b
  have ma' := Pl.mag_le a ha.1 ha.2
  have mb' := Pl.mag_le b hb.1 hb.2
  have hP := Pl.mul_le126 _ _ ma ma' mb mb'
  have key : a * b = if decide (a < 0) = decide (b < 0) then Pl.mag a * Pl.mag b else -(Pl.mag a * Pl.mag b) := by
    by_cases sa : a < 0 <;> by_cases sb : b < 0 <;> simp only [sa, sb, decide_true, decide_false, if_true, reduceCtorEq, if_false] <;>
      first
      | rw [Pl.mag_neg sa, Pl.mag_neg sb, Int.neg_mul_neg]
      | rw [Pl.mag_neg sa, Pl.mag_pos (by omega), Int.neg_mul, Int.neg_neg]
      | rw [Pl.mag_pos (by omega), Pl.mag_neg sb, Int.mul_neg, Int.neg_neg]
      | rw [Pl.mag_pos (by omega), Pl.mag_pos (by omega)]
  have KEY := Lib.hid key; clear key
  cases hz : (IntKind.u64.wrap (-(Pl.mag a * Pl.mag b % 18446744073709551616)) == 0) <;> cases sa : decide (a < 0) <;> cases sb : decide (b < 0)
  all_goals
    go_enter Try.func60, Try.ntmps60
    go_wp2_with fail
    refine (size_any a ha _).mono ?_
    rintro e w1 ⟨rfl, rfl⟩
    go_wp2_with fail
    refine (size_any b hb _).mono ?_
    rintro e w1 ⟨rfl, rfl⟩
    go_wp2_with fail
    refine (product_any _ _ (by omega) (by omega) _).mono ?_
    rintro e w1 ⟨rfl, g1⟩
    go_wp2
    go_ret2
    refine ⟨ret2_int ?_ ?_, g1⟩ <;> rw [KEY.out, sa, sb] <;> rw [IntKind.wrap_u64] at hz <;> simp only [beq_iff_eq, beq_eq_false_iff_ne] at hz <;> generalize Pl.mag a * Pl.mag b = P at * <;> simp only [if_true, reduceCtorEq, if_false, IntKind.wrap_u64, wrap64] <;> omega

theorem cmp_any (a b c d : Int) (ha : -9223372036854775808 ≤ a ∧ a ≤ 9223372036854775807) (hb : -9223372036854775808 ≤ b ∧ b ≤ 9223372036854775807)
    (hc : -9223372036854775808 ≤ c ∧ c ≤ 9223372036854775807) (hd : -9223372036854775808 ≤ d ∧ d ≤ 9223372036854775807) (w : World) :
    Calls Try.prog 54 #[.int .i64 a, .int .i64 b, .int .i64 c, .int .i64 d] w fun e w' => e = .returned (.int .i64 (Pl.cmp (a * b) (c * d))) ∧ Grown w w' := by
  go_enter Try.func54, Try.ntmps54
  go_wp2_with fail
  refine (mul_any a b ha hb _).mono ?_
  rintro e w1 ⟨rfl, g1⟩
  go_wp2_with fail
  refine (mul_any c d hc hd _).mono ?_
  rintro e w2 ⟨rfl, g2⟩
  go_wp2
  all_goals
    go_ret
    refine ⟨ret_int ?_, grown_trans g1 g2⟩
    try simp only [beq_iff_eq, beq_eq_false_iff_ne, ne_eq] at *
    unfold Pl.cmp
    repeat' split
    all_goals omega
end Go.Proofs.Ytnienpalbfgflaa
