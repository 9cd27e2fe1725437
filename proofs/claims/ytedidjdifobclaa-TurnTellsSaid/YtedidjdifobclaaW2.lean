/- The walk of wide.parts: a share by its bits. -/
import Derived.Test.YtedidjdifobclaaW1
import Derived.Lib.Hide
namespace Go.Proofs.Ytedidjdifobclaa
set_option linter.unusedVariables false
open Go.RowKit

theorem parts_core (a b d P D : Int) (ha : -9223372036854775808 ≤ a ∧ a ≤ 9223372036854775807) (hb : -9223372036854775808 ≤ b ∧ b ≤ 9223372036854775807)
    (hd : -9223372036854775808 ≤ d ∧ d ≤ 9223372036854775807) (HP : Hid (Pl.mag a * Pl.mag b = P)) (HD : Hid (Pl.mag d = D)) (hlt : P / 18446744073709551616 < D) (w : World) :
    Calls Try.prog 74 #[.int .i64 a, .int .i64 b, .int .i64 d] w fun e w' =>
      e = .returned (.tuple #[.int .u64 (P / D), .int .u64 (P % D), .int .u64 D, .bool true]) ∧ Grown w w' := by
  have ma := Pl.mag_nn a
  have mb := Pl.mag_nn b
  have ma' := Pl.mag_le a ha.1 ha.2
  have mb' := Pl.mag_le b hb.1 hb.2
  have hP := Pl.mul_le126 _ _ ma ma' mb mb'
  rw [HP.out] at hP
  have md := Pl.mag_nn d
  have md' := Pl.mag_le d hd.1 hd.2
  rw [HD.out] at md md'
  go_enter Try.func74, Try.ntmps74
  go_wp2_with fail
  refine (size_any a ha _).mono ?_
  rintro e w1 ⟨rfl, rfl⟩
  go_wp2_with fail
  refine (size_any b hb _).mono ?_
  rintro e w1 ⟨rfl, rfl⟩
  go_wp2_with fail
  refine (product_any _ _ (by omega) (by omega) _).mono ?_
  rintro e w1 ⟨rfl, g1⟩
  rw [HP.out]
  go_wp2_with fail
  refine (size_any d hd _).mono ?_
  rintro e w2 ⟨rfl, rfl⟩
  rw [HD.out]
  clear ma mb ma' mb'
  go_wp2
  go_loop [6, 7, 11] (fun q r i => ∃ (j : Nat) (Q R : Int), j ≤ 64 ∧ 0 ≤ Q ∧ 0 ≤ R ∧ R < D ∧ Hid (P / 2 ^ j = Q * D + R) ∧ i = .int .i64 ((j : Int) - 1) ∧ q = .int .u64 (Q * 2 ^ j) ∧ r = .int .u64 R)
    (fun _ _ i => (intOf i + 1).toNat)
  case atStart => exact ⟨64, 0, P / 18446744073709551616, by omega, by omega, by omega, hlt, (by show P / 18446744073709551616 = 0 * D + _; omega), rfl, rfl, rfl⟩
  case round =>
    obtain ⟨j, Q, R, hj, hQ, hR, hRD, HI, rfl, rfl, rfl⟩ := hrel
    by_cases h0 : 1 ≤ j
    · obtain ⟨m, rfl⟩ : ∃ m, j = m + 1 := ⟨j - 1, by omega⟩
      rw [show (((m + 1 : Nat) : Int) - 1) = (m : Int) from by omega]
      have hbit := Pl.bit_step P m (by omega)
      have hb0 : 0 ≤ P % 18446744073709551616 / 2 ^ m % 2 ∧ P % 18446744073709551616 / 2 ^ m % 2 ≤ 1 := by omega
      have hor : bits .or .u64 (R * 2) (P % 18446744073709551616 / 2 ^ m % 2) = R * 2 + P % 18446744073709551616 / 2 ^ m % 2 :=
        Pl.or_shifted_u64 1 R _ (by omega) (by omega) (by omega) (by omega)
      have HB := Lib.hid hbit; clear hbit
      have ht : (R / 9223372036854775808 == 1) = false := by rw [beq_eq_false_iff_ne]; omega
      by_cases hge : D ≤ R * 2 + P % 18446744073709551616 / 2 ^ m % 2
      · have hI : P / 2 ^ m = (2 * Q + 1) * D + (R * 2 + P % 18446744073709551616 / 2 ^ m % 2 - D) := by
          rw [HB.out, HI.out, Int.add_mul, Int.mul_assoc]; omega
        have hQ' := Pl.share_lt P D (2 * Q + 1) _ m (by omega) (by omega) hI (by omega) hlt
        have hp := Pl.pow_lt64 m (by omega)
        have eQ : Q * 2 ^ (m + 1) + 2 ^ m = (2 * Q + 1) * 2 ^ m := by rw [Int.pow_succ, Int.add_mul, Int.mul_comm (2 : Int) Q, Int.mul_assoc, Int.mul_comm (2 ^ m : Int) 2]; omega
        have hqor : bits .or .u64 (Q * 2 ^ (m + 1)) (IntKind.u64.wrap (2 ^ m)) = (2 * Q + 1) * 2 ^ m := by
          have hw : IntKind.u64.wrap (2 ^ m) = 2 ^ m := by rw [IntKind.wrap_u64]; omega
          rw [hw, Pl.or_shifted_u64 (m + 1) Q (2 ^ m) (by omega) (by rw [Int.pow_succ]; omega) hQ (by omega)]
          exact eQ
        have HI' := Lib.hid hI; clear hI eQ hp hQ'
        go_wp2
        go_round
        case rel => exact ⟨m, 2 * Q + 1, _, by omega, by omega, by omega, by omega, HI', rfl, rfl, rfl⟩
        case measure => simp [intOf] <;> omega
      · have hI : P / 2 ^ m = (2 * Q) * D + (R * 2 + P % 18446744073709551616 / 2 ^ m % 2) := by
          rw [HB.out, HI.out, Int.mul_assoc]; omega
        have HI' := Lib.hid hI; clear hI
        have eQ : Q * 2 ^ (m + 1) = 2 * Q * 2 ^ m := by rw [Int.pow_succ, Int.mul_comm (2 : Int) Q, Int.mul_assoc, Int.mul_comm (2 ^ m : Int) 2]
        have EQ := Lib.hid eQ; clear eQ
        go_wp2
        go_round
        case rel => exact ⟨m, 2 * Q, _, by omega, by omega, by omega, by omega, HI', rfl, by rw [EQ.out], rfl⟩
        case measure => simp [intOf] <;> omega
    · obtain rfl : j = 0 := by omega
      have hI := HI.out
      rw [Int.pow_zero, Int.ediv_one] at hI
      have e1 : P / D = Q := by rw [hI, Int.mul_comm, Int.mul_add_ediv_left _ _ (by omega), Int.ediv_eq_zero_of_lt hR hRD]; omega
      have e2 : P % D = R := by rw [hI, Int.mul_comm, Int.mul_add_emod_self_left, Int.emod_eq_of_lt hR hRD]
      have E1 := Lib.hid e1
      have E2 := Lib.hid e2
      clear e1 e2 hI
      go_wp2
      refine bodyPost_ret (v := .tuple #[.int .u64 Q, .int .u64 R, .int .u64 D, .bool true]) (by simp [results, Try.results74, go_sem]) rfl ⟨by rw [E1.out, E2.out], g1⟩

/-- what 'parts' tells of a share that is too great -/
theorem parts_no (a b d P D : Int) (ha : -9223372036854775808 ≤ a ∧ a ≤ 9223372036854775807) (hb : -9223372036854775808 ≤ b ∧ b ≤ 9223372036854775807)
    (hd : -9223372036854775808 ≤ d ∧ d ≤ 9223372036854775807) (HP : Hid (Pl.mag a * Pl.mag b = P)) (HD : Hid (Pl.mag d = D)) (hlt : D ≤ P / 18446744073709551616) (w : World) :
    Calls Try.prog 74 #[.int .i64 a, .int .i64 b, .int .i64 d] w fun e w' =>
      e = .returned (.tuple #[.int .u64 0, .int .u64 0, .int .u64 0, .bool false]) ∧ Grown w w' := by
  have ma := Pl.mag_nn a
  have mb := Pl.mag_nn b
  have ma' := Pl.mag_le a ha.1 ha.2
  have mb' := Pl.mag_le b hb.1 hb.2
  go_enter Try.func74, Try.ntmps74
  go_wp2_with fail
  refine (size_any a ha _).mono ?_
  rintro e w1 ⟨rfl, rfl⟩
  go_wp2_with fail
  refine (size_any b hb _).mono ?_
  rintro e w1 ⟨rfl, rfl⟩
  go_wp2_with fail
  refine (product_any _ _ (by omega) (by omega) _).mono ?_
  rintro e w1 ⟨rfl, g1⟩
  rw [HP.out]
  go_wp2_with fail
  refine (size_any d hd _).mono ?_
  rintro e w2 ⟨rfl, rfl⟩
  rw [HD.out]
  go_wp2
  exact bodyPost_ret (v := .tuple #[.int .u64 0, .int .u64 0, .int .u64 0, .bool false]) (by simp [results, Try.results74, go_sem]) rfl ⟨rfl, g1⟩
end Go.Proofs.Ytedidjdifobclaa
