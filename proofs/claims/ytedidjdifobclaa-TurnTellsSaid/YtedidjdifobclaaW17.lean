/- The walks of tympanref1.signed, share, MulDiv and Floor. -/
import Derived.Test.YtedidjdifobclaaW16
import Derived.Test.YtedidjdifobclaaW4
import Derived.Test.YtedidjdifobclaaW5
namespace Go.Proofs.Ytedidjdifobclaa
set_option linter.unusedVariables false
open Go.RowKit

theorem signedr_pos (q : Int) (q0 : 0 ≤ q) (h : q ≤ 9223372036854775807) (w : World) :
    Calls Try.prog 97 #[.int .u64 q, .bool false] w fun e w' => e = .returned (.tuple #[.int .i64 q, .bool true]) ∧ w = w' := by
  by_cases hz : q = 0
  · subst hz
    go_enter Try.func97, Try.ntmps97
    go_wp2
    go_ret2
    exact ⟨rfl, rfl⟩
  have z : (q == 0) = false := beq_eq_false_iff_ne.2 hz
  go_enter Try.func97, Try.ntmps97
  go_wp2
  go_ret2
  exact ⟨rfl, rfl⟩
theorem signedr_neg (q : Int) (q0 : 0 ≤ q) (h : q ≤ 9223372036854775808) (w : World) :
    Calls Try.prog 97 #[.int .u64 q, .bool true] w fun e w' => e = .returned (.tuple #[.int .i64 (-q), .bool true]) ∧ w = w' := by
  by_cases hz : q = 0
  · subst hz
    go_enter Try.func97, Try.ntmps97
    go_wp2
    go_ret2
    exact ⟨rfl, rfl⟩
  have z : (q == 0) = false := beq_eq_false_iff_ne.2 hz
  have q1 : 1 ≤ q := by omega
  go_enter Try.func97, Try.ntmps97
  go_wp2
  go_ret2
  exact ⟨ret_ib (by omega) rfl, rfl⟩
theorem signedr_no (q : Int) (m : Bool) (q1 : q ≤ 18446744073709551615) (h : (m = false ∧ 9223372036854775807 < q) ∨ (m = true ∧ 9223372036854775808 < q)) (w : World) :
    Calls Try.prog 97 #[.int .u64 q, .bool m] w fun e w' => e = .returned (.tuple #[.int .i64 0, .bool false]) ∧ w = w' := by
  have z : (q == 0) = false := beq_eq_false_iff_ne.2 (by omega)
  rcases h with ⟨rfl, h⟩ | ⟨rfl, h⟩
  all_goals
    go_enter Try.func97, Try.ntmps97
    go_wp2
    go_ret2
    exact ⟨rfl, rfl⟩

theorem sharer_no (a b d : Int) (ha : Pl.i64 a) (hb : Pl.i64 b) (hd : Pl.i64 d) (h : Pl.mag d ≤ Pl.mag a * Pl.mag b / 18446744073709551616) (w : World) :
    Calls Try.prog 96 #[.int .i64 a, .int .i64 b, .int .i64 d] w fun e w' => e = .returned (.tuple #[.int .u64 0, .int .u64 0, .bool false, .bool false]) ∧ Grown w w' := by
  have ma := Pl.mag_nn a
  have mb := Pl.mag_nn b
  have ma' := Pl.mag_le a ha.1 ha.2
  have mb' := Pl.mag_le b hb.1 hb.2
  obtain ⟨P, hP⟩ : ∃ P, Pl.mag a * Pl.mag b = P := ⟨_, rfl⟩
  have M := fun w => mul64_any (Pl.mag a) (Pl.mag b) ⟨ma, by omega⟩ ⟨mb, by omega⟩ w
  rw [hP] at M h
  have M := Lib.hid M
  have A := Lib.hid (mag1_any a ha)
  have B := Lib.hid (mag1_any b hb)
  have D := Lib.hid (mag1_any d hd)
  clear ha hb hd ma mb ma' mb' hP
  go_enter Try.func96, Try.ntmps96
  go_wp2_with fail
  refine (A.out _).mono ?_
  rintro e w1 ⟨rfl, rfl⟩
  go_wp2_with fail
  refine (B.out _).mono ?_
  rintro e w1 ⟨rfl, rfl⟩
  go_wp2_with fail
  refine (M.out _).mono ?_
  rintro e w1 ⟨rfl, rfl⟩
  go_wp2_with fail
  refine (D.out _).mono ?_
  rintro e w1 ⟨rfl, rfl⟩
  go_wp2
  refine bodyPost_ret (v := .tuple #[.int .u64 0, .int .u64 0, .bool false, .bool false]) (by simp [results, Try.results96, go_sem]) rfl ⟨rfl, Grown.refl _⟩

theorem sharer_ok (a b d P D : Int) (ha : Pl.i64 a) (hb : Pl.i64 b) (hd : Pl.i64 d) (hP : Pl.mag a * Pl.mag b = P) (hD : Pl.mag d = D) (h : P / 18446744073709551616 < D) (w : World) :
    Calls Try.prog 96 #[.int .i64 a, .int .i64 b, .int .i64 d] w fun e w' => e = .returned (.tuple #[.int .u64 (P / D), .int .u64 (P % D), .bool (Pl.sgn3 a b d), .bool true]) ∧ Grown w w' := by
  have ma := Pl.mag_nn a
  have mb := Pl.mag_nn b
  have ma' := Pl.mag_le a ha.1 ha.2
  have mb' := Pl.mag_le b hb.1 hb.2
  have md' := Pl.mag_le d hd.1 hd.2
  have P0 : 0 ≤ P := by rw [← hP]; exact Int.mul_nonneg ma mb
  have M := fun w => mul64_any (Pl.mag a) (Pl.mag b) ⟨ma, by omega⟩ ⟨mb, by omega⟩ w
  rw [hP] at M
  have V := fun w => div64_any (P / 18446744073709551616) (P % 18446744073709551616) D (by omega) h (by omega) (by omega) (by omega) w
  rw [show P / 18446744073709551616 * 18446744073709551616 + P % 18446744073709551616 = P from by omega] at V
  have M := Lib.hid M
  have V := Lib.hid V
  have A := Lib.hid (mag1_any a ha)
  have B := Lib.hid (mag1_any b hb)
  have C := mag1_any d hd
  rw [hD] at C
  have C := Lib.hid C
  clear ha hb hd ma mb ma' mb' hP P0 hD
  unfold Pl.sgn3
  cases sa : decide (a < 0) <;> cases sb : decide (b < 0) <;> cases sd : decide (d < 0)
  all_goals
    go_enter Try.func96, Try.ntmps96
    go_wp2_with fail
    refine (A.out _).mono ?_
    rintro e w1 ⟨rfl, rfl⟩
    go_wp2_with fail
    refine (B.out _).mono ?_
    rintro e w1 ⟨rfl, rfl⟩
    go_wp2_with fail
    refine (M.out _).mono ?_
    rintro e w1 ⟨rfl, rfl⟩
    go_wp2_with fail
    refine (C.out _).mono ?_
    rintro e w1 ⟨rfl, rfl⟩
    go_wp2_with fail
    refine (V.out _).mono ?_
    rintro e w1 ⟨rfl, g1⟩
    go_wp2
    refine bodyPost_ret (v := .tuple #[.int .u64 (P / D), .int .u64 (P % D), .bool _, .bool true]) (by simp [results, Try.results96, go_sem]; rfl) rfl ⟨by simp, g1⟩
end Go.Proofs.Ytedidjdifobclaa
