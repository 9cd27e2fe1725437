/- The walks of package fix: From, near, Floor, Ceil, Round, Trunc, Whole, Sqrt. -/
import Derived.Test.YtedidjdifobclaaW6
import Derived.Test.YtedidjdifobclaaW8
import Derived.Test.YtedidjdifobclaaPlBits2
namespace Go.Proofs.Ytedidjdifobclaa
set_option linter.unusedVariables false
open Go.RowKit

theorem ffrom_ok (v : Int) (h : -16383 ≤ v ∧ v ≤ 16383) (w : World) :
    Calls Try.prog 57 #[.int .i64 v] w fun e w' => e = .returned (.tuple #[.int .i64 (v * 65536), .bool true]) ∧ w = w' := by
  go_enter Try.func57, Try.ntmps57
  go_wp2
  go_ret2
  exact ⟨rfl, rfl⟩
theorem ffrom_no (v : Int) (h : ¬ (-16383 ≤ v ∧ v ≤ 16383)) (w : World) :
    Calls Try.prog 57 #[.int .i64 v] w fun e w' => e = .returned (.tuple #[.int .i64 0, .bool false]) ∧ w = w' := by
  have hc : v < -16383 ∨ (-16383 ≤ v ∧ 16383 < v) := by omega
  clear h
  rcases hc with h1 | ⟨h1, h2⟩
  all_goals
    go_enter Try.func57, Try.ntmps57
    go_wp2
    go_ret2
    exact ⟨rfl, rfl⟩

theorem fnear_any (a : Int) (w : World) : Calls Try.prog 82 #[.int .i64 a] w fun e w' => e = .returned (.int .i64 (Pl.clamp a)) ∧ w = w' := by
  have hc : (a < -1073741823 ∧ Hid (Pl.clamp a = -1073741823)) ∨ (1073741823 < a ∧ Hid (Pl.clamp a = 1073741823)) ∨ (-1073741823 ≤ a ∧ a ≤ 1073741823 ∧ Hid (Pl.clamp a = a)) := by
    by_cases h1 : a < -1073741823
    · exact .inl ⟨h1, Lib.hid (by unfold Pl.clamp; rw [if_pos h1])⟩
    · by_cases h2 : 1073741823 < a
      · exact .inr (.inl ⟨h2, Lib.hid (by unfold Pl.clamp; rw [if_neg h1, if_pos h2])⟩)
      · exact .inr (.inr ⟨by omega, by omega, Lib.hid (by unfold Pl.clamp; rw [if_neg h1, if_neg h2])⟩)
  rcases hc with ⟨h1, h2⟩ | ⟨h1, h2⟩ | ⟨h1, h3, h2⟩
  all_goals
    go_enter Try.func82, Try.ntmps82
    go_wp2
    go_ret
    exact ⟨ret_int (by rw [h2.out]; try omega), rfl⟩

theorem fwhole_any (a : Int) (w : World) : Calls Try.prog 36 #[.int .i64 a] w fun e w' => e = .returned (.int .i64 (Pl.fwhole a)) ∧ w = w' := by
  have hb := Pl.clamp_bd a
  go_enter Try.func36, Try.ntmps36
  go_wp2_with fail
  refine (fnear_any a _).mono ?_
  rintro e w1 ⟨rfl, rfl⟩
  go_wp2
  go_ret
  exact ⟨rfl, rfl⟩
theorem ffloor_any (a : Int) (w : World) : Calls Try.prog 32 #[.int .i64 a] w fun e w' => e = .returned (.int .i64 (Pl.ffloor a)) ∧ w = w' := by
  have hb := Pl.clamp_bd a
  go_enter Try.func32, Try.ntmps32
  go_wp2_with fail
  refine (fnear_any a _).mono ?_
  rintro e w1 ⟨rfl, rfl⟩
  go_wp2
  go_ret
  exact ⟨rfl, rfl⟩
theorem fceil_any (a : Int) (w : World) : Calls Try.prog 33 #[.int .i64 a] w fun e w' => e = .returned (.int .i64 (Pl.fceil a)) ∧ w = w' := by
  have hb := Pl.clamp_bd a
  go_enter Try.func33, Try.ntmps33
  go_wp2_with fail
  refine (fnear_any a _).mono ?_
  rintro e w1 ⟨rfl, rfl⟩
  go_wp2
  go_ret
  exact ⟨rfl, rfl⟩
theorem ftrunc_any (a : Int) (w : World) : Calls Try.prog 35 #[.int .i64 a] w fun e w' => e = .returned (.int .i64 (Pl.ftrunc a)) ∧ w = w' := by
  by_cases h : a < 0
  · have ht := Lib.hid (show Pl.ftrunc a = Pl.fceil a by unfold Pl.ftrunc; rw [if_pos h])
    go_enter Try.func35, Try.ntmps35
    go_wp2_with fail
    refine (fceil_any a _).mono ?_
    rintro e w1 ⟨rfl, rfl⟩
    go_wp2
    go_ret
    exact ⟨ret_int ht.out.symm, rfl⟩
  · have ht := Lib.hid (show Pl.ftrunc a = Pl.ffloor a by unfold Pl.ftrunc; rw [if_neg h])
    go_enter Try.func35, Try.ntmps35
    go_wp2_with fail
    refine (ffloor_any a _).mono ?_
    rintro e w1 ⟨rfl, rfl⟩
    go_wp2
    go_ret
    exact ⟨ret_int ht.out.symm, rfl⟩
theorem fround_any (a : Int) (w : World) : Calls Try.prog 34 #[.int .i64 a] w fun e w' => e = .returned (.int .i64 (Pl.fround a)) ∧ w = w' := by
  have hb := Pl.clamp_bd a
  have he : Pl.ffloor a = Pl.clamp a / 65536 * 65536 := rfl
  have hw : Pl.fwhole a = Pl.clamp a / 65536 := rfl
  have hr : Pl.fround a = if 32768 < Pl.clamp a - Pl.ffloor a ∨ (Pl.clamp a - Pl.ffloor a = 32768 ∧ Pl.fwhole a % 2 = 1) then Pl.ffloor a + 65536 else Pl.ffloor a := rfl
  have hlow : Pl.ffloor a / 65536 % 2 = Pl.fwhole a % 2 := by rw [he, hw]; omega
  have hfb : -1073741824 ≤ Pl.ffloor a ∧ Pl.ffloor a ≤ 1073741823 := by omega
  have hrb : 0 ≤ Pl.clamp a - Pl.ffloor a ∧ Pl.clamp a - Pl.ffloor a ≤ 65535 := by omega
  clear he hw
  have hcase : (32768 < Pl.clamp a - Pl.ffloor a ∧ Hid (Pl.fround a = Pl.ffloor a + 65536)) ∨
      (Pl.clamp a - Pl.ffloor a ≤ 32768 ∧ (Pl.clamp a - Pl.ffloor a == 32768) = true ∧ (Pl.ffloor a / 65536 % 2 * 65536 != 0) = true ∧ Hid (Pl.fround a = Pl.ffloor a + 65536)) ∨
      (Pl.clamp a - Pl.ffloor a ≤ 32768 ∧ (Pl.clamp a - Pl.ffloor a == 32768) = true ∧ (Pl.ffloor a / 65536 % 2 * 65536 != 0) = false ∧ Hid (Pl.fround a = Pl.ffloor a)) ∨
      (Pl.clamp a - Pl.ffloor a ≤ 32768 ∧ (Pl.clamp a - Pl.ffloor a == 32768) = false ∧ Hid (Pl.fround a = Pl.ffloor a)) := by
    by_cases c1 : 32768 < Pl.clamp a - Pl.ffloor a
    · exact .inl ⟨c1, Lib.hid (by rw [hr, if_pos (.inl c1)])⟩
    · by_cases c2 : Pl.clamp a - Pl.ffloor a = 32768
      · by_cases c3 : Pl.fwhole a % 2 = 1
        · exact .inr (.inl ⟨by omega, beq_iff_eq.2 c2, by rw [bne_iff_ne]; omega, Lib.hid (by rw [hr, if_pos (.inr ⟨c2, c3⟩)])⟩)
        · exact .inr (.inr (.inl ⟨by omega, beq_iff_eq.2 c2, by rw [bne_eq_false_iff_eq]; omega, Lib.hid (by rw [hr, if_neg (by omega)])⟩))
      · exact .inr (.inr (.inr ⟨by omega, beq_eq_false_iff_ne.2 c2, Lib.hid (by rw [hr, if_neg (by omega)])⟩))
  clear hr hlow
  rcases hcase with ⟨h1, h4⟩ | ⟨h1, h2, h3, h4⟩ | ⟨h1, h2, h3, h4⟩ | ⟨h1, h2, h4⟩
  all_goals
    go_enter Try.func34, Try.ntmps34
    go_wp2_with fail
    refine (ffloor_any a _).mono ?_
    rintro e w1 ⟨rfl, rfl⟩
    go_wp2_with fail
    refine (fnear_any a _).mono ?_
    rintro e w1 ⟨rfl, rfl⟩
    go_wp2_with fail
    go_ret
    exact ⟨ret_int h4.out.symm, rfl⟩

theorem fsqrt_ok (a : Int) (h : 0 ≤ a ∧ a ≤ 1073741823) (w : World) :
    Calls Try.prog 44 #[.int .i64 a] w fun e w' => e = .returned (.tuple #[.int .i64 (Pl.root (a * 65536)), .bool true]) ∧ w = w' := by
  have hr := Pl.root_spec (a * 65536) (by omega) (by omega)
  have hb : 0 ≤ Pl.root (a * 65536) ∧ Pl.root (a * 65536) ≤ 4294967295 := ⟨hr.1, hr.2.1⟩
  clear hr
  go_enter Try.func44, Try.ntmps44
  go_wp2_with fail
  refine (fmay_yes a (by unfold Pl.fx; omega) _).mono ?_
  rintro e w1 ⟨rfl, rfl⟩
  go_wp2_with fail
  refine (root_floor (a * 65536) (by omega) _).mono ?_
  rintro e w1 ⟨rfl, rfl⟩
  go_wp2_with fail
  go_ret2
  exact ⟨rfl, rfl⟩
theorem fsqrt_no (a : Int) (h : ¬ (0 ≤ a ∧ a ≤ 1073741823)) (w : World) :
    Calls Try.prog 44 #[.int .i64 a] w fun e w' => e = .returned (.tuple #[.int .i64 0, .bool false]) ∧ w = w' := by
  by_cases h0 : a < 0
  · go_enter Try.func44, Try.ntmps44
    go_wp2_with fail
    go_ret2
    exact ⟨rfl, rfl⟩
  · have hn : ¬ Pl.fx a := by unfold Pl.fx; omega
    clear h
    go_enter Try.func44, Try.ntmps44
    go_wp2_with fail
    refine (fmay_no a hn _).mono ?_
    rintro e w1 ⟨rfl, rfl⟩
    go_wp2_with fail
    go_ret2
    exact ⟨rfl, rfl⟩
end Go.Proofs.Ytedidjdifobclaa
