/- The walk of wide.MulDiv. -/
import Derived.Test.YtedidjdifobclaaW3
namespace Go.Proofs.Ytedidjdifobclaa
set_option linter.unusedVariables false
open Go.RowKit

theorem muldiv_no0 (a b d : Int) (ha : Pl.i64 a) (hb : Pl.i64 b) (hd : Pl.i64 d) (h : Pl.mag d ≤ Pl.mag a * Pl.mag b / 18446744073709551616) (w : World) :
    Calls Try.prog 26 #[.int .i64 a, .int .i64 b, .int .i64 d] w fun e w' => e = .returned (.tuple #[.int .i64 0, .bool false]) ∧ Grown w w' := by
  go_enter Try.func26, Try.ntmps26
  go_wp2_with fail
  refine (parts_no a b d _ _ ha hb hd (Lib.hid rfl) (Lib.hid rfl) h _).mono ?_
  rintro e w1 ⟨rfl, g1⟩
  go_wp2
  go_ret2
  exact ⟨rfl, g1⟩

theorem muldiv_core (a b d P D n v : Int) (up s t : Bool) (ha : Pl.i64 a) (hb : Pl.i64 b) (hd : Pl.i64 d) (HP : Hid (Pl.mag a * Pl.mag b = P)) (HD : Hid (Pl.mag d = D)) (hP : 0 ≤ P) (hD : 0 < D) (hD' : D ≤ 9223372036854775808)
    (hlt : P / 18446744073709551616 < D) (hup : Hid (up = decide (D - P % D < P % D ∨ (P % D = D - P % D ∧ P / D % 2 = 1))))
    (hmore : ∀ w, Calls Try.prog 75 #[.int .u64 (P / D), .bool up] w fun e w' => e = .returned (.tuple #[.int .u64 n, .bool s]) ∧ w = w')
    (hsig : s = true → ∀ w, Calls Try.prog 76 #[.int .u64 n, .bool (Pl.sgn3 a b d)] w fun e w' => e = .returned (.tuple #[.int .i64 v, .bool t]) ∧ w = w')
    (hno : s = false → v = 0 ∧ t = false) (w : World) :
    Calls Try.prog 26 #[.int .i64 a, .int .i64 b, .int .i64 d] w fun e w' => e = .returned (.tuple #[.int .i64 v, .bool t]) ∧ Grown w w' := by
  have hr0 := Int.emod_nonneg P (show D ≠ 0 by omega)
  have hr1 := Int.emod_lt_of_pos P hD
  have hq0 : 0 ≤ P / D := Int.ediv_nonneg hP (by omega)
  have hq1 : P / D < 18446744073709551616 := (Int.ediv_lt_iff_lt_mul hD).2 (by omega)
  have HM := Lib.hid hmore; clear hmore
  have HS := Lib.hid hsig; clear hsig
  have HPC := fun w => parts_core a b d P D ha hb hd HP HD hlt w
  have HC := Lib.hid HPC; clear HPC
  generalize P / D = q at *
  generalize P % D = r at *
  clear hlt hP ha hb hd
  have hcase : (up = true ∧ D - r < r) ∨ (up = true ∧ ¬ D - r < r ∧ r = D - r ∧ q % 2 = 1) ∨ (up = false ∧ ¬ D - r < r ∧ r = D - r ∧ ¬ q % 2 = 1) ∨ (up = false ∧ ¬ D - r < r ∧ r ≠ D - r) := by
    have := hup.out
    by_cases c1 : D - r < r
    · simp [c1] at this; simp [this, c1]
    · by_cases c2 : r = D - r
      · by_cases c3 : q % 2 = 1
        · have e : up = true := by rw [this, decide_eq_true_eq]; exact .inr ⟨c2, c3⟩
          exact .inr (.inl ⟨e, c1, c2, c3⟩)
        · have e : up = false := by rw [this, decide_eq_false_iff_not]; rintro (h | h); exact c1 h; exact c3 h.2
          exact .inr (.inr (.inl ⟨e, c1, c2, c3⟩))
      · have e : up = false := by rw [this, decide_eq_false_iff_not]; rintro (h | h); exact c1 h; exact c2 h.1
        exact .inr (.inr (.inr ⟨e, c1, c2⟩))
  clear hup
  cases s
  · obtain ⟨rfl, rfl⟩ := hno rfl
    clear hno
    rcases hcase with ⟨rfl, c1⟩ | ⟨rfl, c1, c2, c3⟩ | ⟨rfl, c1, c2, c3⟩ | ⟨rfl, c1, c2⟩
    case' inl => have c1' : decide (D - r < r) = true := decide_eq_true c1
    case' inr.inl => have c1' : decide (D - r < r) = false := decide_eq_false c1; have c2' : (r == D - r) = true := beq_iff_eq.2 c2; have c3' : (q % 2 == 1) = true := beq_iff_eq.2 c3; clear c2 c3
    case' inr.inr.inl => have c1' : decide (D - r < r) = false := decide_eq_false c1; have c2' : (r == D - r) = true := beq_iff_eq.2 c2; have c3' : (q % 2 == 1) = false := beq_eq_false_iff_ne.2 c3; clear c2 c3
    case' inr.inr.inr => have c1' : decide (D - r < r) = false := decide_eq_false c1; have c2' : (r == D - r) = false := beq_eq_false_iff_ne.2 c2; clear c2
    all_goals
      go_enter Try.func26, Try.ntmps26
      go_wp2_with fail
      refine (HC.out _).mono ?_
      rintro e w1 ⟨rfl, g1⟩
      go_wp2_with fail
      refine (HM.out _).mono ?_
      rintro e w2 ⟨rfl, rfl⟩
      go_wp2
      go_ret2
      exact ⟨ret_ib rfl rfl, g1⟩
  · clear hno
    have HS' := Lib.hid (HS.out rfl); clear HS
    rcases hcase with ⟨rfl, c1⟩ | ⟨rfl, c1, c2, c3⟩ | ⟨rfl, c1, c2, c3⟩ | ⟨rfl, c1, c2⟩
    case' inl => have c1' : decide (D - r < r) = true := decide_eq_true c1
    case' inr.inl => have c1' : decide (D - r < r) = false := decide_eq_false c1; have c2' : (r == D - r) = true := beq_iff_eq.2 c2; have c3' : (q % 2 == 1) = true := beq_iff_eq.2 c3; clear c2 c3
    case' inr.inr.inl => have c1' : decide (D - r < r) = false := decide_eq_false c1; have c2' : (r == D - r) = true := beq_iff_eq.2 c2; have c3' : (q % 2 == 1) = false := beq_eq_false_iff_ne.2 c3; clear c2 c3
    case' inr.inr.inr => have c1' : decide (D - r < r) = false := decide_eq_false c1; have c2' : (r == D - r) = false := beq_eq_false_iff_ne.2 c2; clear c2
    all_goals
      go_enter Try.func26, Try.ntmps26
      go_wp2_with fail
      refine (HC.out _).mono ?_
      rintro e w1 ⟨rfl, g1⟩
      go_wp2_with fail
      refine (HM.out _).mono ?_
      rintro e w2 ⟨rfl, rfl⟩
      go_wp2_with fail
      refine (under_any _ _ _ _).mono ?_
      rintro e w2 ⟨rfl, rfl⟩
      go_wp2_with fail
      refine (HS'.out _).mono ?_
      rintro e w2 ⟨rfl, rfl⟩
      go_wp2
      go_ret2
      exact ⟨ret_ib rfl rfl, g1⟩

theorem muldiv_ok (a b d : Int) (ha : Pl.i64 a) (hb : Pl.i64 b) (hd : Pl.i64 d) (h0 : d ≠ 0) (h : Pl.i64 (Pl.share a b d)) (w : World) :
    Calls Try.prog 26 #[.int .i64 a, .int .i64 b, .int .i64 d] w fun e w' => e = .returned (.tuple #[.int .i64 (Pl.share a b d), .bool true]) ∧ Grown w w' := by
  have hlt := Pl.share_fits a b d ha hb hd h0 h
  have hD := Pl.mag_lt d h0
  have hD' := Pl.mag_le d hd.1 hd.2
  have hP : 0 ≤ Pl.mag a * Pl.mag b := Int.mul_nonneg (Pl.mag_nn a) (Pl.mag_nn b)
  have hq0 : 0 ≤ Pl.mag a * Pl.mag b / Pl.mag d := Int.ediv_nonneg hP (by omega)
  have hs : Pl.share a b d = if Pl.sgn3 a b d = true then -Pl.near (Pl.mag a * Pl.mag b) (Pl.mag d) else Pl.near (Pl.mag a * Pl.mag b) (Pl.mag d) := rfl
  have hb := Pl.near_bd _ _ hP hD
  unfold Pl.i64 at h
  refine muldiv_core a b d _ _ (Pl.near (Pl.mag a * Pl.mag b) (Pl.mag d)) _ (decide (Pl.mag d - Pl.mag a * Pl.mag b % Pl.mag d < Pl.mag a * Pl.mag b % Pl.mag d ∨ (Pl.mag a * Pl.mag b % Pl.mag d = Pl.mag d - Pl.mag a * Pl.mag b % Pl.mag d ∧ Pl.mag a * Pl.mag b / Pl.mag d % 2 = 1))) true true ha (by assumption) hd (Lib.hid rfl) (Lib.hid rfl) hP hD hD' hlt (Lib.hid rfl) ?_ ?_ (fun h => by cases h) w
  · intro w
    unfold Pl.near
    split
    · rename_i hc
      rw [decide_eq_true hc]
      refine more_up _ ⟨hq0, ?_⟩ w
      unfold Pl.near at hb
      rw [if_pos hc] at hb
      have : Pl.near (Pl.mag a * Pl.mag b) (Pl.mag d) = Pl.mag a * Pl.mag b / Pl.mag d + 1 := by unfold Pl.near; rw [if_pos hc]
      split at hs <;> omega
    · rename_i hc
      rw [decide_eq_false hc]
      exact more_stay _ w
  · intro _ w
    cases hg : Pl.sgn3 a b d
    · simp only [hg, Bool.false_eq_true, if_false] at hs
      rw [hs]
      exact signed_above _ (by omega) w
    · simp only [hg, if_true] at hs
      rw [hs]
      exact signed_below _ (by omega) w

theorem muldiv_no (a b d : Int) (ha : Pl.i64 a) (hb : Pl.i64 b) (hd : Pl.i64 d) (h : d = 0 ∨ ¬ Pl.i64 (Pl.share a b d)) (w : World) :
    Calls Try.prog 26 #[.int .i64 a, .int .i64 b, .int .i64 d] w fun e w' => e = .returned (.tuple #[.int .i64 0, .bool false]) ∧ Grown w w' := by
  have hP : 0 ≤ Pl.mag a * Pl.mag b := Int.mul_nonneg (Pl.mag_nn a) (Pl.mag_nn b)
  by_cases h0 : d = 0
  · subst h0
    exact muldiv_no0 a b 0 ha hb hd (by show (0 : Int) ≤ _; omega) w
  · by_cases hlt : Pl.mag a * Pl.mag b / 18446744073709551616 < Pl.mag d
    · have h := h.resolve_left h0
      have hD := Pl.mag_lt d h0
      have hD' := Pl.mag_le d hd.1 hd.2
      have hq0 : 0 ≤ Pl.mag a * Pl.mag b / Pl.mag d := Int.ediv_nonneg hP (by omega)
      have hq1 : Pl.mag a * Pl.mag b / Pl.mag d < 18446744073709551616 := (Int.ediv_lt_iff_lt_mul hD).2 (by omega)
      have hs : Pl.share a b d = if Pl.sgn3 a b d = true then -Pl.near (Pl.mag a * Pl.mag b) (Pl.mag d) else Pl.near (Pl.mag a * Pl.mag b) (Pl.mag d) := rfl
      have hnb := Pl.near_bd _ _ hP hD
      unfold Pl.i64 at h
      have hup : Hid (decide (Pl.mag d - Pl.mag a * Pl.mag b % Pl.mag d < Pl.mag a * Pl.mag b % Pl.mag d ∨ (Pl.mag a * Pl.mag b % Pl.mag d = Pl.mag d - Pl.mag a * Pl.mag b % Pl.mag d ∧ Pl.mag a * Pl.mag b / Pl.mag d % 2 = 1)) = decide (Pl.mag d - Pl.mag a * Pl.mag b % Pl.mag d < Pl.mag a * Pl.mag b % Pl.mag d ∨ (Pl.mag a * Pl.mag b % Pl.mag d = Pl.mag d - Pl.mag a * Pl.mag b % Pl.mag d ∧ Pl.mag a * Pl.mag b / Pl.mag d % 2 = 1))) := Lib.hid rfl
      by_cases hc : Pl.mag d - Pl.mag a * Pl.mag b % Pl.mag d < Pl.mag a * Pl.mag b % Pl.mag d ∨ (Pl.mag a * Pl.mag b % Pl.mag d = Pl.mag d - Pl.mag a * Pl.mag b % Pl.mag d ∧ Pl.mag a * Pl.mag b / Pl.mag d % 2 = 1)
      · have hn : Pl.near (Pl.mag a * Pl.mag b) (Pl.mag d) = Pl.mag a * Pl.mag b / Pl.mag d + 1 := by unfold Pl.near; rw [if_pos hc]
        by_cases hov : Pl.mag a * Pl.mag b / Pl.mag d = 18446744073709551615
        · refine muldiv_core a b d _ _ 0 _ _ false false ha hb hd (Lib.hid rfl) (Lib.hid rfl) hP hD hD' hlt hup ?_ (fun h => by cases h) (fun _ => ⟨rfl, rfl⟩) w
          intro w
          rw [decide_eq_true hc, hov]
          exact more_over w
        · refine muldiv_core a b d _ _ (Pl.mag a * Pl.mag b / Pl.mag d + 1) _ _ true false ha hb hd (Lib.hid rfl) (Lib.hid rfl) hP hD hD' hlt hup ?_ ?_ (fun h => by cases h) w
          · intro w
            rw [decide_eq_true hc]
            exact more_up _ ⟨hq0, by omega⟩ w
          · intro _ w
            refine signed_no _ _ ?_ w
            cases hg : Pl.sgn3 a b d <;> simp only [hg, Bool.false_eq_true, if_false, if_true] at hs ⊢ <;> omega
      · have hn : Pl.near (Pl.mag a * Pl.mag b) (Pl.mag d) = Pl.mag a * Pl.mag b / Pl.mag d := by unfold Pl.near; rw [if_neg hc]
        refine muldiv_core a b d _ _ (Pl.mag a * Pl.mag b / Pl.mag d) _ _ true false ha hb hd (Lib.hid rfl) (Lib.hid rfl) hP hD hD' hlt hup ?_ ?_ (fun h => by cases h) w
        · intro w
          rw [decide_eq_false hc]
          exact more_stay _ w
        · intro _ w
          refine signed_no _ _ ?_ w
          cases hg : Pl.sgn3 a b d <;> simp only [hg, Bool.false_eq_true, if_false, if_true] at hs ⊢ <;> omega
    · exact muldiv_no0 a b d ha hb hd (by omega) w
end Go.Proofs.Ytedidjdifobclaa
