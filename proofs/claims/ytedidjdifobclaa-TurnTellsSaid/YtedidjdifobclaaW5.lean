/- The walk of wide.Floor. -/
import Derived.Test.YtedidjdifobclaaW3
namespace Go.Proofs.Ytedidjdifobclaa
set_option linter.unusedVariables false
open Go.RowKit

theorem floor_no0 (a b d : Int) (ha : Pl.i64 a) (hb : Pl.i64 b) (hd : Pl.i64 d) (h : Pl.mag d ≤ Pl.mag a * Pl.mag b / 18446744073709551616) (w : World) :
    Calls Try.prog 27 #[.int .i64 a, .int .i64 b, .int .i64 d] w fun e w' => e = .returned (.tuple #[.int .i64 0, .bool false]) ∧ Grown w w' := by
  go_enter Try.func27, Try.ntmps27
  go_wp2_with fail
  refine (parts_no a b d _ _ ha hb hd (Lib.hid rfl) (Lib.hid rfl) h _).mono ?_
  rintro e w1 ⟨rfl, g1⟩
  go_wp2
  go_ret2
  exact ⟨rfl, g1⟩

theorem floor_core (a b d P D n v : Int) (sg up s t : Bool) (ha : Pl.i64 a) (hb : Pl.i64 b) (hd : Pl.i64 d) (HP : Hid (Pl.mag a * Pl.mag b = P)) (HD : Hid (Pl.mag d = D)) (hP : 0 ≤ P) (hD : 0 < D) (hD' : D ≤ 9223372036854775808)
    (hlt : P / 18446744073709551616 < D) (hsg : Hid (Pl.sgn3 a b d = sg)) (hup : Hid (up = decide (sg = true ∧ 0 < P % D)))
    (hmore : ∀ w, Calls Try.prog 75 #[.int .u64 (P / D), .bool up] w fun e w' => e = .returned (.tuple #[.int .u64 n, .bool s]) ∧ w = w')
    (hsig : s = true → ∀ w, Calls Try.prog 76 #[.int .u64 n, .bool sg] w fun e w' => e = .returned (.tuple #[.int .i64 v, .bool t]) ∧ w = w')
    (hno : s = false → v = 0 ∧ t = false) (w : World) :
    Calls Try.prog 27 #[.int .i64 a, .int .i64 b, .int .i64 d] w fun e w' => e = .returned (.tuple #[.int .i64 v, .bool t]) ∧ Grown w w' := by
  have hr0 := Int.emod_nonneg P (show D ≠ 0 by omega)
  have hr1 := Int.emod_lt_of_pos P hD
  have hq0 : 0 ≤ P / D := Int.ediv_nonneg hP (by omega)
  have hq1 : P / D < 18446744073709551616 := (Int.ediv_lt_iff_lt_mul hD).2 (by omega)
  have HM := Lib.hid hmore; clear hmore
  have HS := Lib.hid hsig; clear hsig
  have HPC := fun w => parts_core a b d P D ha hb hd HP HD hlt w
  have HC := Lib.hid HPC; clear HPC
  generalize P / D = q at *
  generalize P % D = r at *
  clear hlt hP ha hb hd
  have hcase : (sg = true ∧ up = true ∧ decide (0 < r) = true) ∨ (sg = true ∧ up = false ∧ decide (0 < r) = false) ∨ (sg = false ∧ up = false) := by
    have := hup.out
    cases sg
    · simp at this; exact .inr (.inr ⟨rfl, this⟩)
    · by_cases c : 0 < r
      · simp [c] at this; exact .inl ⟨rfl, this, decide_eq_true c⟩
      · simp [c] at this; exact .inr (.inl ⟨rfl, this, decide_eq_false c⟩)
  clear hup
  cases s
  · obtain ⟨rfl, rfl⟩ := hno rfl
    clear hno
    rcases hcase with ⟨rfl, rfl, c1⟩ | ⟨rfl, rfl, c1⟩ | ⟨rfl, rfl⟩
    all_goals
      go_enter Try.func27, Try.ntmps27
      go_wp2_with fail
      refine (HC.out _).mono ?_
      rintro e w1 ⟨rfl, g1⟩
      go_wp2_with fail
      refine (under_any _ _ _ _).mono ?_
      rintro e w2 ⟨rfl, rfl⟩
      rw [hsg.out]
      go_wp2_with fail
      refine (HM.out _).mono ?_
      rintro e w2 ⟨rfl, rfl⟩
      go_wp2
      go_ret2
      exact ⟨rfl, g1⟩
  · clear hno
    have HS' := Lib.hid (HS.out rfl); clear HS
    rcases hcase with ⟨rfl, rfl, c1⟩ | ⟨rfl, rfl, c1⟩ | ⟨rfl, rfl⟩
    all_goals
      go_enter Try.func27, Try.ntmps27
      go_wp2_with fail
      refine (HC.out _).mono ?_
      rintro e w1 ⟨rfl, g1⟩
      go_wp2_with fail
      refine (under_any _ _ _ _).mono ?_
      rintro e w2 ⟨rfl, rfl⟩
      rw [hsg.out]
      go_wp2_with fail
      refine (HM.out _).mono ?_
      rintro e w2 ⟨rfl, rfl⟩
      go_wp2_with fail
      refine (HS'.out _).mono ?_
      rintro e w2 ⟨rfl, rfl⟩
      go_wp2
      go_ret2
      exact ⟨rfl, g1⟩

theorem floor_ok (a b d : Int) (ha : Pl.i64 a) (hb : Pl.i64 b) (hd : Pl.i64 d) (h0 : d ≠ 0) (h : Pl.i64 (Pl.flo a b d)) (w : World) :
    Calls Try.prog 27 #[.int .i64 a, .int .i64 b, .int .i64 d] w fun e w' => e = .returned (.tuple #[.int .i64 (Pl.flo a b d), .bool true]) ∧ Grown w w' := by
  have hlt := Pl.flo_fits a b d ha hb hd h0 h
  have hD := Pl.mag_lt d h0
  have hD' := Pl.mag_le d hd.1 hd.2
  have hP : 0 ≤ Pl.mag a * Pl.mag b := Int.mul_nonneg (Pl.mag_nn a) (Pl.mag_nn b)
  have hq0 : 0 ≤ Pl.mag a * Pl.mag b / Pl.mag d := Int.ediv_nonneg hP (by omega)
  have hs : Pl.flo a b d = if Pl.sgn3 a b d = true then -Pl.flm (Pl.mag a * Pl.mag b) (Pl.mag d) (Pl.sgn3 a b d) else Pl.flm (Pl.mag a * Pl.mag b) (Pl.mag d) (Pl.sgn3 a b d) := rfl
  have hnb := Pl.flm_bd _ _ (Pl.sgn3 a b d) hP hD
  unfold Pl.i64 at h
  refine floor_core a b d _ _ (Pl.flm (Pl.mag a * Pl.mag b) (Pl.mag d) (Pl.sgn3 a b d)) _ (Pl.sgn3 a b d) (decide (Pl.sgn3 a b d = true ∧ 0 < Pl.mag a * Pl.mag b % Pl.mag d)) true true ha hb hd (Lib.hid rfl) (Lib.hid rfl) hP hD hD' hlt (Lib.hid rfl) (Lib.hid rfl) ?_ ?_ (fun h => by cases h) w
  · intro w
    by_cases hc : Pl.sgn3 a b d = true ∧ 0 < Pl.mag a * Pl.mag b % Pl.mag d
    · have hn : Pl.flm (Pl.mag a * Pl.mag b) (Pl.mag d) (Pl.sgn3 a b d) = Pl.mag a * Pl.mag b / Pl.mag d + 1 := by unfold Pl.flm; rw [if_pos hc]
      rw [decide_eq_true hc, hn]
      rw [hn] at hs
      refine more_up _ ⟨hq0, ?_⟩ w
      split at hs <;> omega
    · have hn : Pl.flm (Pl.mag a * Pl.mag b) (Pl.mag d) (Pl.sgn3 a b d) = Pl.mag a * Pl.mag b / Pl.mag d := by unfold Pl.flm; rw [if_neg hc]
      rw [decide_eq_false hc, hn]
      exact more_stay _ w
  · intro _ w
    cases hg : Pl.sgn3 a b d
    · simp only [hg, Bool.false_eq_true, if_false] at hs hnb
      rw [hs]
      exact signed_above _ (by omega) w
    · simp only [hg, if_true] at hs hnb
      rw [hs]
      exact signed_below _ (by omega) w

theorem floor_no (a b d : Int) (ha : Pl.i64 a) (hb : Pl.i64 b) (hd : Pl.i64 d) (h : d = 0 ∨ ¬ Pl.i64 (Pl.flo a b d)) (w : World) :
    Calls Try.prog 27 #[.int .i64 a, .int .i64 b, .int .i64 d] w fun e w' => e = .returned (.tuple #[.int .i64 0, .bool false]) ∧ Grown w w' := by
  have hP : 0 ≤ Pl.mag a * Pl.mag b := Int.mul_nonneg (Pl.mag_nn a) (Pl.mag_nn b)
  by_cases h0 : d = 0
  · subst h0
    exact floor_no0 a b 0 ha hb hd (by show (0 : Int) ≤ _; omega) w
  · by_cases hlt : Pl.mag a * Pl.mag b / 18446744073709551616 < Pl.mag d
    · have h := h.resolve_left h0
      have hD := Pl.mag_lt d h0
      have hD' := Pl.mag_le d hd.1 hd.2
      have hq0 : 0 ≤ Pl.mag a * Pl.mag b / Pl.mag d := Int.ediv_nonneg hP (by omega)
      have hq1 : Pl.mag a * Pl.mag b / Pl.mag d < 18446744073709551616 := (Int.ediv_lt_iff_lt_mul hD).2 (by omega)
      have hs : Pl.flo a b d = if Pl.sgn3 a b d = true then -Pl.flm (Pl.mag a * Pl.mag b) (Pl.mag d) (Pl.sgn3 a b d) else Pl.flm (Pl.mag a * Pl.mag b) (Pl.mag d) (Pl.sgn3 a b d) := rfl
      unfold Pl.i64 at h
      by_cases hc : Pl.sgn3 a b d = true ∧ 0 < Pl.mag a * Pl.mag b % Pl.mag d
      · have hn : Pl.flm (Pl.mag a * Pl.mag b) (Pl.mag d) (Pl.sgn3 a b d) = Pl.mag a * Pl.mag b / Pl.mag d + 1 := by unfold Pl.flm; rw [if_pos hc]
        rw [hn] at hs
        by_cases hov : Pl.mag a * Pl.mag b / Pl.mag d = 18446744073709551615
        · refine floor_core a b d _ _ 0 _ _ _ false false ha hb hd (Lib.hid rfl) (Lib.hid rfl) hP hD hD' hlt (Lib.hid rfl) (Lib.hid rfl) ?_ (fun h => by cases h) (fun _ => ⟨rfl, rfl⟩) w
          intro w
          rw [decide_eq_true hc, hov]
          exact more_over w
        · refine floor_core a b d _ _ (Pl.mag a * Pl.mag b / Pl.mag d + 1) _ _ _ true false ha hb hd (Lib.hid rfl) (Lib.hid rfl) hP hD hD' hlt (Lib.hid rfl) (Lib.hid rfl) ?_ ?_ (fun h => by cases h) w
          · intro w
            rw [decide_eq_true hc]
            exact more_up _ ⟨hq0, by omega⟩ w
          · intro _ w
            refine signed_no _ _ ?_ w
            cases hg : Pl.sgn3 a b d <;> simp only [hg, Bool.false_eq_true, if_false, if_true] at hs ⊢ <;> omega
      · have hn : Pl.flm (Pl.mag a * Pl.mag b) (Pl.mag d) (Pl.sgn3 a b d) = Pl.mag a * Pl.mag b / Pl.mag d := by unfold Pl.flm; rw [if_neg hc]
        rw [hn] at hs
        refine floor_core a b d _ _ (Pl.mag a * Pl.mag b / Pl.mag d) _ _ _ true false ha hb hd (Lib.hid rfl) (Lib.hid rfl) hP hD hD' hlt (Lib.hid rfl) (Lib.hid rfl) ?_ ?_ (fun h => by cases h) w
        · intro w
          rw [decide_eq_false hc]
          exact more_stay _ w
        · intro _ w
          refine signed_no _ _ ?_ w
          cases hg : Pl.sgn3 a b d <;> simp only [hg, Bool.false_eq_true, if_false, if_true] at hs ⊢ <;> omega
    · exact floor_no0 a b d ha hb hd (by omega) w
end Go.Proofs.Ytedidjdifobclaa
