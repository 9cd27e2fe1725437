/- The walk of tympanlaw1.WideNear: a share is as near as a whole number can be. -/
import Derived.Test.YtedidjdifobclaaL1
namespace Go.Proofs.Ytedidjdifobclaa
set_option linter.unusedVariables false
open Go.RowKit

set_option maxHeartbeats 4000000 in
theorem near_core (a b d q f : Int) (ha : -2147483648 ≤ a ∧ a ≤ 2147483647) (hb : -2147483648 ≤ b ∧ b ≤ 2147483647) (hd : -2147483648 ≤ d ∧ d ≤ 2147483647) (h0 : d ≠ 0)
    (hq : Hid (Pl.share a b d = q)) (hf : Hid (Pl.flo a b d = f)) (w : World) :
    Calls Try.prog 5 #[.int .i32 a, .int .i32 b, .int .i32 d] w fun e w' => e = .returned (.bool true) ∧ Grown w w' := by
  have hP := Pl.small_mul a b ha hb
  have hv : -4611686018427387904 ≤ a * b ∧ a * b ≤ 4611686018427387904 := by have := Pl.mul_mag a b; omega
  have hqb : -4611686018427387904 ≤ q ∧ q ≤ 4611686018427387904 := by have := Pl.share_bd a b d h0; rw [hq.out] at this; omega
  have hfb : -4611686018427387904 ≤ f ∧ f ≤ 4611686018427387904 := by have := Pl.flo_bd a b d h0; rw [hf.out] at this; omega
  have hs := Pl.share_near a b d h0
  have hl := Pl.flo_spec a b d h0
  rw [hq.out] at hs
  rw [hf.out] at hl
  have c1 : ∀ w, _ := fun w => muldiv_ok a b d (by unfold Pl.i64; omega) (by unfold Pl.i64; omega) (by unfold Pl.i64; omega) h0 (by rw [hq.out]; unfold Pl.i64; omega) w
  have c2 : ∀ w, _ := fun w => floor_ok a b d (by unfold Pl.i64; omega) (by unfold Pl.i64; omega) (by unfold Pl.i64; omega) h0 (by rw [hf.out]; unfold Pl.i64; omega) w
  rw [hq.out] at c1
  rw [hf.out] at c2
  have C1 := Lib.hid c1; clear c1
  have C2 := Lib.hid c2; clear c2
  have hd0 : (d == 0) = false := beq_eq_false_iff_ne.2 h0
  clear hP
  obtain ⟨x, hx⟩ : ∃ x, a * b = x := ⟨_, rfl⟩
  obtain ⟨y, hy⟩ : ∃ y, q * d = y := ⟨_, rfl⟩
  obtain ⟨z, hz⟩ : ∃ z, f * d = z := ⟨_, rfl⟩
  rw [hx] at hv hs hl
  rw [hy] at hs
  rw [hz] at hl
  have htie : ∀ h : q % 2 = 0, (q % 2 == 0) = true ∧ (q.tmod 2 == 0) = true := fun h => by
    refine ⟨beq_iff_eq.2 h, beq_iff_eq.2 ?_⟩
    exact Int.tmod_eq_zero_of_dvd (Int.dvd_of_emod_eq_zero h)
  have hcase : ((Pl.mag d ≤ 2 * (x - y) ∧ 2 * (x - y) ≤ Pl.mag d) ∧ (q % 2 == 0) = true ∧ (q.tmod 2 == 0) = true) ∨ ((Pl.mag d ≤ -(2 * (x - y)) ∧ -(2 * (x - y)) ≤ Pl.mag d) ∧ (q % 2 == 0) = true ∧ (q.tmod 2 == 0) = true) ∨ (-Pl.mag d < 2 * (x - y) ∧ 2 * (x - y) < Pl.mag d) := by
    by_cases c1 : 2 * (x - y) = Pl.mag d
    · exact .inl ⟨by omega, htie (hs.2.2 (.inl c1))⟩
    · by_cases c2 : 2 * (x - y) = -Pl.mag d
      · exact .inr (.inl ⟨by omega, htie (hs.2.2 (.inr c2))⟩)
      · exact .inr (.inr ⟨by omega, by omega⟩)
  clear hs htie
  have hsg : y < x ∨ x < y ∨ (x ≤ y ∧ y ≤ x) := by omega
  by_cases hn : d < 0
  · have hl := hl.2 hn
    rw [Pl.mag_neg hn] at hcase
    rcases hcase with ⟨t1, t2, t3⟩ | ⟨t1, t2, t3⟩ | ⟨t1, t2⟩ <;> rcases hsg with s1 | s1 | ⟨s1, s2⟩
    all_goals first | (exfalso; omega) | skip
    case' inl.inl => have t4 : (x - y == -d - (x - y)) = true := beq_iff_eq.2 (by omega)
    all_goals
      go_enter Try.func5, Try.ntmps5
      go_wp2_with fail
      refine (known1 _).mono ?_
      rintro e w1 ⟨rfl, g1⟩
      go_wp2_with fail
      refine (C1.out _).mono ?_
      rintro e w2 ⟨rfl, g2⟩
      go_wp2_with fail
      refine (C2.out _).mono ?_
      rintro e w3 ⟨rfl, g3⟩
      go_wp2_with fail
      go_ret
      exact ⟨rfl, grown_trans g1 (grown_trans g2 g3)⟩
  · have hl := hl.1 (by omega)
    rw [Pl.mag_pos (by omega)] at hcase
    rcases hcase with ⟨t1, t2, t3⟩ | ⟨t1, t2, t3⟩ | ⟨t1, t2⟩ <;> rcases hsg with s1 | s1 | ⟨s1, s2⟩
    all_goals first | (exfalso; omega) | skip
    case' inl.inl => have t4 : (x - y == d - (x - y)) = true := beq_iff_eq.2 (by omega)
    case' inr.inl.inr.inl => have t4 : (-(x - y) == d - -(x - y)) = true := beq_iff_eq.2 (by omega)
    all_goals
      go_enter Try.func5, Try.ntmps5
      go_wp2_with fail
      refine (known1 _).mono ?_
      rintro e w1 ⟨rfl, g1⟩
      go_wp2_with fail
      refine (C1.out _).mono ?_
      rintro e w2 ⟨rfl, g2⟩
      go_wp2_with fail
      refine (C2.out _).mono ?_
      rintro e w3 ⟨rfl, g3⟩
      go_wp2_with fail
      go_ret
      exact ⟨rfl, grown_trans g1 (grown_trans g2 g3)⟩
end Go.Proofs.Ytedidjdifobclaa
