/- The walk of tympanlaw4.TurnFound. -/
import Derived.Test.YtedidjdifobclaaL4
import Derived.Test.YtedidjdifobclaaPlLaw4b
namespace Go.Proofs.Ytedidjdifobclaa
set_option linter.unusedVariables false
open Go.RowKit

set_option maxHeartbeats 8000000 in
/-- d: the whole degree; s, c: its sine and cosine; b, t: the direction and the quarter -/
theorem found_core (deg y x t d s c b : Int) (hdeg : 0 ≤ deg ∧ deg ≤ 65535) (hy : -32768 ≤ y ∧ y ≤ 32767) (hx : -32768 ≤ x ∧ x ≤ 32767) (ht : 0 ≤ t ∧ t ≤ 255)
    (hd : deg % 360 * 65536 = d) (hs : Hid (Pl.sin d = s)) (hc : Hid (Pl.cos d = c)) (bs : -65536 ≤ s ∧ s ≤ 65536) (bc : -65536 ≤ c ∧ c ≤ 65536)
    (CD : Hid (∀ w, Calls Try.prog 52 #[.int .i64 s, .int .i64 c] w fun e w' => e = .returned (.tuple #[.int .i64 d, .bool true]) ∧ Grown w w'))
    (CB : Hid (∀ w, Calls Try.prog 52 #[.int .i64 y, .int .i64 x] w fun e w' => e = .returned (.tuple #[.int .i64 b, .bool true]) ∧ Grown w w'))
    (CC : Hid (∀ w, Calls Try.prog 52 #[.int .i64 (y * (t + 1)), .int .i64 (x * (t + 1))] w fun e w' => e = .returned (.tuple #[.int .i64 b, .bool true]) ∧ Grown w w'))
    (by1 : -8388608 ≤ y * (t + 1) ∧ y * (t + 1) ≤ 8388608) (bx1 : -8388608 ≤ x * (t + 1) ∧ x * (t + 1) ≤ 8388608)
    (hn : ((y == 0) = false) ∨ ((y == 0) = true ∧ (x == 0) = false)) (hbb : 0 ≤ b ∧ b < 23592960) (q f : Int)
    (hq : (q = 0 ∧ f = 5898240 ∧ 0 < x ∧ 0 ≤ y) ∨ (q = 1 ∧ f = 11796480 ∧ x ≤ 0 ∧ 0 < y) ∨ (q = 2 ∧ f = 17694720 ∧ x < 0 ∧ y ≤ 0) ∨ (q = 3 ∧ f = 0 ∧ 0 ≤ x ∧ y < 0))
    (hw : (b / 5898240 == q) = true ∨ ((b / 5898240 == q) = false ∧ (b == f) = true)) (w : World) :
    Calls Try.prog 19 #[.int .u16 deg, .int .i16 y, .int .i16 x, .int .u8 t] w fun e w' => e = .returned (.bool true) ∧ Grown w w' := by
  have C1 := Lib.hid (fun w => sin_any d w)
  have C2 := Lib.hid (fun w => cos_any d w)
  rw [hs.out] at C1
  rw [hc.out] at C2
  have dd : (d != d) = false := by simp
  have bb : (b == b) = true := by simp
  rcases hq with ⟨rfl, rfl, q1, q2⟩ | ⟨rfl, rfl, q1, q2⟩ | ⟨rfl, rfl, q1, q2⟩ | ⟨rfl, rfl, q1, q2⟩ <;> rcases hw with hw | ⟨hw, hw2⟩ <;> rcases hn with hn | ⟨hn, hn2⟩
  all_goals
    go_enter Try.func19, Try.ntmps19
    go_wp2_with fail
    refine (known4 _).mono ?_
    rintro e w1 ⟨rfl, g0⟩
    go_wp2_with fail
    refine (C1.out _).mono ?_
    rintro e w2 ⟨rfl, g1⟩
    go_wp2_with fail
    refine (C2.out _).mono ?_
    rintro e w3 ⟨rfl, g2⟩
    go_wp2_with fail
    refine (CD.out _).mono ?_
    rintro e w4 ⟨rfl, g3⟩
    go_wp2_with fail
    refine (CB.out _).mono ?_
    rintro e w5 ⟨rfl, g4⟩
    go_wp2_with fail
    refine (CC.out _).mono ?_
    rintro e w6 ⟨rfl, g5⟩
    go_wp2_with fail
    all_goals (go_ret; exact ⟨ret_bool (by first | rfl | assumption), grown_trans g0 (grown_trans g1 (grown_trans g2 (grown_trans g3 (grown_trans g4 g5))))⟩)

theorem found_zero (deg t d s c : Int) (hdeg : 0 ≤ deg ∧ deg ≤ 65535) (ht : 0 ≤ t ∧ t ≤ 255)
    (hd : deg % 360 * 65536 = d) (hs : Hid (Pl.sin d = s)) (hc : Hid (Pl.cos d = c)) (bs : -65536 ≤ s ∧ s ≤ 65536) (bc : -65536 ≤ c ∧ c ≤ 65536)
    (CD : Hid (∀ w, Calls Try.prog 52 #[.int .i64 s, .int .i64 c] w fun e w' => e = .returned (.tuple #[.int .i64 d, .bool true]) ∧ Grown w w')) (w : World) :
    Calls Try.prog 19 #[.int .u16 deg, .int .i16 0, .int .i16 0, .int .u8 t] w fun e w' => e = .returned (.bool true) ∧ Grown w w' := by
  have C1 := Lib.hid (fun w => sin_any d w)
  have C2 := Lib.hid (fun w => cos_any d w)
  rw [hs.out] at C1
  rw [hc.out] at C2
  have CZ := Lib.hid (fun w => dir_no 0 0 (.inl ⟨rfl, rfl⟩) w)
  have dd : (d != d) = false := by simp
  go_enter Try.func19, Try.ntmps19
  go_wp2_with fail
  refine (known4 _).mono ?_
  rintro e w1 ⟨rfl, g0⟩
  go_wp2_with fail
  refine (C1.out _).mono ?_
  rintro e w2 ⟨rfl, g1⟩
  go_wp2_with fail
  refine (C2.out _).mono ?_
  rintro e w3 ⟨rfl, g2⟩
  go_wp2_with fail
  refine (CD.out _).mono ?_
  rintro e w4 ⟨rfl, g3⟩
  go_wp2_with fail
  refine (CZ.out _).mono ?_
  rintro e w5 ⟨rfl, g4⟩
  go_wp2_with fail
  refine (CZ.out _).mono ?_
  rintro e w6 ⟨rfl, g5⟩
  go_wp2_with fail
  go_ret
  exact ⟨rfl, grown_trans g0 (grown_trans g1 (grown_trans g2 (grown_trans g3 (grown_trans g4 g5))))⟩

theorem degree_dir (deg : Int) (h : 0 ≤ deg ∧ deg ≤ 65535) (w : World) :
    Calls Try.prog 52 #[.int .i64 (Pl.sin (deg % 360 * 65536)), .int .i64 (Pl.cos (deg % 360 * 65536))] w fun e w' => e = .returned (.tuple #[.int .i64 (deg % 360 * 65536), .bool true]) ∧ Grown w w' := by
  have b1 := Pl.sin_bd (deg % 360 * 65536)
  have b2 := Pl.cos_bd (deg % 360 * 65536)
  have hcl := Pl.circle_law (deg % 360 * 65536)
  have hk := Pl.dir_degree (deg % 360).toNat (by omega)
  have e : ((deg % 360).toNat : Int) = deg % 360 := by omega
  rw [e] at hk
  have := dir_ok (Pl.sin (deg % 360 * 65536)) (Pl.cos (deg % 360 * 65536)) (by omega) (by omega) (fun h0 => by
    rw [h0.1, h0.2] at hcl
    simp at hcl) w
  rw [hk] at this
  exact this

theorem walk_TurnFound (deg y x t : Int) (w0 : (Lit.int .u16 deg).wf = true) (w1 : (Lit.int .i16 y).wf = true) (w2 : (Lit.int .i16 x).wf = true) (w3 : (Lit.int .u8 t).wf = true) (w : World) :
    Calls Try.prog 19 #[.int .u16 deg, .int .i16 y, .int .i16 x, .int .u8 t] w fun e w' => e = .returned (.bool true) ∧ Grown w w' := by
  have hdeg := bdu16q w0
  have hy := bd16q w1
  have hx := bd16q w2
  have ht := bdu8q w3
  by_cases hz : y = 0 ∧ x = 0
  · obtain ⟨rfl, rfl⟩ := hz
    exact found_zero deg t _ _ _ hdeg ht rfl (Lib.hid rfl) (Lib.hid rfl) (Pl.sin_bd _) (Pl.cos_bd _) (Lib.hid (degree_dir deg hdeg)) w
  · have m1 : -8388608 ≤ y * (t + 1) ∧ y * (t + 1) ≤ 8388608 := by
      have := Pl.mul_mag y (t + 1)
      have h1 : Pl.mag y * Pl.mag (t + 1) ≤ 32768 * Pl.mag (t + 1) := Int.mul_le_mul_of_nonneg_right (by unfold Pl.mag; split <;> omega) (Pl.mag_nn _)
      have h2 : Pl.mag (t + 1) ≤ 256 := by unfold Pl.mag; split <;> omega
      omega
    have m2 : -8388608 ≤ x * (t + 1) ∧ x * (t + 1) ≤ 8388608 := by
      have := Pl.mul_mag x (t + 1)
      have h1 : Pl.mag x * Pl.mag (t + 1) ≤ 32768 * Pl.mag (t + 1) := Int.mul_le_mul_of_nonneg_right (by unfold Pl.mag; split <;> omega) (Pl.mag_nn _)
      have h2 : Pl.mag (t + 1) ≤ 256 := by unfold Pl.mag; split <;> omega
      omega
    have hz2 : ¬ (y * (t + 1) = 0 ∧ x * (t + 1) = 0) := by
      intro h
      have a := Pl.pos_mul y (t + 1) (by omega)
      have b := Pl.pos_mul x (t + 1) (by omega)
      omega
    have CC := Lib.hid (fun w => dir_ok (y * (t + 1)) (x * (t + 1)) (by omega) (by omega) hz2 w)
    rw [Pl.dir_mul y x (t + 1) (by omega)] at CC
    have hq := Pl.dir_quarter y x
    have hbc := Pl.begin_cases y x
    have hb : Pl.begin y x = if 0 < x ∧ 0 ≤ y then 0 else if x ≤ 0 ∧ 0 < y then 5898240 else if x < 0 then 11796480 else 17694720 := rfl
    refine found_core deg y x t _ _ _ (Pl.dir y x) hdeg hy hx ht rfl (Lib.hid rfl) (Lib.hid rfl) (Pl.sin_bd _) (Pl.cos_bd _) (Lib.hid (degree_dir deg hdeg)) (Lib.hid (fun w => dir_ok y x (by omega) (by omega) hz w)) CC m1 m2 ?_ (by omega)
      (Pl.begin y x / 5898240) ((Pl.begin y x + 5898240) % 23592960) ?_ ?_ w
    · by_cases h0 : y = 0
      · exact .inr ⟨beq_iff_eq.2 h0, beq_eq_false_iff_ne.2 (fun h1 => hz ⟨h0, h1⟩)⟩
      · exact .inl (beq_eq_false_iff_ne.2 h0)
    · rw [hb]
      by_cases c1 : 0 < x ∧ 0 ≤ y
      · rw [if_pos c1]; exact .inl ⟨by decide, by decide, c1.1, c1.2⟩
      · rw [if_neg c1]
        by_cases c2 : x ≤ 0 ∧ 0 < y
        · rw [if_pos c2]; exact .inr (.inl ⟨by decide, by decide, c2.1, c2.2⟩)
        · rw [if_neg c2]
          by_cases c3 : x < 0
          · rw [if_pos c3]; exact .inr (.inr (.inl ⟨by decide, by decide, c3, by omega⟩))
          · rw [if_neg c3]; exact .inr (.inr (.inr ⟨by decide, by decide, by omega, by omega⟩))
    · by_cases h1 : Pl.dir y x / 5898240 = Pl.begin y x / 5898240
      · exact .inl (beq_iff_eq.2 h1)
      · exact .inr ⟨beq_eq_false_iff_ne.2 h1, beq_iff_eq.2 (by omega)⟩
end Go.Proofs.Ytedidjdifobclaa
