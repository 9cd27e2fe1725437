/- The walks of the laws of layer 4 (turns) that have no reference: TurnRound, TurnRises, TurnCircle. -/
import Derived.Test.YtedidjdifobclaaW11
import Derived.Test.YtedidjdifobclaaPlLaw4
namespace Go.Proofs.Ytedidjdifobclaa
set_option linter.unusedVariables false
open Go.RowKit

theorem known4 (w : World) : Calls Try.prog 49 #[] w fun e w' => e = .returned (.bool true) ∧ Grown w w' := by
  have C1 := Lib.hid (fun w => dir_ok 1 0 (by omega) (by omega) (by omega) w)
  have C2 := Lib.hid (fun w => dir_ok 0 (-1) (by omega) (by omega) (by omega) w)
  have C3 := Lib.hid (fun w => sin_any 1966080 w)
  rw [show Pl.dir 1 0 = 5898240 from by decide +kernel] at C1
  rw [show Pl.dir 0 (-1) = 11796480 from by decide +kernel] at C2
  rw [show Pl.sin 1966080 = 32768 from by decide +kernel] at C3
  go_enter Try.func49, Try.ntmps49
  go_wp2_with fail
  refine (C1.out _).mono ?_
  rintro e w1 ⟨rfl, g1⟩
  go_wp2_with fail
  refine (C2.out _).mono ?_
  rintro e w2 ⟨rfl, g2⟩
  go_wp2_with fail
  refine (C3.out _).mono ?_
  rintro e w3 ⟨rfl, g3⟩
  go_wp2_with fail
  go_ret
  exact ⟨rfl, grown_trans g1 (grown_trans g2 g3)⟩

theorem bd32q {v : Int} (h : (Lit.int .i32 v).wf = true) : -2147483648 ≤ v ∧ v ≤ 2147483647 := by
  simp [Lit.wf, IntKind.min, IntKind.max, IntKind.signed, IntKind.bits] at h
  omega
theorem bd16q {v : Int} (h : (Lit.int .i16 v).wf = true) : -32768 ≤ v ∧ v ≤ 32767 := by
  simp [Lit.wf, IntKind.min, IntKind.max, IntKind.signed, IntKind.bits] at h
  omega
theorem bdu32q {v : Int} (h : (Lit.int .u32 v).wf = true) : 0 ≤ v ∧ v ≤ 4294967295 := by
  simp [Lit.wf, IntKind.min, IntKind.max, IntKind.signed, IntKind.bits] at h
  omega
theorem bdu16q {v : Int} (h : (Lit.int .u16 v).wf = true) : 0 ≤ v ∧ v ≤ 65535 := by
  simp [Lit.wf, IntKind.min, IntKind.max, IntKind.signed, IntKind.bits] at h
  omega
theorem bdu8q {v : Int} (h : (Lit.int .u8 v).wf = true) : 0 ≤ v ∧ v ≤ 255 := by
  simp [Lit.wf, IntKind.min, IntKind.max, IntKind.signed, IntKind.bits] at h
  omega
theorem bd64q {v : Int} (h : (Lit.int .i64 v).wf = true) : -9223372036854775808 ≤ v ∧ v ≤ 9223372036854775807 := by
  simp [Lit.wf, IntKind.min, IntKind.max, IntKind.signed, IntKind.bits] at h
  omega

set_option maxHeartbeats 1000000 in
theorem round_core (d t s c : Int) (hd : -2147483648 ≤ d ∧ d ≤ 2147483647) (ht : -32768 ≤ t ∧ t ≤ 32767) (hs : Hid (Pl.sin d = s)) (hc : Hid (Pl.cos d = c)) (w : World) :
    Calls Try.prog 16 #[.int .i32 d, .int .i16 t] w fun e w' => e = .returned (.bool true) ∧ Grown w w' := by
  obtain ⟨l1, l2, l3, l4, l5, l6, l7, l8⟩ := Pl.round_law d t
  have bs := Pl.sin_bd d
  have bc := Pl.cos_bd d
  rw [hs.out] at l1 l3 l5 l8 bs
  rw [hc.out] at l2 l4 l6 l7 bc
  have C1 := Lib.hid (fun w => sin_any d w)
  have C2 := Lib.hid (fun w => cos_any d w)
  have C3 := Lib.hid (fun w => sin_any (d + t * 360 * 65536) w)
  have C4 := Lib.hid (fun w => cos_any (d + t * 360 * 65536) w)
  have C5 := Lib.hid (fun w => sin_any (-d) w)
  have C6 := Lib.hid (fun w => cos_any (-d) w)
  have C7 := Lib.hid (fun w => sin_any (11796480 - d) w)
  have C8 := Lib.hid (fun w => cos_any (11796480 - d) w)
  have C9 := Lib.hid (fun w => sin_any (d + 5898240) w)
  have C10 := Lib.hid (fun w => cos_any (d + 5898240) w)
  rw [hs.out] at C1
  rw [hc.out] at C2
  rw [l1] at C3
  rw [l2] at C4
  rw [l3] at C5
  rw [l4] at C6
  rw [l5] at C7
  rw [l6] at C8
  rw [l7] at C9
  rw [l8] at C10
  have q1 : (s == s) = true := by simp
  have q2 : (c == c) = true := by simp
  have q3 : (-s == -s) = true := by simp
  have q4 : (-c == -c) = true := by simp
  clear l1 l2 l3 l4 l5 l6 l7 l8
  go_enter Try.func16, Try.ntmps16
  go_wp2_with fail
  refine (known4 _).mono ?_
  rintro e w1 ⟨rfl, g0⟩
  go_wp2_with fail
  refine (C1.out _).mono ?_
  rintro e w2 ⟨rfl, g1⟩
  go_wp2_with fail
  refine (C2.out _).mono ?_
  rintro e w3 ⟨rfl, g2⟩
  go_wp2_with fail
  refine (C3.out _).mono ?_
  rintro e w4 ⟨rfl, g3⟩
  go_wp2_with fail
  refine (C4.out _).mono ?_
  rintro e w5 ⟨rfl, g4⟩
  go_wp2_with fail
  refine (C5.out _).mono ?_
  rintro e w6 ⟨rfl, g5⟩
  go_wp2_with fail
  refine (C6.out _).mono ?_
  rintro e w7 ⟨rfl, g6⟩
  go_wp2_with fail
  refine (C7.out _).mono ?_
  rintro e w8 ⟨rfl, g7⟩
  go_wp2_with fail
  refine (C8.out _).mono ?_
  rintro e w9 ⟨rfl, g8⟩
  go_wp2_with fail
  refine (C9.out _).mono ?_
  rintro e w10 ⟨rfl, g9⟩
  go_wp2_with fail
  refine (C10.out _).mono ?_
  rintro e w11 ⟨rfl, g10⟩
  go_wp2_with fail
  go_ret
  exact ⟨rfl, grown_trans g0 (grown_trans g1 (grown_trans g2 (grown_trans g3 (grown_trans g4 (grown_trans g5 (grown_trans g6 (grown_trans g7 (grown_trans g8 (grown_trans g9 g10)))))))))⟩
theorem walk_TurnRound (d t : Int) (w0 : (Lit.int .i32 d).wf = true) (w1 : (Lit.int .i16 t).wf = true) (w : World) :
    Calls Try.prog 16 #[.int .i32 d, .int .i16 t] w fun e w' => e = .returned (.bool true) ∧ Grown w w' :=
  round_core d t _ _ (bd32q w0) (bd16q w1) (Lib.hid rfl) (Lib.hid rfl) w

theorem circle_core (d s c : Int) (hs : Hid (Pl.sin d = s)) (hc : Hid (Pl.cos d = c)) (w : World) :
    Calls Try.prog 18 #[.int .i64 d] w fun e w' => e = .returned (.bool true) ∧ Grown w w' := by
  have hl := Pl.circle_law d
  have bs := Pl.sin_bd d
  have bc := Pl.cos_bd d
  rw [hs.out, hc.out] at hl
  rw [hs.out] at bs
  rw [hc.out] at bc
  have C1 := Lib.hid (fun w => sin_any d w)
  have C2 := Lib.hid (fun w => cos_any d w)
  rw [hs.out] at C1
  rw [hc.out] at C2
  have p1 : 0 ≤ s * s ∧ s * s ≤ 4294967296 := by
    have := Pl.mul_mag s s
    have h1 : Pl.mag s ≤ 65536 := by unfold Pl.mag; split <;> omega
    have h2 := Int.mul_le_mul_of_nonneg_right h1 (Pl.mag_nn s)
    have h3 := Pl.sg_mul s s
    have h4 : s * s = Pl.mag s * Pl.mag s := by unfold Pl.mag; split; exact (Int.neg_mul_neg s s).symm; rfl
    have h5 := Int.mul_nonneg (Pl.mag_nn s) (Pl.mag_nn s)
    omega
  have p2 : 0 ≤ c * c ∧ c * c ≤ 4294967296 := by
    have h1 : Pl.mag c ≤ 65536 := by unfold Pl.mag; split <;> omega
    have h2 := Int.mul_le_mul_of_nonneg_right h1 (Pl.mag_nn c)
    have h4 : c * c = Pl.mag c * Pl.mag c := by unfold Pl.mag; split; exact (Int.neg_mul_neg c c).symm; rfl
    have h5 := Int.mul_nonneg (Pl.mag_nn c) (Pl.mag_nn c)
    omega
  go_enter Try.func18, Try.ntmps18
  go_wp2_with fail
  refine (known4 _).mono ?_
  rintro e w1 ⟨rfl, g0⟩
  go_wp2_with fail
  refine (C1.out _).mono ?_
  rintro e w2 ⟨rfl, g1⟩
  go_wp2_with fail
  refine (C2.out _).mono ?_
  rintro e w3 ⟨rfl, g2⟩
  go_wp2_with fail
  go_ret
  exact ⟨ret_bool (by first | rfl | (rw [decide_eq_true_eq]; omega)), grown_trans g0 (grown_trans g1 g2)⟩
theorem walk_TurnCircle (d : Int) (w0 : (Lit.int .i64 d).wf = true) (w : World) :
    Calls Try.prog 18 #[.int .i64 d] w fun e w' => e = .returned (.bool true) ∧ Grown w w' :=
  circle_core d _ _ (Lib.hid rfl) (Lib.hid rfl) w

/-- x, y: the two angles, the lesser first -/
theorem rises_core (a b x y : Int) (ha : 0 ≤ a ∧ a ≤ 4294967295) (hb : 0 ≤ b ∧ b ≤ 4294967295) (h : (b % 5898241 < a % 5898241 ∧ a % 5898241 = y ∧ b % 5898241 = x) ∨ (a % 5898241 ≤ b % 5898241 ∧ a % 5898241 = x ∧ b % 5898241 = y)) (w : World) :
    Calls Try.prog 17 #[.int .u32 a, .int .u32 b] w fun e w' => e = .returned (.bool true) ∧ Grown w w' := by
  obtain ⟨l1, l2, l3, l4⟩ := Pl.rises_law x y (by omega) (by omega) (by omega)
  have C1 := Lib.hid (fun w => sin_any x w)
  have C2 := Lib.hid (fun w => sin_any y w)
  have C3 := Lib.hid (fun w => cos_any x w)
  have C4 := Lib.hid (fun w => cos_any y w)
  generalize Pl.sin x = sx at *
  generalize Pl.sin y = sy at *
  generalize Pl.cos x = cx at *
  generalize Pl.cos y = cy at *
  rcases h with ⟨h1, h2, h3⟩ | ⟨h1, h2, h3⟩
  all_goals
    rw [h2, h3] at h1
    go_enter Try.func17, Try.ntmps17
    go_wp2_with fail
    refine (known4 _).mono ?_
    rintro e w1 ⟨rfl, g0⟩
    go_wp2_with fail
    refine (C1.out _).mono ?_
    rintro e w2 ⟨rfl, g1⟩
    go_wp2_with fail
    refine (C2.out _).mono ?_
    rintro e w3 ⟨rfl, g2⟩
    go_wp2_with fail
    refine (C3.out _).mono ?_
    rintro e w4 ⟨rfl, g3⟩
    go_wp2_with fail
    refine (C4.out _).mono ?_
    rintro e w5 ⟨rfl, g4⟩
    go_wp2_with fail
    refine (C1.out _).mono ?_
    rintro e w6 ⟨rfl, g5⟩
    go_wp2_with fail
    refine (C2.out _).mono ?_
    rintro e w7 ⟨rfl, g6⟩
    go_wp2_with fail
    go_ret
    exact ⟨ret_bool (by first | rfl | (rw [decide_eq_true_eq]; omega)), grown_trans g0 (grown_trans g1 (grown_trans g2 (grown_trans g3 (grown_trans g4 (grown_trans g5 g6)))))⟩
theorem walk_TurnRises (a b : Int) (w0 : (Lit.int .u32 a).wf = true) (w1 : (Lit.int .u32 b).wf = true) (w : World) :
    Calls Try.prog 17 #[.int .u32 a, .int .u32 b] w fun e w' => e = .returned (.bool true) ∧ Grown w w' := by
  by_cases h : b % 5898241 < a % 5898241
  · exact rises_core a b (b % 5898241) (a % 5898241) (bdu32q w0) (bdu32q w1) (.inl ⟨h, rfl, rfl⟩) w
  · exact rises_core a b (a % 5898241) (b % 5898241) (bdu32q w0) (bdu32q w1) (.inr ⟨by omega, rfl, rfl⟩) w
end Go.Proofs.Ytedidjdifobclaa
