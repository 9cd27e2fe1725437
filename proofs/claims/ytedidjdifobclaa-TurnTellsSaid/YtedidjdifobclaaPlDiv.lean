/- Knuth's long division by halves of words: the plain law, with no program in sight. -/
namespace Go.Proofs.Ytedidjdifobclaa
set_option linter.unusedVariables false

theorem Pl.kn_Y {y1 y0 Y : Int} (hY : Y = y1 * 4294967296 + y0) (h1 : 2147483648 ≤ y1) (h0 : 0 ≤ y0) : 0 < Y := by omega
/-- the quotient of a step is below 2^32 -/
theorem Pl.kn_lt {u v y1 y0 Y : Int} (hY : Y = y1 * 4294967296 + y0) (h1 : 2147483648 ≤ y1) (h0 : 0 ≤ y0) (hu : u < Y) (hv : v < 4294967296) :
    (u * 4294967296 + v) / Y < 4294967296 :=
  Int.ediv_lt_of_lt_mul (Pl.kn_Y hY h1 h0) (by omega)
theorem Pl.kn_start {u v y1 y0 Y : Int} (hY : Y = y1 * 4294967296 + y0) (h1 : 2147483648 ≤ y1) (h0 : 0 ≤ y0) (hu : 0 ≤ u) (hv : v < 4294967296) (hv0 : 0 ≤ v) :
    (u * 4294967296 + v) / Y ≤ u / y1 := by
  have pY := Pl.kn_Y hY h1 h0
  refine Int.le_ediv_of_mul_le (by omega) ?_
  have q0 : 0 ≤ (u * 4294967296 + v) / Y := Int.ediv_nonneg (by omega) (by omega)
  have hm : (u * 4294967296 + v) / Y * Y ≤ u * 4294967296 + v := Int.ediv_mul_le _ (by omega)
  generalize (u * 4294967296 + v) / Y = Q at *
  have e : Q * Y = Q * y1 * 4294967296 + Q * y0 := by rw [hY, Int.mul_add, ← Int.mul_assoc]
  have n : 0 ≤ Q * y0 := Int.mul_nonneg q0 h0
  generalize Q * y1 = p at *
  generalize Q * y0 = r at *
  omega
theorem Pl.kn_start_le {u y1 y0 Y : Int} (hY : Y = y1 * 4294967296 + y0) (h1 : 2147483648 ≤ y1) (h0 : y0 < 4294967296) (hu : u < Y) : u / y1 ≤ 4294967297 := by
  have : u / y1 < 4294967298 := Int.ediv_lt_of_lt_mul (by omega) (by omega)
  omega
/-- while the trial's quotient is too great -/
theorem Pl.kn_gt {u v y1 y0 Y q r : Int} (hY : Y = y1 * 4294967296 + y0) (h1 : 2147483648 ≤ y1) (h0 : 0 ≤ y0) (e : q * y1 + r = u) (h : 4294967296 * r + v < q * y0) :
    (u * 4294967296 + v) / Y < q := by
  refine Int.ediv_lt_of_lt_mul (Pl.kn_Y hY h1 h0) ?_
  have e2 : q * Y = q * y1 * 4294967296 + q * y0 := by rw [hY, Int.mul_add, ← Int.mul_assoc]
  rw [e2]
  generalize q * y1 = p at *
  generalize q * y0 = p' at *
  omega
theorem Pl.kn_le {u v y1 y0 Y q r : Int} (hY : Y = y1 * 4294967296 + y0) (h1 : 2147483648 ≤ y1) (h0 : 0 ≤ y0) (e : q * y1 + r = u) (h : q * y0 ≤ 4294967296 * r + v) :
    q ≤ (u * 4294967296 + v) / Y := by
  refine Int.le_ediv_of_mul_le (Pl.kn_Y hY h1 h0) ?_
  have e2 : q * Y = q * y1 * 4294967296 + q * y0 := by rw [hY, Int.mul_add, ← Int.mul_assoc]
  rw [e2]
  generalize q * y1 = p at *
  generalize q * y0 = p' at *
  omega
theorem Pl.kn_break {u v y1 y0 Y q r : Int} (hY : Y = y1 * 4294967296 + y0) (h1 : 2147483648 ≤ y1) (h0 : 0 ≤ y0) (h0' : y0 < 4294967296) (hv : 0 ≤ v) (e : q * y1 + r = u)
    (q0 : 0 ≤ q) (hq : q ≤ 4294967296) (hr : 4294967296 ≤ r) : q ≤ (u * 4294967296 + v) / Y := by
  refine Pl.kn_le hY h1 h0 e ?_
  have : q * y0 ≤ 4294967296 * 4294967295 := Int.mul_le_mul hq (by omega) h0 (by omega)
  omega
theorem Pl.kn_mul_le {q y0 : Int} (q0 : 0 ≤ q) (hq : q < 4294967296) (h0 : 0 ≤ y0) (h0' : y0 < 4294967296) : 0 ≤ q * y0 ∧ q * y0 ≤ 18446744065119617025 :=
  ⟨Int.mul_nonneg q0 h0, by have : q * y0 ≤ 4294967295 * 4294967295 := Int.mul_le_mul (by omega) (by omega) h0 (by omega); omega⟩

/-- both steps together: the quotient and the rest of the whole -/
theorem Pl.kn_two {H L Y v1 v0 : Int} (hY : 0 < Y) (hL : L = v1 * 4294967296 + v0) (h0 : 0 ≤ v0) (h0' : v0 < 4294967296) (h1 : 0 ≤ v1) (h1' : v1 < 4294967296) :
    (H * 18446744073709551616 + L) / Y = (H * 4294967296 + v1) / Y * 4294967296 + ((H * 4294967296 + v1) % Y * 4294967296 + v0) / Y ∧
    (H * 18446744073709551616 + L) % Y = ((H * 4294967296 + v1) % Y * 4294967296 + v0) % Y := by
  have e := Int.mul_ediv_add_emod (H * 4294967296 + v1) Y
  generalize (H * 4294967296 + v1) / Y = q1 at *
  generalize (H * 4294967296 + v1) % Y = r1 at *
  have k : H * 18446744073709551616 + L = (r1 * 4294967296 + v0) + (q1 * 4294967296) * Y := by
    have : q1 * 4294967296 * Y = Y * q1 * 4294967296 := by rw [Int.mul_comm (q1 * 4294967296) Y, ← Int.mul_assoc]
    rw [this]
    generalize Y * q1 = p at *
    omega
  rw [k]
  constructor
  · rw [Int.add_mul_ediv_right _ _ (by omega)]; omega
  · rw [Int.add_mul_emod_self_right]
/-- a scale on both sides -/
theorem Pl.kn_scale (U y k : Int) (hk : 0 < k) : (U * k) / (y * k) = U / y ∧ (U * k) % (y * k) / k = U % y := by
  refine ⟨Int.mul_ediv_mul_of_pos_left U y hk, ?_⟩
  rw [Int.mul_comm U k, Int.mul_comm y k, Int.mul_emod_mul_of_pos _ _ hk, Int.mul_ediv_cancel_left _ (by omega)]
/-- the dividend, moved up by s bits, in two words -/
theorem Pl.kn_words (hi lo K K' : Int) (hK : 0 < K) (hK' : 0 < K') (hKK : K * K' = 18446744073709551616) (h0 : 0 ≤ lo) (h1 : lo < 18446744073709551616) :
    (hi * 18446744073709551616 + lo) * K = (hi * K + lo / K') * 18446744073709551616 + lo * K % 18446744073709551616 := by
  have e : lo * K / 18446744073709551616 = lo / K' := by rw [← hKK, Int.mul_comm K K', Int.mul_ediv_mul_of_pos_left _ _ hK]
  have d := Int.mul_ediv_add_emod (lo * K) 18446744073709551616
  rw [e] at d
  rw [Int.add_mul, Int.add_mul, Int.mul_assoc, Int.mul_comm 18446744073709551616 K, ← Int.mul_assoc]
  generalize hi * K = a at *
  generalize lo * K = b at *
  generalize lo / K' = c at *
  omega
end Go.Proofs.Ytedidjdifobclaa
