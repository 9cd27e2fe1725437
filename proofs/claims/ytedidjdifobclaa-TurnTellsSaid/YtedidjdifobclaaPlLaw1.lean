/- Plain facts on shares: as near as can be, not above, there and back. -/
import Derived.Test.YtedidjdifobclaaPlWide
namespace Go.Proofs.Ytedidjdifobclaa.Pl
set_option linter.unusedVariables false

/-- a number is its size with its sign -/
theorem sgn_cases (v : Int) : ∃ s : Int, (s = 1 ∧ decide (v < 0) = false ∨ s = -1 ∧ decide (v < 0) = true) ∧ v = s * mag v ∧ mag v = s * v := by
  by_cases h : v < 0
  · exact ⟨-1, .inr ⟨rfl, decide_eq_true h⟩, by rw [mag_neg h]; omega, by rw [mag_neg h]; omega⟩
  · exact ⟨1, .inl ⟨rfl, decide_eq_false h⟩, by rw [mag_pos (by omega)]; omega, by rw [mag_pos (by omega)]; omega⟩

/-- what is left over of a share with a size n -/
theorem left_over (a b d n : Int) : ∃ s t : Int, (s = 1 ∨ s = -1) ∧ (t = 1 ∨ t = -1) ∧ a * b = s * (mag a * mag b) ∧ d = t * mag d ∧ (if sgn3 a b d = true then s = -t else s = t) ∧
    a * b - (if sgn3 a b d = true then -n else n) * d = s * (mag a * mag b - n * mag d) := by
  obtain ⟨s1, h1, e1, _⟩ := sgn_cases a
  obtain ⟨s2, h2, e2, _⟩ := sgn_cases b
  obtain ⟨s3, h3, e3, _⟩ := sgn_cases d
  have es : sgn3 a b d = ((decide (a < 0) != decide (b < 0)) != decide (d < 0)) := rfl
  refine ⟨s1 * s2, s3, ?_, ?_, ?_, e3, ?_, ?_⟩
  · rcases h1 with ⟨rfl, _⟩ | ⟨rfl, _⟩ <;> rcases h2 with ⟨rfl, _⟩ | ⟨rfl, _⟩ <;> simp
  · rcases h3 with ⟨rfl, _⟩ | ⟨rfl, _⟩ <;> simp
  · conv => lhs; rw [e1, e2]
    rw [Int.mul_assoc, Int.mul_assoc, ← Int.mul_assoc (mag a), Int.mul_comm (mag a) s2, Int.mul_assoc s2]
  · rcases h1 with ⟨rfl, g1⟩ | ⟨rfl, g1⟩ <;> rcases h2 with ⟨rfl, g2⟩ | ⟨rfl, g2⟩ <;> rcases h3 with ⟨rfl, g3⟩ | ⟨rfl, g3⟩ <;> rw [es, g1, g2, g3] <;> decide
  · have e4 : a * b = s1 * s2 * (mag a * mag b) := by
      conv => lhs; rw [e1, e2]
      rw [Int.mul_assoc, Int.mul_assoc, ← Int.mul_assoc (mag a), Int.mul_comm (mag a) s2, Int.mul_assoc s2]
    rw [e4]
    conv => lhs; rhs; rhs; rw [e3]
    rcases h1 with ⟨rfl, g1⟩ | ⟨rfl, g1⟩ <;> rcases h2 with ⟨rfl, g2⟩ | ⟨rfl, g2⟩ <;> rcases h3 with ⟨rfl, g3⟩ | ⟨rfl, g3⟩ <;> rw [es, g1, g2, g3] <;> simp [Int.neg_mul, Int.mul_neg] <;> omega

/-- the nearest one, by sizes -/
theorem near_spec (N D : Int) (hN : 0 ≤ N) (hD : 0 < D) : -D ≤ 2 * (N - near N D * D) ∧ 2 * (N - near N D * D) ≤ D ∧ ((2 * (N - near N D * D) = D ∨ 2 * (N - near N D * D) = -D) → near N D % 2 = 0) := by
  have h1 := Int.mul_ediv_add_emod N D
  have h2 := Int.emod_nonneg N (show D ≠ 0 by omega)
  have h3 := Int.emod_lt_of_pos N hD
  have e : near N D = if D - N % D < N % D ∨ (N % D = D - N % D ∧ N / D % 2 = 1) then N / D + 1 else N / D := rfl
  rw [e]
  generalize N / D = q at *
  generalize N % D = r at *
  have hm : (q + 1) * D = D * q + D := by rw [Int.add_mul, Int.mul_comm]; omega
  have hm' : q * D = D * q := Int.mul_comm _ _
  split
  · rw [hm]; generalize D * q = z at *; omega
  · rw [hm']; generalize D * q = z at *; omega

theorem share_near (a b d : Int) (h0 : d ≠ 0) : -mag d ≤ 2 * (a * b - share a b d * d) ∧ 2 * (a * b - share a b d * d) ≤ mag d ∧
    ((2 * (a * b - share a b d * d) = mag d ∨ 2 * (a * b - share a b d * d) = -mag d) → share a b d % 2 = 0) := by
  obtain ⟨s, t, hs, _, _, _, _, e⟩ := left_over a b d (near (mag a * mag b) (mag d))
  have hn := near_spec (mag a * mag b) (mag d) (Int.mul_nonneg (mag_nn a) (mag_nn b)) (mag_lt d h0)
  have ed : share a b d = if sgn3 a b d = true then -near (mag a * mag b) (mag d) else near (mag a * mag b) (mag d) := rfl
  rw [← ed] at e
  have ep : share a b d % 2 = 0 ↔ near (mag a * mag b) (mag d) % 2 = 0 := by rw [ed]; split <;> omega
  rw [e]
  rcases hs with rfl | rfl
  · rw [Int.one_mul]; refine ⟨hn.1, hn.2.1, fun h => ep.2 (hn.2.2 h)⟩
  · rw [Int.neg_mul, Int.one_mul]; refine ⟨by omega, by omega, fun h => ep.2 (hn.2.2 (by omega))⟩

theorem flo_spec (a b d : Int) (h0 : d ≠ 0) : (0 < d → 0 ≤ a * b - flo a b d * d ∧ a * b - flo a b d * d < d) ∧ (d < 0 → 0 ≤ -(a * b - flo a b d * d) ∧ -(a * b - flo a b d * d) < -d) := by
  obtain ⟨s, t, hs, ht, _, ed, hst, e⟩ := left_over a b d (flm (mag a * mag b) (mag d) (sgn3 a b d))
  have ef : flo a b d = if sgn3 a b d = true then -flm (mag a * mag b) (mag d) (sgn3 a b d) else flm (mag a * mag b) (mag d) (sgn3 a b d) := rfl
  rw [← ef] at e
  have hD := mag_lt d h0
  have hP : 0 ≤ mag a * mag b := Int.mul_nonneg (mag_nn a) (mag_nn b)
  have h1 := Int.mul_ediv_add_emod (mag a * mag b) (mag d)
  have h2 := Int.emod_nonneg (mag a * mag b) (show mag d ≠ 0 by omega)
  have h3 := Int.emod_lt_of_pos (mag a * mag b) hD
  have em : flm (mag a * mag b) (mag d) (sgn3 a b d) = if sgn3 a b d = true ∧ 0 < (mag a * mag b) % (mag d) then (mag a * mag b) / (mag d) + 1 else (mag a * mag b) / (mag d) := rfl
  rw [e, em]
  generalize mag a * mag b = P at *
  generalize mag d = D at *
  generalize P / D = q at *
  generalize P % D = r at *
  have hm : (q + 1) * D = D * q + D := by rw [Int.add_mul, Int.mul_comm]; omega
  have hm' : q * D = D * q := Int.mul_comm _ _
  cases hg : sgn3 a b d <;> simp only [hg, Bool.false_eq_true, if_false, if_true, false_and, true_and] at hst ⊢
  · subst hst
    rw [hm']
    rcases hs with rfl | rfl <;> simp only [Int.one_mul, Int.neg_mul] at * <;> generalize D * q = z at * <;> omega
  · subst hst
    split
    · rw [hm]
      rcases ht with rfl | rfl <;> simp only [Int.one_mul, Int.neg_mul, Int.neg_neg] at * <;> generalize D * q = z at * <;> omega
    · rw [hm']
      rcases ht with rfl | rfl <;> simp only [Int.one_mul, Int.neg_mul, Int.neg_neg] at * <;> generalize D * q = z at * <;> omega

/-- of small numbers: the shares are no greater than the product -/
theorem near_le (N D : Int) (hN : 0 ≤ N) (hD : 0 < D) : 0 ≤ near N D ∧ near N D ≤ N := by
  have h0 : 0 ≤ N / D := Int.ediv_nonneg hN (by omega)
  have h1 := Int.mul_ediv_add_emod N D
  have h2 := Int.emod_nonneg N (show D ≠ 0 by omega)
  have h3 := Int.emod_lt_of_pos N hD
  have e : near N D = if D - N % D < N % D ∨ (N % D = D - N % D ∧ N / D % 2 = 1) then N / D + 1 else N / D := rfl
  rw [e]
  generalize N / D = q at *
  generalize N % D = r at *
  have hm : q ≤ D * q := by
    have := Int.mul_le_mul_of_nonneg_right (show (1 : Int) ≤ D by omega) h0
    omega
  split <;> omega
theorem flm_le (N D : Int) (s : Bool) (hN : 0 ≤ N) (hD : 0 < D) : 0 ≤ flm N D s ∧ flm N D s ≤ N := by
  have h0 : 0 ≤ N / D := Int.ediv_nonneg hN (by omega)
  have h1 := Int.mul_ediv_add_emod N D
  have h2 := Int.emod_nonneg N (show D ≠ 0 by omega)
  have h3 := Int.emod_lt_of_pos N hD
  have e : flm N D s = if s = true ∧ 0 < N % D then N / D + 1 else N / D := rfl
  rw [e]
  generalize N / D = q at *
  generalize N % D = r at *
  have hm : q ≤ D * q := by
    have := Int.mul_le_mul_of_nonneg_right (show (1 : Int) ≤ D by omega) h0
    omega
  split <;> omega
theorem share_bd (a b d : Int) (h0 : d ≠ 0) : -(mag a * mag b) ≤ share a b d ∧ share a b d ≤ mag a * mag b := by
  have h := near_le (mag a * mag b) (mag d) (Int.mul_nonneg (mag_nn a) (mag_nn b)) (mag_lt d h0)
  unfold share; split <;> omega
theorem flo_bd (a b d : Int) (h0 : d ≠ 0) : -(mag a * mag b) ≤ flo a b d ∧ flo a b d ≤ mag a * mag b := by
  have h := flm_le (mag a * mag b) (mag d) (sgn3 a b d) (Int.mul_nonneg (mag_nn a) (mag_nn b)) (mag_lt d h0)
  unfold flo; split <;> omega

theorem small_mul (a b : Int) (ha : -2147483648 ≤ a ∧ a ≤ 2147483647) (hb : -2147483648 ≤ b ∧ b ≤ 2147483647) : 0 ≤ mag a * mag b ∧ mag a * mag b ≤ 4611686018427387904 := by
  have h1 : mag a ≤ 2147483648 := by unfold mag; split <;> omega
  have h2 : mag b ≤ 2147483648 := by unfold mag; split <;> omega
  refine ⟨Int.mul_nonneg (mag_nn a) (mag_nn b), ?_⟩
  have h3 : mag a * mag b ≤ 2147483648 * mag b := Int.mul_le_mul_of_nonneg_right h1 (mag_nn b)
  omega
theorem mul_mag (a b : Int) : -(mag a * mag b) ≤ a * b ∧ a * b ≤ mag a * mag b := by
  obtain ⟨s, t, hs, _, e, _⟩ := left_over a b 1 0
  have h0 : 0 ≤ mag a * mag b := Int.mul_nonneg (mag_nn a) (mag_nn b)
  rw [e]
  rcases hs with rfl | rfl
  · rw [Int.one_mul]; omega
  · rw [Int.neg_mul, Int.one_mul]; omega

theorem share_self (a d : Int) (h0 : d ≠ 0) : share a d d = a := by
  have hD := mag_lt d h0
  have e : sgn3 a d d = decide (a < 0) := by unfold sgn3; cases decide (a < 0) <;> cases decide (d < 0) <;> rfl
  have en : near (mag a * mag d) (mag d) = mag a := by
    unfold near
    rw [Int.mul_emod_left, Int.mul_ediv_cancel _ (by omega), if_neg (by omega)]
  unfold share
  rw [en, e]
  unfold mag
  by_cases h : a < 0 <;> simp [h]
theorem flo_self (a d : Int) (h0 : d ≠ 0) : flo d a d = a := by
  have hD := mag_lt d h0
  have e : sgn3 d a d = decide (a < 0) := by unfold sgn3; cases decide (a < 0) <;> cases decide (d < 0) <;> rfl
  have en : ∀ s, flm (mag d * mag a) (mag d) s = mag a := by
    intro s
    unfold flm
    rw [Int.mul_emod_right, Int.mul_ediv_cancel_left _ (by omega), if_neg (by omega)]
  unfold flo
  rw [en, e]
  unfold mag
  by_cases h : a < 0 <;> simp [h]
end Go.Proofs.Ytedidjdifobclaa.Pl
