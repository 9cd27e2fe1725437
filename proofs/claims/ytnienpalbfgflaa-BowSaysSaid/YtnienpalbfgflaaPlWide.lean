/- Plain facts on products of two numbers and on shares: no program in sight. -/
namespace Go.Proofs.Ytnienpalbfgflaa.Pl
set_option linter.unusedVariables false

/-- how far a number lies from 0 -/
def mag (v : Int) : Int := if v < 0 then -v else v
theorem mag_nn (v : Int) : 0 ≤ mag v := by unfold mag; split <;> omega
theorem mag_le (v : Int) (h0 : -9223372036854775808 ≤ v) (h1 : v ≤ 9223372036854775807) : mag v ≤ 9223372036854775808 := by unfold mag; split <;> omega

theorem prod_parts (a b mid : Int)
    (hm : mid = (a % 4294967296) * (b % 4294967296) / 4294967296 + (a / 4294967296) * (b % 4294967296) % 4294967296 + (a % 4294967296) * (b / 4294967296) % 4294967296) :
    (a / 4294967296) * (b / 4294967296) + (a / 4294967296) * (b % 4294967296) / 4294967296 + (a % 4294967296) * (b / 4294967296) / 4294967296 + mid / 4294967296 = a * b / 18446744073709551616
    ∧ mid % 4294967296 * 4294967296 + (a % 4294967296) * (b % 4294967296) % 4294967296 = a * b % 18446744073709551616 := by
  have e : a * b = (a / 4294967296) * (b / 4294967296) * 18446744073709551616 + ((a / 4294967296) * (b % 4294967296) + (a % 4294967296) * (b / 4294967296)) * 4294967296 + (a % 4294967296) * (b % 4294967296) := by
    have h1 : a = 4294967296 * (a / 4294967296) + a % 4294967296 := (Int.mul_ediv_add_emod a 4294967296).symm
    have h2 : b = 4294967296 * (b / 4294967296) + b % 4294967296 := (Int.mul_ediv_add_emod b 4294967296).symm
    generalize a / 4294967296 = x at *
    generalize a % 4294967296 = y at *
    generalize b / 4294967296 = z at *
    generalize b % 4294967296 = u at *
    rw [h1, h2]
    rw [Int.add_mul, Int.mul_add, Int.mul_add]
    have g1 : 4294967296 * x * (4294967296 * z) = 18446744073709551616 * (x * z) := by
      rw [Int.mul_assoc, ← Int.mul_assoc x, Int.mul_comm x 4294967296, Int.mul_assoc 4294967296 x z, ← Int.mul_assoc]; rfl
    have g2 : 4294967296 * x * u = 4294967296 * (x * u) := Int.mul_assoc _ _ _
    have g3 : y * (4294967296 * z) = 4294967296 * (y * z) := by rw [← Int.mul_assoc, Int.mul_comm y, Int.mul_assoc]
    rw [g1, g2, g3]
    omega
  rw [e, hm]
  generalize (a / 4294967296) * (b / 4294967296) = p3
  generalize (a / 4294967296) * (b % 4294967296) = p1
  generalize (a % 4294967296) * (b / 4294967296) = p2
  generalize (a % 4294967296) * (b % 4294967296) = p0
  omega

theorem mul_lt32 (x y : Int) (hx : 0 ≤ x) (hx' : x < 4294967296) (hy : 0 ≤ y) (hy' : y < 4294967296) : 0 ≤ x * y ∧ x * y ≤ 18446744065119617025 := by
  refine ⟨Int.mul_nonneg hx hy, ?_⟩
  have h1 : x * y ≤ 4294967295 * y := Int.mul_le_mul_of_nonneg_right (by omega) hy
  omega

theorem mag_pos {v : Int} (h : 0 ≤ v) : mag v = v := by unfold mag; rw [if_neg (by omega)]
theorem mag_neg {v : Int} (h : v < 0) : mag v = -v := by unfold mag; rw [if_pos h]

theorem mul_le126 (A B : Int) (a0 : 0 ≤ A) (a1 : A ≤ 9223372036854775808) (b0 : 0 ≤ B) (b1 : B ≤ 9223372036854775808) : 0 ≤ A * B ∧ A * B ≤ 85070591730234615865843651857942052864 := by
  refine ⟨Int.mul_nonneg a0 b0, ?_⟩
  have h1 : A * B ≤ 9223372036854775808 * B := Int.mul_le_mul_of_nonneg_right a1 b0
  omega
/-- a product of two numbers lies from -2^126 to 2^126 -/
theorem mul_bd (a b : Int) (ha : -9223372036854775808 ≤ a ∧ a ≤ 9223372036854775807) (hb : -9223372036854775808 ≤ b ∧ b ≤ 9223372036854775807) :
    -85070591730234615865843651857942052864 ≤ a * b ∧ a * b ≤ 85070591730234615865843651857942052864 := by
  have h := mul_le126 (mag a) (mag b) (mag_nn a) (mag_le a ha.1 ha.2) (mag_nn b) (mag_le b hb.1 hb.2)
  by_cases sa : a < 0 <;> by_cases sb : b < 0
  · rw [mag_neg sa, mag_neg sb, Int.neg_mul_neg] at h; omega
  · rw [mag_neg sa, mag_pos (by omega), Int.neg_mul] at h; omega
  · rw [mag_pos (by omega), mag_neg sb, Int.mul_neg] at h; omega
  · rw [mag_pos (by omega), mag_pos (by omega)] at h; omega
/-- of which sign a product is, compared with another -/
def cmp (x y : Int) : Int := if x < y then -1 else if x = y then 0 else 1

/-- one bit more of a number: the share grows by it -/
theorem bit_step (P : Int) (m : Nat) (hm : m ≤ 63) : P / 2 ^ m = 2 * (P / 2 ^ (m + 1)) + P % 18446744073709551616 / 2 ^ m % 2 := by
  have hp : (0 : Int) < 2 ^ m := Int.pow_pos (by decide)
  have e1 : P / 2 ^ (m + 1) = P / 2 ^ m / 2 := by
    rw [Int.pow_succ, Int.ediv_ediv_of_nonneg (by omega)]
  have e2 : P % 18446744073709551616 / 2 ^ m % 2 = P / 2 ^ m % 2 := by
    have e3 : (18446744073709551616 : Int) = 2 ^ m * 2 ^ (64 - m) := by
      rw [← Int.pow_add, show m + (64 - m) = 64 by omega]; decide
    have e4 : (2 : Int) ^ (64 - m) = 2 * 2 ^ (63 - m) := by
      rw [show 64 - m = (63 - m) + 1 by omega, Int.pow_succ]; omega
    have h1 : P % 18446744073709551616 = P - 2 ^ m * (2 * 2 ^ (63 - m) * (P / 18446744073709551616)) := by
      have := Int.emod_def P 18446744073709551616
      rw [this]
      conv => lhs; rhs; lhs; rw [e3, e4]
      rw [Int.mul_assoc]
    rw [h1, Int.sub_eq_add_neg, ← Int.mul_neg, Int.add_mul_ediv_left _ _ (by omega)]
    generalize P / 2 ^ m = x
    rw [Int.mul_assoc, ← Int.mul_neg]
    omega
  rw [e1, e2]
  omega

/-- a share that fits, bit by bit: what has come so far fits -/
theorem share_lt (P D Q R : Int) (m : Nat) (hQ : 0 ≤ Q) (hR : 0 ≤ R) (h : P / 2 ^ m = Q * D + R) (hD : 0 < D) (hlt : P / 18446744073709551616 < D) : Q * 2 ^ m < 18446744073709551616 := by
  have hp : (0 : Int) < 2 ^ m := Int.pow_pos (by decide)
  have h1 : P < D * 18446744073709551616 := by omega
  have h2 : 2 ^ m * (P / 2 ^ m) ≤ P := Int.mul_ediv_self_le (by omega)
  have h3 : Q * 2 ^ m * D ≤ P := by
    have : 2 ^ m * (Q * D) ≤ 2 ^ m * (P / 2 ^ m) := Int.mul_le_mul_of_nonneg_left (by omega) (by omega)
    have e : Q * 2 ^ m * D = 2 ^ m * (Q * D) := by rw [Int.mul_comm Q, Int.mul_assoc]
    omega
  have h4 : Q * 2 ^ m * D < 18446744073709551616 * D := by omega
  exact Int.lt_of_mul_lt_mul_right h4 (by omega)
theorem pow_lt64 (m : Nat) (hm : m ≤ 63) : (0 : Int) < 2 ^ m ∧ (2 : Int) ^ m ≤ 9223372036854775808 := by
  have := Nat.pow_le_pow_right (n := 2) (by decide) hm
  have h : (2 : Int) ^ m ≤ 2 ^ 63 := by exact_mod_cast this
  have e : (2 : Int) ^ 63 = 9223372036854775808 := by decide
  exact ⟨Int.pow_pos (by decide), by omega⟩

/-- is a * b / d below 0? -/
def sgn3 (a b d : Int) : Bool := (decide (a < 0) != decide (b < 0)) != decide (d < 0)
/-- the nearest whole number to N / D, of two the even one -/
def near (N D : Int) : Int := if D - N % D < N % D ∨ (N % D = D - N % D ∧ N / D % 2 = 1) then N / D + 1 else N / D
/-- the share of a * b by d, as near as can be -/
def share (a b d : Int) : Int := if sgn3 a b d = true then -near (mag a * mag b) (mag d) else near (mag a * mag b) (mag d)
def i64 (v : Int) : Prop := -9223372036854775808 ≤ v ∧ v ≤ 9223372036854775807
instance (v : Int) : Decidable (i64 v) := by unfold i64; exact inferInstance

theorem near_bd (N D : Int) (hN : 0 ≤ N) (hD : 0 < D) : N / D ≤ near N D ∧ near N D ≤ N / D + 1 ∧ 0 ≤ N / D := by
  have : 0 ≤ N / D := Int.ediv_nonneg hN (by omega)
  unfold near
  split <;> omega
/-- a share that fits is found -/
theorem share_fits (a b d : Int) (ha : i64 a) (hb : i64 b) (hd : i64 d) (h0 : d ≠ 0) (h : i64 (share a b d)) : mag a * mag b / 18446744073709551616 < mag d := by
  have hN : 0 ≤ mag a * mag b := Int.mul_nonneg (mag_nn a) (mag_nn b)
  have hD : 0 < mag d := by unfold mag; split <;> omega
  have hn := near_bd _ _ hN hD
  unfold i64 share at h
  have hq : mag a * mag b / mag d < 18446744073709551616 := by split at h <;> omega
  have h1 : mag a * mag b < 18446744073709551616 * mag d := (Int.ediv_lt_iff_lt_mul hD).1 hq
  omega
theorem mag_lt (d : Int) (h0 : d ≠ 0) : 0 < mag d := by unfold mag; split <;> omega

/-- the size of the floor of a share -/
def flm (N D : Int) (s : Bool) : Int := if s = true ∧ 0 < N % D then N / D + 1 else N / D
/-- the greatest whole number that isn't above a * b / d -/
def flo (a b d : Int) : Int := if sgn3 a b d = true then -flm (mag a * mag b) (mag d) (sgn3 a b d) else flm (mag a * mag b) (mag d) (sgn3 a b d)
theorem flm_bd (N D : Int) (s : Bool) (hN : 0 ≤ N) (hD : 0 < D) : N / D ≤ flm N D s ∧ flm N D s ≤ N / D + 1 ∧ 0 ≤ N / D := by
  have : 0 ≤ N / D := Int.ediv_nonneg hN (by omega)
  unfold flm
  split <;> omega
theorem flo_fits (a b d : Int) (ha : i64 a) (hb : i64 b) (hd : i64 d) (h0 : d ≠ 0) (h : i64 (flo a b d)) : mag a * mag b / 18446744073709551616 < mag d := by
  have hN : 0 ≤ mag a * mag b := Int.mul_nonneg (mag_nn a) (mag_nn b)
  have hD : 0 < mag d := mag_lt d h0
  have hn := flm_bd _ _ (sgn3 a b d) hN hD
  unfold i64 flo at h
  have hq : mag a * mag b / mag d < 18446744073709551616 := by split at h <;> omega
  have h1 : mag a * mag b < 18446744073709551616 * mag d := (Int.ediv_lt_iff_lt_mul hD).1 hq
  omega
end Go.Proofs.Ytnienpalbfgflaa.Pl
