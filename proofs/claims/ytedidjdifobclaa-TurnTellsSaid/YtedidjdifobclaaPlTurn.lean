/- Plain facts on sines, cosines and directions. -/
import Derived.Test.YtedidjdifobclaaPlFix
import Derived.Test.YtedidjdifobclaaPlLaw1
namespace Go.Proofs.Ytedidjdifobclaa.Pl
set_option linter.unusedVariables false

/-- the sines of whole degrees from 0 to 90, times 65536 -/
def tabL : List Int :=
  [0, 1144, 2287, 3430, 4572, 5712, 6850, 7987, 9121, 10252, 11380, 12505, 13626, 14742, 15855, 16962, 18064, 19161, 20252, 21336, 22415, 23486, 24550,
    25607, 26656, 27697, 28729, 29753, 30767, 31772, 32768, 33754, 34729, 35693, 36647, 37590, 38521, 39441, 40348, 41243, 42126, 42995, 43852, 44695,
    45525, 46341, 47143, 47930, 48703, 49461, 50203, 50931, 51643, 52339, 53020, 53684, 54332, 54963, 55578, 56175, 56756, 57319, 57865, 58393, 58903,
    59396, 59870, 60326, 60764, 61183, 61584, 61966, 62328, 62672, 62997, 63303, 63589, 63856, 64104, 64332, 64540, 64729, 64898, 65048, 65177, 65287,
    65376, 65446, 65496, 65526, 65536]
def tb (k : Nat) : Int := tabL.getD k 0
theorem tb_step : ∀ k : Nat, k < 90 → 0 ≤ tb (k + 1) - tb k ∧ tb (k + 1) - tb k ≤ 1144 := by decide +kernel
theorem tb_bd : ∀ k : Nat, k < 91 → 0 ≤ tb k ∧ tb k ≤ 65536 := by decide +kernel
/-- the sine of up to a quarter -/
def sine (d : Int) : Int := if d % 65536 = 0 then tb (d / 65536).toNat else tb (d / 65536).toNat + share (tb ((d / 65536).toNat + 1) - tb (d / 65536).toNat) (d % 65536) 65536
def sin0 (d : Int) : Int := sine (if 5898240 < d then 11796480 - d else d)
def sin (d : Int) : Int := if 11796480 < d % 23592960 then -sin0 (d % 23592960 - 11796480) else sin0 (d % 23592960)
def cos (d : Int) : Int := sin (d % 23592960 + 5898240)
theorem sine_zero : sine 0 = 0 := by decide +kernel

/-- the part of a degree: from nothing up to the whole step -/
theorem part_bd (s r : Int) (hs : 0 ≤ s) (hr : 0 ≤ r ∧ r ≤ 65536) : 0 ≤ share s r 65536 ∧ share s r 65536 ≤ s := by
  have h := share_near s r 65536 (by decide)
  have h3 : mag 65536 = 65536 := by decide
  rw [h3] at h
  have h1 : 0 ≤ s * r := Int.mul_nonneg hs hr.1
  have h2 : s * r ≤ s * 65536 := Int.mul_le_mul_of_nonneg_left hr.2 hs
  have h4 : 0 ≤ share s r 65536 := by
    have e : sgn3 s r 65536 = false := by
      unfold sgn3
      rw [decide_eq_false (by omega : ¬ s < 0), decide_eq_false (by omega : ¬ r < 0)]; rfl
    have := near_le (mag s * mag r) (mag 65536) (Int.mul_nonneg (mag_nn s) (mag_nn r)) (by decide)
    unfold share
    rw [e, if_neg (by decide)]
    exact this.1
  exact ⟨h4, by omega⟩
theorem part_mono (s r r' : Int) (hs : 0 ≤ s) (hr : 0 ≤ r) (h : r ≤ r') : share s r 65536 ≤ share s r' 65536 := by
  have h1 := share_near s r 65536 (by decide)
  have h2 := share_near s r' 65536 (by decide)
  have h3 : mag 65536 = 65536 := by decide
  rw [h3] at h1 h2
  have h4 : s * r ≤ s * r' := Int.mul_le_mul_of_nonneg_left h hs
  by_cases e : s * r = s * r'
  · have : share s r 65536 = share s r' 65536 := by
      unfold share
      have e1 : sgn3 s r 65536 = false := by unfold sgn3; rw [decide_eq_false (by omega : ¬ s < 0), decide_eq_false (by omega : ¬ r < 0)]; rfl
      have e2 : sgn3 s r' 65536 = false := by unfold sgn3; rw [decide_eq_false (by omega : ¬ s < 0), decide_eq_false (by omega : ¬ r' < 0)]; rfl
      rw [e1, e2, mag_pos hs, mag_pos hr, mag_pos (by omega : 0 ≤ r'), e]
    omega
  · generalize s * r = x at *
    generalize s * r' = y at *
    generalize share s r 65536 = u at *
    generalize share s r' 65536 = v at *
    omega
/-- a sine lies between those of the whole degrees around it -/
theorem sine_within (d : Int) (h0 : 0 ≤ d) (h1 : d < 5898240) : tb (d / 65536).toNat ≤ sine d ∧ sine d ≤ tb ((d / 65536).toNat + 1) := by
  have hk : (d / 65536).toNat < 90 := by omega
  have hs := tb_step _ hk
  unfold sine
  split
  · omega
  · have := part_bd (tb ((d / 65536).toNat + 1) - tb (d / 65536).toNat) (d % 65536) hs.1 (by omega)
    omega
theorem tb_mono (j k : Nat) (h : j ≤ k) (hk : k ≤ 90) : tb j ≤ tb k := by
  induction k with
  | zero => have : j = 0 := by omega
            subst this; exact Int.le_refl _
  | succ k ih =>
    by_cases e : j = k + 1
    · subst e; exact Int.le_refl _
    · have := ih (by omega) (by omega)
      have := tb_step k (by omega)
      omega
theorem sine_mono (x y : Int) (h0 : 0 ≤ x) (h : x ≤ y) (h1 : y ≤ 5898240) : sine x ≤ sine y := by
  by_cases e : x = y
  · subst e; exact Int.le_refl _
  · have hx := sine_within x h0 (by omega)
    by_cases ek : x / 65536 = y / 65536
    · have hs := tb_step (x / 65536).toNat (by omega)
      unfold sine
      rw [← ek]
      by_cases r0 : x % 65536 = 0
      · rw [if_pos r0, if_neg (by omega)]
        have := part_bd (tb ((x / 65536).toNat + 1) - tb (x / 65536).toNat) (y % 65536) hs.1 (by omega)
        omega
      · rw [if_neg r0, if_neg (by omega)]
        have := part_mono (tb ((x / 65536).toNat + 1) - tb (x / 65536).toNat) (x % 65536) (y % 65536) hs.1 (by omega) (by omega)
        omega
    · have hm := tb_mono ((x / 65536).toNat + 1) (y / 65536).toNat (by omega) (by omega)
      have hy : tb (y / 65536).toNat ≤ sine y := by
        by_cases ye : y = 5898240
        · subst ye; decide +kernel
        · exact (sine_within y (by omega) (by omega)).1
      omega
theorem sine_bd (d : Int) (h0 : 0 ≤ d) (h1 : d ≤ 5898240) : 0 ≤ sine d ∧ sine d ≤ 65536 := by
  have a := sine_mono 0 d (by omega) h0 h1
  have b := sine_mono d 5898240 h0 h1 (by omega)
  rw [sine_zero] at a
  have c : sine 5898240 = 65536 := by decide +kernel
  rw [c] at b
  exact ⟨a, b⟩
theorem sin0_bd (d : Int) (h0 : 0 ≤ d) (h1 : d ≤ 11796480) : 0 ≤ sin0 d ∧ sin0 d ≤ 65536 := by
  unfold sin0
  split <;> exact sine_bd _ (by omega) (by omega)
theorem sin_bd (d : Int) : -65536 ≤ sin d ∧ sin d ≤ 65536 := by
  unfold sin
  split
  · have := sin0_bd (d % 23592960 - 11796480) (by omega) (by omega); omega
  · have := sin0_bd (d % 23592960) (by omega) (by omega); omega
theorem cos_bd (d : Int) : -65536 ≤ cos d ∧ cos d ≤ 65536 := sin_bd _

theorem mul_bd46 (c y : Int) (hc : -65536 ≤ c ∧ c ≤ 65536) (hy : -1073741823 ≤ y ∧ y ≤ 1073741823) : -70368744177664 ≤ c * y ∧ c * y ≤ 70368744177664 := by
  have h := mul_mag c y
  have h1 : mag c ≤ 65536 := by unfold mag; split <;> omega
  have h2 : mag y ≤ 1073741823 := by unfold mag; split <;> omega
  have h3 : mag c * mag y ≤ 65536 * mag y := Int.mul_le_mul_of_nonneg_right h1 (mag_nn y)
  omega
/-- how far a direction lies behind a whole degree -/
def ahead (y x d : Int) : Int := cos d * y - sin d * x
def begin (y x : Int) : Int := if 0 < x ∧ 0 ≤ y then 0 else if x ≤ 0 ∧ 0 < y then 5898240 else if x < 0 then 11796480 else 17694720

/-- the first place from j on where g isn't above 0, or 90 -/
def stopFrom (g : Nat → Int) : Nat → Nat → Nat
  | 0, j => j
  | f + 1, j => if 0 < g j ∧ j < 90 then stopFrom g f (j + 1) else j
def gAt (y x : Int) (j : Nat) : Int := ahead y x (begin y x + (j : Int) * 65536)
def dirJ (y x : Int) : Nat := stopFrom (gAt y x) 90 1
def dirEnd (y x : Int) (J : Nat) : Int :=
  if gAt y x J < 0 then (begin y x + (J : Int) * 65536 + share (gAt y x (J - 1)) 65536 (gAt y x (J - 1) - gAt y x J) - 65536) % 23592960
  else (begin y x + (J : Int) * 65536) % 23592960
def dir (y x : Int) : Int := if gAt y x 0 ≤ 0 then begin y x else dirEnd y x (dirJ y x)
theorem begin_cases (y x : Int) : begin y x = 0 ∨ begin y x = 5898240 ∨ begin y x = 11796480 ∨ begin y x = 17694720 := by
  unfold begin; (repeat' split) <;> omega
theorem begin_bd (y x : Int) : 0 ≤ begin y x ∧ begin y x ≤ 17694720 := by have := begin_cases y x; omega
theorem gAt_bd (y x : Int) (j : Nat) (hy : -1073741823 ≤ y ∧ y ≤ 1073741823) (hx : -1073741823 ≤ x ∧ x ≤ 1073741823) : -140737488355328 ≤ gAt y x j ∧ gAt y x j ≤ 140737488355328 := by
  have h1 := mul_bd46 _ _ (cos_bd (begin y x + (j : Int) * 65536)) hy
  have h2 := mul_bd46 _ _ (sin_bd (begin y x + (j : Int) * 65536)) hx
  unfold gAt ahead
  omega
theorem share_part (a d : Int) (ha : 0 < a) (hd : a ≤ d) : 0 ≤ share a 65536 d ∧ share a 65536 d ≤ 65536 := by
  have h := share_near a 65536 d (by omega)
  rw [mag_pos (by omega : 0 ≤ d)] at h
  have e : sgn3 a 65536 d = false := by
    unfold sgn3
    rw [decide_eq_false (by omega : ¬ a < 0), decide_eq_false (by omega : ¬ d < 0)]; rfl
  have h4 : 0 ≤ share a 65536 d := by
    have := near_le (mag a * mag 65536) (mag d) (Int.mul_nonneg (mag_nn _) (mag_nn _)) (mag_lt d (by omega))
    unfold share
    rw [e, if_neg (by decide)]
    exact this.1
  refine ⟨h4, ?_⟩
  apply Int.not_lt.1
  intro hgt
  have h5 : 65537 * d ≤ share a 65536 d * d := Int.mul_le_mul_of_nonneg_right (by omega) (by omega)
  omega
end Go.Proofs.Ytedidjdifobclaa.Pl
