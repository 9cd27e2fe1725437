/- Plain facts on sines and cosines: turned round, rising, on the circle. -/
import Derived.Test.YtedidjdifobclaaPlTurn
namespace Go.Proofs.Ytedidjdifobclaa.Pl
set_option linter.unusedVariables false
set_option linter.unusedSimpArgs false

/-- the sine by its four quarters -/
theorem sin_q (v d : Int) (h : v % 23592960 = d) :
    (d ≤ 5898240 → sin v = sine d) ∧ (5898240 ≤ d → d ≤ 11796480 → sin v = sine (11796480 - d)) ∧
    (11796480 ≤ d → d ≤ 17694720 → sin v = -sine (d - 11796480)) ∧ (17694720 ≤ d → sin v = -sine (23592960 - d)) := by
  have e : sin v = if 11796480 < d then -sin0 (d - 11796480) else sin0 d := by unfold sin; rw [h]
  have e0 : ∀ x, sin0 x = sine (if 5898240 < x then 11796480 - x else x) := fun _ => rfl
  refine ⟨fun h1 => ?_, fun h1 h2 => ?_, fun h1 h2 => ?_, fun h1 => ?_⟩
  · rw [e, if_neg (by omega), e0, if_neg (by omega)]
  · rw [e, if_neg (by omega), e0]
    by_cases c : 5898240 < d
    · rw [if_pos c]
    · rw [if_neg c]; congr 1; omega
  · rw [e]
    by_cases c : 11796480 < d
    · rw [if_pos c, e0, if_neg (by omega)]
    · have : d = 11796480 := by omega
      subst this
      rw [if_neg (by omega), e0, if_pos (by omega)]
      simp [sine_zero]
  · rw [e, if_pos (by omega), e0]
    by_cases c : 5898240 < d - 11796480
    · rw [if_pos c]; congr 2; omega
    · rw [if_neg c]; congr 2; omega
theorem cos_sin (v : Int) : cos v = sin (v + 5898240) := by
  unfold cos sin
  have : (v % 23592960 + 5898240) % 23592960 = (v + 5898240) % 23592960 := by omega
  rw [this]
theorem sin_mod (u v : Int) (h : u % 23592960 = v % 23592960) : sin u = sin v := by unfold sin; rw [h]
theorem sin_half (v : Int) : sin (v + 11796480) = -sin v := by
  have h1 := sin_q v _ rfl
  have h2 := sin_q (v + 11796480) _ rfl
  have hb : 0 ≤ v % 23592960 ∧ v % 23592960 < 23592960 := by omega
  by_cases c1 : v % 23592960 ≤ 5898240
  · have e : (v + 11796480) % 23592960 = v % 23592960 + 11796480 := by omega
    rw [h1.1 c1, h2.2.2.1 (by omega) (by omega), e]; congr 2; omega
  · by_cases c2 : v % 23592960 < 11796480
    · have e : (v + 11796480) % 23592960 = v % 23592960 + 11796480 := by omega
      rw [h1.2.1 (by omega) (by omega), h2.2.2.2 (by omega), e]; congr 2; omega
    · have e : (v + 11796480) % 23592960 = v % 23592960 - 11796480 := by omega
      by_cases c3 : v % 23592960 ≤ 17694720
      · rw [h1.2.2.1 (by omega) c3, h2.1 (by omega), e, Int.neg_neg]
      · rw [h1.2.2.2 (by omega), h2.2.1 (by omega) (by omega), e, Int.neg_neg]; congr 1; omega
theorem sin_flip (v : Int) : sin (11796480 - v) = sin v := by
  have h1 := sin_q v _ rfl
  have h2 := sin_q (11796480 - v) _ rfl
  have hb : 0 ≤ v % 23592960 ∧ v % 23592960 < 23592960 := by omega
  by_cases c1 : v % 23592960 ≤ 5898240
  · have e : (11796480 - v) % 23592960 = 11796480 - v % 23592960 := by omega
    rw [h1.1 c1, h2.2.1 (by omega) (by omega), e]; congr 1; omega
  · by_cases c2 : v % 23592960 ≤ 11796480
    · have e : (11796480 - v) % 23592960 = 11796480 - v % 23592960 := by omega
      rw [h1.2.1 (by omega) c2, h2.1 (by omega), e]
    · have e : (11796480 - v) % 23592960 = 35389440 - v % 23592960 := by omega
      by_cases c3 : v % 23592960 ≤ 17694720
      · rw [h1.2.2.1 (by omega) c3, h2.2.2.2 (by omega), e]; congr 2; omega
      · rw [h1.2.2.2 (by omega), h2.2.2.1 (by omega) (by omega), e]; congr 2; omega
theorem sin_neg (v : Int) : sin (-v) = -sin v := by
  have h := sin_flip (v + 11796480)
  rw [show 11796480 - (v + 11796480) = -v by omega, sin_half] at h
  exact h

/-- what TurnRound asks -/
theorem round_law (d t : Int) :
    sin (d + t * 360 * 65536) = sin d ∧ cos (d + t * 360 * 65536) = cos d ∧ sin (-d) = -sin d ∧ cos (-d) = cos d ∧ sin (11796480 - d) = sin d ∧ cos (11796480 - d) = -cos d ∧ sin (d + 5898240) = cos d ∧ cos (d + 5898240) = -sin d := by
  refine ⟨sin_mod _ _ (by omega), ?_, sin_neg d, ?_, sin_flip d, ?_, (cos_sin d).symm, ?_⟩
  · rw [cos_sin, cos_sin]; exact sin_mod _ _ (by omega)
  · rw [cos_sin, cos_sin, ← sin_flip (d + 5898240)]; congr 1; omega
  · rw [cos_sin, cos_sin, ← sin_half, ← sin_flip (d + 5898240 + 11796480)]; exact sin_mod _ _ (by omega)
  · rw [cos_sin, ← sin_half]; congr 1; omega
theorem cos_up (v : Int) (h0 : 0 ≤ v) (h1 : v ≤ 5898240) : cos v = sine (5898240 - v) := by
  rw [cos_sin, (sin_q (v + 5898240) (v + 5898240) (by omega)).2.1 (by omega) (by omega)]
  congr 1; omega
theorem sin_up (v : Int) (h0 : 0 ≤ v) (h1 : v ≤ 5898240) : sin v = sine v := (sin_q v v (by omega)).1 h1
/-- what TurnRises asks -/
theorem rises_law (x y : Int) (h0 : 0 ≤ x) (h : x ≤ y) (h1 : y ≤ 5898240) : sin x ≤ sin y ∧ cos y ≤ cos x ∧ 0 ≤ sin x ∧ sin y ≤ 65536 := by
  rw [sin_up x h0 (by omega), sin_up y (by omega) h1, cos_up x h0 (by omega), cos_up y (by omega) h1]
  exact ⟨sine_mono x y h0 h h1, sine_mono _ _ (by omega) (by omega) (by omega), (sine_bd x h0 (by omega)).1, (sine_bd y (by omega) h1).2⟩

theorem mul_le_w (u a lo hi : Int) (hu : 0 ≤ u) (h : lo ≤ a ∧ a ≤ hi) : u * lo ≤ u * a ∧ u * a ≤ u * hi :=
  ⟨Int.mul_le_mul_of_nonneg_left h.1 hu, Int.mul_le_mul_of_nonneg_left h.2 hu⟩
theorem sq_e (e : Int) (h : -32768 ≤ e ∧ e ≤ 32768) : 0 ≤ e * e ∧ e * e ≤ 1073741824 := by
  have h1 : mag e ≤ 32768 := by unfold mag; split <;> omega
  have h2 : e * e = mag e * mag e := by unfold mag; split; exact (Int.neg_mul_neg e e).symm; rfl
  rw [h2]
  have := Int.mul_le_mul_of_nonneg_right h1 (mag_nn e)
  exact ⟨Int.mul_nonneg (mag_nn e) (mag_nn e), by omega⟩
theorem mul_e (P e : Int) (hP : 0 ≤ P ∧ P ≤ 4294967296) (h : -32768 ≤ e ∧ e ≤ 32768) : -140737488355328 ≤ P * e ∧ P * e ≤ 140737488355328 := by
  have := mul_le_w P e (-32768) 32768 hP.1 h
  omega
/-- a number between two, by weights -/
theorem between_bd (S0 S1 p r : Int) (h0 : 0 ≤ S0 ∧ S0 ≤ 65536) (h1 : 0 ≤ S1 ∧ S1 ≤ 65536) (hp : 0 ≤ p) (hr : 0 ≤ r) (hs : p + r = 65536) : 0 ≤ S0 * p + S1 * r ∧ S0 * p + S1 * r ≤ 4294967296 := by
  have a := Int.mul_nonneg h0.1 hp
  have b := Int.mul_nonneg h1.1 hr
  have c : S0 * p ≤ 65536 * p := Int.mul_le_mul_of_nonneg_right h0.2 hp
  have d : S1 * r ≤ 65536 * r := Int.mul_le_mul_of_nonneg_right h1.2 hr
  omega
theorem sq_two (a b p r : Int) : (a * p + b * r) * (a * p + b * r) = (p * p) * (a * a) + 2 * ((p * r) * (a * b)) + (r * r) * (b * b) := by
  simp only [Int.add_mul, Int.mul_add]
  have e1 : a * p * (a * p) = p * p * (a * a) := by simp only [Int.mul_assoc, Int.mul_comm, Int.mul_left_comm]
  have e2 : a * p * (b * r) = p * r * (a * b) := by simp only [Int.mul_assoc, Int.mul_comm, Int.mul_left_comm]
  have e3 : b * r * (a * p) = p * r * (a * b) := by simp only [Int.mul_assoc, Int.mul_comm, Int.mul_left_comm]
  have e4 : b * r * (b * r) = r * r * (b * b) := by simp only [Int.mul_assoc, Int.mul_comm, Int.mul_left_comm]
  rw [e1, e2, e3, e4]
  omega
/-- both squares together, of a part of a degree -/
theorem circle_part (S0 S1 C0 C1 r s c : Int) (hr : 0 ≤ r ∧ r ≤ 65536) (bS0 : 0 ≤ S0 ∧ S0 ≤ 65536) (bS1 : 0 ≤ S1 ∧ S1 ≤ 65536) (bC0 : 0 ≤ C0 ∧ C0 ≤ 65536) (bC1 : 0 ≤ C1 ∧ C1 ≤ 65536)
    (hA : -131072 ≤ S0 * S0 + C0 * C0 - 4294967296 ∧ S0 * S0 + C0 * C0 - 4294967296 ≤ 131072) (hB : -131072 ≤ S1 * S1 + C1 * C1 - 4294967296 ∧ S1 * S1 + C1 * C1 - 4294967296 ≤ 131072)
    (hD : -800000 ≤ S0 * S1 + C0 * C1 - 4294967296 ∧ S0 * S1 + C0 * C1 - 4294967296 ≤ 131072)
    (hs : -32768 ≤ s * 65536 - (S0 * (65536 - r) + S1 * r) ∧ s * 65536 - (S0 * (65536 - r) + S1 * r) ≤ 32768)
    (hc : -32768 ≤ c * 65536 - (C0 * (65536 - r) + C1 * r) ∧ c * 65536 - (C0 * (65536 - r) + C1 * r) ≤ 32768) :
    s * s + c * c - 4294967296 < 1048576 ∧ -1048576 < s * s + c * c - 4294967296 := by
  obtain ⟨p, hp⟩ : ∃ p, 65536 - r = p := ⟨_, rfl⟩
  rw [hp] at hs hc
  have hp0 : 0 ≤ p := by omega
  have hsum : p + r = 65536 := by omega
  have bP := between_bd S0 S1 p r bS0 bS1 hp0 hr.1 hsum
  have bQ := between_bd C0 C1 p r bC0 bC1 hp0 hr.1 hsum
  have hPP := sq_two S0 S1 p r
  have hQQ := sq_two C0 C1 p r
  obtain ⟨e1, he1⟩ : ∃ e, s * 65536 - (S0 * p + S1 * r) = e := ⟨_, rfl⟩
  obtain ⟨e2, he2⟩ : ∃ e, c * 65536 - (C0 * p + C1 * r) = e := ⟨_, rfl⟩
  rw [he1] at hs
  rw [he2] at hc
  obtain ⟨P, hP⟩ : ∃ P, S0 * p + S1 * r = P := ⟨_, rfl⟩
  obtain ⟨Q, hQ⟩ : ∃ Q, C0 * p + C1 * r = Q := ⟨_, rfl⟩
  rw [hP] at bP hPP he1
  rw [hQ] at bQ hQQ he2
  have x1 : s * 65536 = P + e1 := by omega
  have x2 : c * 65536 = Q + e2 := by omega
  have y1 : s * s * 4294967296 = P * P + 2 * (P * e1) + e1 * e1 := by
    have : s * s * 4294967296 = (s * 65536) * (s * 65536) := by
      rw [show (4294967296 : Int) = 65536 * 65536 from rfl]
      simp only [Int.mul_assoc, Int.mul_comm, Int.mul_left_comm]
    rw [this, x1, Int.add_mul, Int.mul_add, Int.mul_add, Int.mul_comm e1 P]
    omega
  have y2 : c * c * 4294967296 = Q * Q + 2 * (Q * e2) + e2 * e2 := by
    have : c * c * 4294967296 = (c * 65536) * (c * 65536) := by
      rw [show (4294967296 : Int) = 65536 * 65536 from rfl]
      simp only [Int.mul_assoc, Int.mul_comm, Int.mul_left_comm]
    rw [this, x2, Int.add_mul, Int.mul_add, Int.mul_add, Int.mul_comm e2 Q]
    omega
  have z1 := mul_e P e1 bP hs
  have z2 := mul_e Q e2 bQ hc
  have z3 := sq_e e1 hs
  have z4 := sq_e e2 hc
  have hw : p * p + 2 * (p * r) + r * r = 4294967296 := by
    have : (p + r) * (p + r) = 4294967296 := by rw [hsum]; rfl
    rw [Int.add_mul, Int.mul_add, Int.mul_add, Int.mul_comm r p] at this
    omega
  have u0 : 0 ≤ p * p := Int.mul_nonneg hp0 hp0
  have v0 : 0 ≤ p * r := Int.mul_nonneg hp0 hr.1
  have w0 : 0 ≤ r * r := Int.mul_nonneg hr.1 hr.1
  have k1 := mul_le_w (p * p) (S0 * S0 + C0 * C0) 4294836224 4295098368 u0 (by omega)
  have k2 := mul_le_w (p * r) (S0 * S1 + C0 * C1) 4294167296 4295098368 v0 (by omega)
  have k3 := mul_le_w (r * r) (S1 * S1 + C1 * C1) 4294836224 4295098368 w0 (by omega)
  rw [Int.mul_add] at k1 k2 k3
  generalize (p * p) * (S0 * S0) = m1 at *
  generalize (p * p) * (C0 * C0) = m2 at *
  generalize (p * r) * (S0 * S1) = m3 at *
  generalize (p * r) * (C0 * C1) = m4 at *
  generalize (r * r) * (S1 * S1) = m5 at *
  generalize (r * r) * (C1 * C1) = m6 at *
  generalize p * p = u at *
  generalize p * r = v at *
  generalize r * r = z at *
  generalize s * s = ssq at *
  generalize c * c = csq at *
  generalize P * P = PP at *
  generalize Q * Q = QQ at *
  generalize P * e1 = Pe at *
  generalize Q * e2 = Qe at *
  generalize e1 * e1 = ee1 at *
  generalize e2 * e2 = ee2 at *
  clear hA hB hD
  omega

theorem tb_circle : ∀ k : Nat, k < 91 → -131072 ≤ tb k * tb k + tb (90 - k) * tb (90 - k) - 4294967296 ∧ tb k * tb k + tb (90 - k) * tb (90 - k) - 4294967296 ≤ 131072 := by decide +kernel
theorem tb_chord : ∀ k : Nat, k < 90 → -800000 ≤ tb k * tb (k + 1) + tb (90 - k) * tb (89 - k) - 4294967296 ∧ tb k * tb (k + 1) + tb (90 - k) * tb (89 - k) - 4294967296 ≤ 131072 := by decide +kernel
/-- both squares together, up to a quarter -/
theorem circle_up (v : Int) (h0 : 0 ≤ v) (h1 : v ≤ 5898240) :
    sine v * sine v + sine (5898240 - v) * sine (5898240 - v) - 4294967296 < 1048576 ∧ -1048576 < sine v * sine v + sine (5898240 - v) * sine (5898240 - v) - 4294967296 := by
  have h3 : mag 65536 = 65536 := by decide
  by_cases c : v % 65536 = 0
  · have e1 : sine v = tb (v / 65536).toNat := by unfold sine; rw [if_pos c]
    have e2 : sine (5898240 - v) = tb (90 - (v / 65536).toNat) := by
      unfold sine; rw [if_pos (by omega)]; congr 1; omega
    rw [e1, e2]
    have := tb_circle (v / 65536).toNat (by omega)
    omega
  · have hk : (v / 65536).toNat < 90 := by omega
    have hk' : (5898240 - v) / 65536 = 89 - v / 65536 := by omega
    have hr' : (5898240 - v) % 65536 = 65536 - v % 65536 := by omega
    have e1 : sine v = tb (v / 65536).toNat + share (tb ((v / 65536).toNat + 1) - tb (v / 65536).toNat) (v % 65536) 65536 := by unfold sine; rw [if_neg c]
    have e2 : sine (5898240 - v) = tb (89 - (v / 65536).toNat) + share (tb (90 - (v / 65536).toNat) - tb (89 - (v / 65536).toNat)) (65536 - v % 65536) 65536 := by
      unfold sine; rw [if_neg (by omega), hk', hr', show (89 - v / 65536).toNat = 89 - (v / 65536).toNat by omega, show 89 - (v / 65536).toNat + 1 = 90 - (v / 65536).toNat by omega]
    have n1 := share_near (tb ((v / 65536).toNat + 1) - tb (v / 65536).toNat) (v % 65536) 65536 (by decide)
    have n2 := share_near (tb (90 - (v / 65536).toNat) - tb (89 - (v / 65536).toNat)) (65536 - v % 65536) 65536 (by decide)
    rw [h3] at n1 n2
    have a1 := tb_bd (v / 65536).toNat (by omega)
    have a2 := tb_bd ((v / 65536).toNat + 1) (by omega)
    have a3 := tb_bd (90 - (v / 65536).toNat) (by omega)
    have a4 := tb_bd (89 - (v / 65536).toNat) (by omega)
    have t1 := tb_circle (v / 65536).toNat (by omega)
    have t2 := tb_circle ((v / 65536).toNat + 1) (by omega)
    rw [show 90 - ((v / 65536).toNat + 1) = 89 - (v / 65536).toNat by omega] at t2
    have t3 := tb_chord (v / 65536).toNat hk
    refine circle_part _ _ _ _ (v % 65536) _ _ (by omega) a1 a2 a3 a4 t1 t2 t3 ?_ ?_
    · rw [e1]
      generalize share (tb ((v / 65536).toNat + 1) - tb (v / 65536).toNat) (v % 65536) 65536 = q at *
      rw [Int.sub_mul] at n1
      rw [Int.mul_sub]
      generalize tb ((v / 65536).toNat + 1) * (v % 65536) = z1 at *
      generalize tb (v / 65536).toNat * (v % 65536) = z2 at *
      omega
    · rw [e2]
      generalize share (tb (90 - (v / 65536).toNat) - tb (89 - (v / 65536).toNat)) (65536 - v % 65536) 65536 = q at *
      rw [Int.sub_mul, Int.mul_sub (tb (90 - (v / 65536).toNat)) 65536, Int.mul_sub (tb (89 - (v / 65536).toNat)) 65536] at n2
      try rw [Int.mul_sub (tb (90 - (v / 65536).toNat)) 65536]
      generalize tb (90 - (v / 65536).toNat) * (v % 65536) = z1 at *
      generalize tb (89 - (v / 65536).toNat) * (v % 65536) = z2 at *
      omega
/-- what TurnCircle asks -/
theorem circle_law (v : Int) : sin v * sin v + cos v * cos v - 4294967296 < 1048576 ∧ -1048576 < sin v * sin v + cos v * cos v - 4294967296 := by
  have hs := sin_q v _ rfl
  have hc := sin_q (v + 5898240) _ rfl
  rw [← cos_sin] at hc
  have hb : 0 ≤ v % 23592960 ∧ v % 23592960 < 23592960 := by omega
  by_cases c1 : v % 23592960 ≤ 5898240
  · have e : (v + 5898240) % 23592960 = v % 23592960 + 5898240 := by omega
    rw [hs.1 c1, hc.2.1 (by omega) (by omega), e, show 11796480 - (v % 23592960 + 5898240) = 5898240 - v % 23592960 by omega]
    exact circle_up _ (by omega) (by omega)
  · by_cases c2 : v % 23592960 ≤ 11796480
    · have e : (v + 5898240) % 23592960 = v % 23592960 + 5898240 := by omega
      rw [hs.2.1 (by omega) c2, hc.2.2.1 (by omega) (by omega), e, Int.neg_mul_neg]
      have := circle_up (11796480 - v % 23592960) (by omega) (by omega)
      rw [show 5898240 - (11796480 - v % 23592960) = v % 23592960 + 5898240 - 11796480 by omega] at this
      exact this
    · by_cases c3 : v % 23592960 ≤ 17694720
      · by_cases c4 : v % 23592960 = 17694720
        · have e : (v + 5898240) % 23592960 = 0 := by omega
          rw [hs.2.2.1 (by omega) c3, hc.1 (by omega), e, Int.neg_mul_neg]
          have := circle_up 5898240 (by omega) (by omega)
          rw [show v % 23592960 - 11796480 = 5898240 by omega]
          exact this
        · have e : (v + 5898240) % 23592960 = v % 23592960 + 5898240 := by omega
          rw [hs.2.2.1 (by omega) c3, hc.2.2.2 (by omega), e, Int.neg_mul_neg, Int.neg_mul_neg]
          have := circle_up (v % 23592960 - 11796480) (by omega) (by omega)
          rw [show 5898240 - (v % 23592960 - 11796480) = 23592960 - (v % 23592960 + 5898240) by omega] at this
          exact this
      · have e : (v + 5898240) % 23592960 = v % 23592960 - 17694720 := by omega
        rw [hs.2.2.2 (by omega), hc.1 (by omega), e, Int.neg_mul_neg]
        have := circle_up (23592960 - v % 23592960) (by omega) (by omega)
        rw [show 5898240 - (23592960 - v % 23592960) = v % 23592960 - 17694720 by omega] at this
        exact this
end Go.Proofs.Ytedidjdifobclaa.Pl
