/- Plain facts on numbers p + q times the root of d: sums, products, multiples. -/
import Derived.Test.YtnienpalbfgflaaPlRoot
namespace Go.Proofs.Ytnienpalbfgflaa.Pl
set_option linter.unusedVariables false

theorem sqn (a : Int) : 0 ≤ a * a := by
  rcases Int.le_total 0 a with h | h
  · exact Int.mul_nonneg h h
  · exact Int.mul_nonneg_of_nonpos_of_nonpos h h
theorem le_of_sq {a b : Int} (hb : 0 ≤ b) (h : a * a ≤ b * b) : a ≤ b := by
  by_cases c : a ≤ b
  · exact c
  · have := sq_lt hb (show b < a by omega)
    omega
theorem sum_ge {a b c e d : Int} (ha : 0 ≤ a) (hc : 0 ≤ c) (hd : 0 ≤ d) (h1 : b * b * d ≤ a * a) (h2 : e * e * d ≤ c * c) : b * e * d ≤ a * c := by
  have h3 : (b * e * d) * (b * e * d) ≤ (a * c) * (a * c) := by
    have h4 : (b * b * d) * (e * e * d) ≤ (a * a) * (c * c) := Int.mul_le_mul h1 h2 (Int.mul_nonneg (sqn e) hd) (sqn a)
    grind
  exact le_of_sq (Int.mul_nonneg ha hc) h3
theorem sum_le {a b c e d : Int} (hb : 0 ≤ b) (he : 0 ≤ e) (hd : 0 ≤ d) (h1 : a * a ≤ b * b * d) (h2 : c * c ≤ e * e * d) : a * c ≤ b * e * d := by
  have h3 : (a * c) * (a * c) ≤ (b * e * d) * (b * e * d) := by
    have h4 : (a * a) * (c * c) ≤ (b * b * d) * (e * e * d) := Int.mul_le_mul h1 h2 (sqn c) (Int.mul_nonneg (sqn b) hd)
    grind
  exact le_of_sq (Int.mul_nonneg (Int.mul_nonneg hb he) hd) h3
/-- p + q times the root of d isn't below 0 -/
def nn (d p q : Int) : Prop := 0 ≤ ss p + ss q * d
theorem nn_pp {d p q : Int} (hd : 0 ≤ d) (hp : 0 ≤ p) (hq : 0 ≤ q) : nn d p q := by
  unfold nn
  rw [ss_pos hp, ss_pos hq]
  have := Int.mul_nonneg (sqn q) hd
  have := sqn p
  omega
theorem nn_pn {d p q : Int} (hp : 0 ≤ p) (hq : q ≤ 0) : nn d p q ↔ q * q * d ≤ p * p := by
  unfold nn
  rw [ss_pos hp, ss_neg hq, Int.neg_mul]
  omega
theorem nn_np {d p q : Int} (hp : p ≤ 0) (hq : 0 ≤ q) : nn d p q ↔ p * p ≤ q * q * d := by
  unfold nn
  rw [ss_neg hp, ss_pos hq]
  omega
theorem nn_nn {d p q : Int} (hd : 0 ≤ d) (hp : p < 0) (hq : q ≤ 0) : ¬ nn d p q := by
  unfold nn
  rw [ss_neg (by omega), ss_neg hq, Int.neg_mul]
  have := Int.mul_nonneg (sqn q) hd
  have : 0 < p * p := Int.mul_pos_of_neg_of_neg hp hp
  omega
/-- what is one of two may be taken as the first -/
theorem nn_add {d p q u v : Int} (hd : 0 ≤ d) (h : nn d p q) (k : nn d u v) : nn d (p + u) (q + v) := by
  by_cases hP : 0 ≤ p + u
  · by_cases hQ : 0 ≤ q + v
    · exact nn_pp hd hP hQ
    · rw [nn_pn hP (by omega)]
      -- q + v is below 0, the sum of the squares' roots isn't
      by_cases hp : 0 ≤ p
      · by_cases hu : 0 ≤ u
        · by_cases hq : 0 ≤ q
          · have k1 := (nn_pn hu (by omega)).1 k
            have e1 : (q + v) * (q + v) ≤ v * v := by
              have := sq_lt (a := -(q+v)) (b := -v) (by omega)
              by_cases e : q = 0
              · rw [e]; grind
              · have := sq_lt (a := -(q+v)) (b := -v) (by omega) (by omega); grind
            have e2 : (q + v) * (q + v) * d ≤ v * v * d := Int.mul_le_mul_of_nonneg_right e1 hd
            have e3 : 0 ≤ p * u := Int.mul_nonneg hp hu
            have e4 := sqn p
            grind
          · have h1 := (nn_pn hp (by omega)).1 h
            by_cases hv : 0 ≤ v
            · have e1 : (q + v) * (q + v) ≤ q * q := by
                by_cases e : v = 0
                · rw [e]; grind
                · have := sq_lt (a := -(q+v)) (b := -q) (by omega) (by omega); grind
              have e2 : (q + v) * (q + v) * d ≤ q * q * d := Int.mul_le_mul_of_nonneg_right e1 hd
              have e3 : 0 ≤ p * u := Int.mul_nonneg hp hu
              have e4 := sqn u
              grind
            · have k1 := (nn_pn hu (by omega)).1 k
              have e1 := sum_ge hp hu hd h1 k1
              grind
        · -- u < 0, so v > 0, so q < 0
          have hv : 0 ≤ v := by
            by_cases hv : 0 ≤ v
            · exact hv
            · exact absurd k (nn_nn hd (by omega) (by omega))
          have h1 := (nn_pn hp (by omega)).1 h
          have k1 := (nn_np (by omega) hv).1 k
          by_cases c : (q + v) * (q + v) * d ≤ (p + u) * (p + u)
          · exact c
          · have e1 := sum_le (a := p + u) (b := -(q + v)) (c := -u) (e := v) (by omega) hv hd (by grind) (by grind)
            grind
      · have hq : 0 ≤ q := by
          by_cases hq : 0 ≤ q
          · exact hq
          · exact absurd h (nn_nn hd (by omega) (by omega))
        have h1 := (nn_np (by omega) hq).1 h
        have k1 := (nn_pn (p := u) (by omega) (by omega)).1 k
        by_cases c : (q + v) * (q + v) * d ≤ (p + u) * (p + u)
        · exact c
        · have e1 := sum_le (a := p + u) (b := -(q + v)) (c := -p) (e := q) (by omega) hq hd (by grind) (by grind)
          grind
  · by_cases hQ : 0 ≤ q + v
    · rw [nn_np (by omega) hQ]
      by_cases hp : 0 ≤ p
      · have hv : 0 ≤ v := by
          by_cases hv : 0 ≤ v
          · exact hv
          · exact absurd k (nn_nn hd (by omega) (by omega))
        have k1 := (nn_np (p := u) (by omega) hv).1 k
        by_cases hq : 0 ≤ q
        · have e1 : (p + u) * (p + u) ≤ u * u := by
            by_cases e : p = 0
            · rw [e]; grind
            · have := sq_lt (a := -(p+u)) (b := -u) (by omega) (by omega); grind
          have e3 : 0 ≤ q * v * d := Int.mul_nonneg (Int.mul_nonneg hq hv) hd
          have e4 : 0 ≤ q * q * d := Int.mul_nonneg (sqn q) hd
          grind
        · have h1 := (nn_pn hp (by omega)).1 h
          by_cases c : (p + u) * (p + u) ≤ (q + v) * (q + v) * d
          · exact c
          · have e1 := sum_ge (a := -(p + u)) (b := q + v) (c := p) (e := -q) (by omega) hp hd (by grind) (by grind)
            grind
      · have hq : 0 ≤ q := by
          by_cases hq : 0 ≤ q
          · exact hq
          · exact absurd h (nn_nn hd (by omega) (by omega))
        have h1 := (nn_np (p := p) (by omega) hq).1 h
        by_cases hu : 0 ≤ u
        · by_cases hv : 0 ≤ v
          · have e1 : (p + u) * (p + u) ≤ p * p := by
              by_cases e : u = 0
              · rw [e]; grind
              · have := sq_lt (a := -(p+u)) (b := -p) (by omega) (by omega); grind
            have e3 : 0 ≤ q * v * d := Int.mul_nonneg (Int.mul_nonneg hq hv) hd
            have e4 : 0 ≤ v * v * d := Int.mul_nonneg (sqn v) hd
            grind
          · have k1 := (nn_pn hu (by omega)).1 k
            by_cases c : (p + u) * (p + u) ≤ (q + v) * (q + v) * d
            · exact c
            · have e1 := sum_ge (a := -(p + u)) (b := q + v) (c := u) (e := -v) (by omega) hu hd (by grind) (by grind)
              grind
        · have hv : 0 ≤ v := by
            by_cases hv : 0 ≤ v
            · exact hv
            · exact absurd k (nn_nn hd (by omega) (by omega))
          have k1 := (nn_np (p := u) (by omega) hv).1 k
          have e1 := sum_le (a := p) (b := q) (c := u) (e := v) hq hv hd h1 k1
          grind
    · -- both below 0: it can't be
      exfalso
      by_cases hp : 0 ≤ p
      · have hv : 0 ≤ v := by
          by_cases hv : 0 ≤ v
          · exact hv
          · exact absurd k (nn_nn hd (by omega) (by omega))
        have k1 := (nn_np (p := u) (by omega) hv).1 k
        have h1 := (nn_pn hp (by omega)).1 h
        have e1 := sq_lt hp (show p < -u by omega)
        have e2 := sq_lt hv (show v < -q by omega)
        have e3 : v * v * d ≤ q * q * d := Int.mul_le_mul_of_nonneg_right (by grind) hd
        grind
      · have hq : 0 ≤ q := by
          by_cases hq : 0 ≤ q
          · exact hq
          · exact absurd h (nn_nn hd (by omega) (by omega))
        have h1 := (nn_np (p := p) (by omega) hq).1 h
        by_cases hu : 0 ≤ u
        · have k1 := (nn_pn hu (by omega)).1 k
          have e1 := sq_lt hu (show u < -p by omega)
          have e2 := sq_lt hq (show q < -v by omega)
          have e3 : q * q * d ≤ v * v * d := Int.mul_le_mul_of_nonneg_right (by grind) hd
          grind
        · exact absurd k (nn_nn hd (by omega) (by omega))
/-- a multiple -/
theorem nn_mul_nat {d p q k : Int} (hk : 0 ≤ k) (h : nn d p q) : nn d (k * p) (k * q) := by
  unfold nn at h ⊢
  have e : ss (k * p) + ss (k * q) * d = (ss p + ss q * d) * (k * k) := by
    rw [Int.mul_comm k p, Int.mul_comm k q, ← ss_mul p k hk, ← ss_mul q k hk]
    grind
  rw [e]
  exact Int.mul_nonneg h (sqn k)
/-- times the root -/
theorem nn_root {d p q : Int} (hd : 0 ≤ d) (h : nn d p q) : nn d (q * d) p := by
  unfold nn at h ⊢
  rw [← ss_mul q d hd]
  have : (ss q * (d * d) + ss p * d) = (ss p + ss q * d) * d := by grind
  rw [this]
  exact Int.mul_nonneg h hd
theorem nn_mul_pp {d p q u v : Int} (hd : 0 ≤ d) (h : nn d p q) (hu : 0 ≤ u) (hv : 0 ≤ v) : nn d (p * u + q * v * d) (p * v + q * u) := by
  have := nn_add hd (nn_mul_nat hu h) (nn_mul_nat hv (nn_root hd h))
  have e1 : u * p + v * (q * d) = p * u + q * v * d := by grind
  have e2 : u * q + v * p = p * v + q * u := by grind
  rw [e1, e2] at this
  exact this
/-- a product -/
theorem nn_mul {d p q u v : Int} (hd : 0 ≤ d) (h : nn d p q) (k : nn d u v) : nn d (p * u + q * v * d) (p * v + q * u) := by
  by_cases hu : 0 ≤ u ∧ 0 ≤ v
  · exact nn_mul_pp hd h hu.1 hu.2
  by_cases hp : 0 ≤ p ∧ 0 ≤ q
  · have := nn_mul_pp hd k hp.1 hp.2
    have e1 : u * p + v * q * d = p * u + q * v * d := by grind
    have e2 : u * q + v * p = p * v + q * u := by grind
    rw [e1, e2] at this
    exact this
  have hN : (p * u + q * v * d) * (p * u + q * v * d) - (p * v + q * u) * (p * v + q * u) * d = (p * p - q * q * d) * (u * u - v * v * d) := by grind
  by_cases p0 : 0 ≤ p
  · have h1 := (nn_pn p0 (by omega)).1 h
    by_cases u0 : 0 ≤ u
    · have k1 := (nn_pn u0 (by omega)).1 k
      have s1 : 0 ≤ q * v := Int.mul_nonneg_of_nonpos_of_nonpos (by omega) (by omega)
      have s2 : p * v ≤ 0 := Int.mul_nonpos_of_nonneg_of_nonpos p0 (by omega)
      have s3 : q * u ≤ 0 := Int.mul_nonpos_of_nonpos_of_nonneg (by omega) u0
      have s4 := Int.mul_nonneg s1 hd
      have s5 := Int.mul_nonneg p0 u0
      rw [nn_pn (by omega) (by omega)]
      have := Int.mul_nonneg (show 0 ≤ p * p - q * q * d by omega) (show 0 ≤ u * u - v * v * d by omega)
      omega
    · have v0 : 0 ≤ v := by
        by_cases hv : 0 ≤ v
        · exact hv
        · exact absurd k (nn_nn hd (by omega) (by omega))
      have k1 := (nn_np (p := u) (by omega) v0).1 k
      have s1 : q * v ≤ 0 := Int.mul_nonpos_of_nonpos_of_nonneg (by omega) v0
      have s2 : 0 ≤ p * v := Int.mul_nonneg p0 v0
      have s3 : 0 ≤ q * u := Int.mul_nonneg_of_nonpos_of_nonpos (by omega) (by omega)
      have s4 : q * v * d ≤ 0 := Int.mul_nonpos_of_nonpos_of_nonneg s1 hd
      have s5 : p * u ≤ 0 := Int.mul_nonpos_of_nonneg_of_nonpos p0 (by omega)
      rw [nn_np (by omega) (by omega)]
      have := Int.mul_nonpos_of_nonneg_of_nonpos (show 0 ≤ p * p - q * q * d by omega) (show u * u - v * v * d ≤ 0 by omega)
      omega
  · have q0 : 0 ≤ q := by
      by_cases hv : 0 ≤ q
      · exact hv
      · exact absurd h (nn_nn hd (by omega) (by omega))
    have h1 := (nn_np (p := p) (by omega) q0).1 h
    by_cases u0 : 0 ≤ u
    · have k1 := (nn_pn u0 (by omega)).1 k
      have s1 : q * v ≤ 0 := Int.mul_nonpos_of_nonneg_of_nonpos q0 (by omega)
      have s2 : 0 ≤ p * v := Int.mul_nonneg_of_nonpos_of_nonpos (by omega) (by omega)
      have s3 : 0 ≤ q * u := Int.mul_nonneg q0 u0
      have s4 : q * v * d ≤ 0 := Int.mul_nonpos_of_nonpos_of_nonneg s1 hd
      have s5 : p * u ≤ 0 := Int.mul_nonpos_of_nonpos_of_nonneg (by omega) u0
      rw [nn_np (by omega) (by omega)]
      have := Int.mul_nonpos_of_nonpos_of_nonneg (show p * p - q * q * d ≤ 0 by omega) (show 0 ≤ u * u - v * v * d by omega)
      omega
    · have v0 : 0 ≤ v := by
        by_cases hv : 0 ≤ v
        · exact hv
        · exact absurd k (nn_nn hd (by omega) (by omega))
      have k1 := (nn_np (p := u) (by omega) v0).1 k
      have s1 : 0 ≤ q * v := Int.mul_nonneg q0 v0
      have s2 : p * v ≤ 0 := Int.mul_nonpos_of_nonpos_of_nonneg (by omega) v0
      have s3 : q * u ≤ 0 := Int.mul_nonpos_of_nonneg_of_nonpos q0 (by omega)
      have s4 := Int.mul_nonneg s1 hd
      have s5 : 0 ≤ p * u := Int.mul_nonneg_of_nonpos_of_nonpos (by omega) (by omega)
      rw [nn_pn (by omega) (by omega)]
      have := Int.mul_nonneg_of_nonpos_of_nonpos (show p * p - q * q * d ≤ 0 by omega) (show u * u - v * v * d ≤ 0 by omega)
      omega
theorem rsign_nn {p q d : Int} : 0 ≤ rsign p q d ↔ nn d p q := by unfold rsign nn; exact sg_nonneg
theorem rsign_neg (p q d : Int) : rsign (-p) (-q) d = -rsign p q d := by
  unfold rsign
  rw [ss_flip, ss_flip, ← sg_neg]
  congr 1
  grind
theorem rsign_pos_iff {p q d : Int} : 0 < rsign p q d ↔ ¬ nn d (-p) (-q) := by
  rw [← rsign_nn, rsign_neg]
  omega
/-- a sum with one that is above 0 -/
theorem rsign_pos_add {p q u v d : Int} (hd : 0 ≤ d) (h : nn d p q) (k : 0 < rsign u v d) : 0 < rsign (p + u) (q + v) d := by
  rw [rsign_pos_iff] at k ⊢
  intro c
  apply k
  have := nn_add hd h c
  rw [show p + -(p + u) = -u by omega, show q + -(q + v) = -v by omega] at this
  exact this
theorem rsign_scale (k p q d : Int) (hk : 0 < k) : rsign (k * p) (k * q) d = rsign p q d := by
  unfold rsign
  rw [Int.mul_comm k p, Int.mul_comm k q, ← ss_mul p k (by omega), ← ss_mul q k (by omega)]
  have e : ss p * (k * k) + ss q * (k * k) * d = (ss p + ss q * d) * (k * k) := by grind
  rw [e, sg_mul]
  have : sg (k * k) = 1 := by
    have := Int.mul_pos hk hk
    rcases sg_cases (k * k) with ⟨h, e⟩ | ⟨h, e⟩ | ⟨h, e⟩ <;> omega
  rw [this, Int.mul_one]
/-- a multiple under the root -/
theorem rsign_under (k p q d : Int) (hk : 0 ≤ k) : rsign p (k * q) d = rsign p q (k * k * d) := by
  unfold rsign
  rw [Int.mul_comm k q, ← ss_mul q k hk]
  congr 1
  grind
theorem rsign_flat (p d : Int) : rsign p 0 d = sg p := by
  unfold rsign
  rw [ss_zero, Int.zero_mul, Int.add_zero, sg_ss]
theorem rsign_flat0 (p q : Int) : rsign p q 0 = sg p := by
  unfold rsign
  rw [Int.mul_zero, Int.add_zero, sg_ss]
theorem rsign_mono {p u q d : Int} (h : p ≤ u) : rsign p q d ≤ rsign u q d := by
  unfold rsign
  apply sg_mono
  have := ss_le h
  omega
end Go.Proofs.Ytnienpalbfgflaa.Pl
