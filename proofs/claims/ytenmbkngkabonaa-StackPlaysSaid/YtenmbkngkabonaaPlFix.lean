/- Plain facts on fixes: numbers with sixteen binary places. -/
import Derived.Test.YtenmbkngkabonaaPlWide
namespace Go.Proofs.Ytenmbkngkabonaa.Pl
set_option linter.unusedVariables false

/-- is it a fix that may be? -/
def fx (a : Int) : Prop := -1073741823 ≤ a ∧ a ≤ 1073741823
instance (v : Int) : Decidable (fx v) := by unfold fx; exact inferInstance

/-- the nearest one that may be -/
def clamp (a : Int) : Int := if a < -1073741823 then -1073741823 else if 1073741823 < a then 1073741823 else a
theorem clamp_fx {a : Int} (h : fx a) : clamp a = a := by unfold fx at h; unfold clamp; rw [if_neg (by omega), if_neg (by omega)]
theorem clamp_bd (a : Int) : -1073741823 ≤ clamp a ∧ clamp a ≤ 1073741823 := by unfold clamp; (repeat' split) <;> omega
def fwhole (a : Int) : Int := clamp a / 65536
def ffloor (a : Int) : Int := clamp a / 65536 * 65536
def fceil (a : Int) : Int := -(-clamp a / 65536 * 65536)
def fround (a : Int) : Int := if 32768 < clamp a - ffloor a ∨ (clamp a - ffloor a = 32768 ∧ fwhole a % 2 = 1) then ffloor a + 65536 else ffloor a
def ftrunc (a : Int) : Int := if a < 0 then fceil a else ffloor a

/-- Go's remainder, made one from 0 on -/
theorem place_eq (v n : Int) (hn : 0 < n) : (if v.tmod n < 0 then v.tmod n + n else v.tmod n) = v % n := by
  by_cases hv : 0 ≤ v
  · rw [if_neg (by have := Int.tmod_nonneg n hv; omega), Int.tmod_eq_emod_of_nonneg hv]
  · have h3 : v.tmod n = -((-v) % n) := by
      rw [← Int.neg_neg v, Int.neg_tmod, Int.tmod_eq_emod_of_nonneg (by omega)]; simp
    have h1 := Int.emod_nonneg (-v) (show n ≠ 0 by omega)
    have h2 := Int.emod_lt_of_pos (-v) hn
    by_cases e : (-v) % n = 0
    · rw [h3, e]
      simp
      have := Int.dvd_of_emod_eq_zero e
      exact (Int.emod_eq_zero_of_dvd ((Int.dvd_neg).1 this)).symm
    · rw [if_pos (by omega), h3]
      rw [Int.neg_emod] at e ⊢
      by_cases hd : n ∣ v
      · rw [if_pos hd] at e; exact absurd rfl e
      · rw [if_neg hd]
        have hnn : (n.natAbs : Int) = n := by omega
        omega
end Go.Proofs.Ytenmbkngkabonaa.Pl
