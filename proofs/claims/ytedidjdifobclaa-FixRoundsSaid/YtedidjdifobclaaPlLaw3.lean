/- Plain facts on fixes: shares and products there and back, roundings. -/
import Derived.Test.YtedidjdifobclaaPlFix
import Derived.Test.YtedidjdifobclaaPlLaw1
namespace Go.Proofs.Ytedidjdifobclaa.Pl
set_option linter.unusedVariables false

theorem share_comm (a b d : Int) : share a b d = share b a d := by
  have e : sgn3 a b d = sgn3 b a d := by unfold sgn3; cases decide (a < 0) <;> cases decide (b < 0) <;> rfl
  unfold share
  rw [e, Int.mul_comm (mag a)]
/-- a share times what it was shared by -/
theorem shares_law (x y q v : Int) (hx : fx x) (hy : fx y) (h0 : y ≠ 0) (hq : share x 65536 y = q) (hv : share q y 65536 = v) (hqf : fx q) :
    -1048576 ≤ v - x ∧ v - x ≤ 1048576 ∧ 2 * (v - x) * 65536 ≤ mag y + 65536 ∧ -(2 * (v - x) * 65536) ≤ mag y + 65536 ∧ (¬ fx v → 1073709055 < x ∨ x < -1073709055) := by
  have h1 := share_near x 65536 y h0
  have h2 := share_near q y 65536 (by decide)
  rw [hq] at h1
  rw [hv] at h2
  have hm : mag y ≤ 1073741823 := by unfold fx at hy; unfold mag; split <;> omega
  have h3 : mag 65536 = 65536 := by decide
  rw [h3] at h2
  generalize q * y = z at *
  unfold fx at *
  refine ⟨by omega, by omega, by omega, by omega, fun h => by omega⟩

theorem tmod_zero {v m : Int} (h : v % m = 0) : v.tmod m = 0 := Int.tmod_eq_zero_of_dvd (Int.dvd_of_emod_eq_zero h)
/-- the whole numbers around a fix -/
theorem rounds_law (x : Int) (hx : fx x) :
    ffloor x % 65536 = 0 ∧ fceil x % 65536 = 0 ∧ fround x % 65536 = 0 ∧ ftrunc x % 65536 = 0 ∧
    (-1073741824 ≤ ffloor x ∧ ffloor x ≤ 1073741824) ∧ (-1073741824 ≤ fceil x ∧ fceil x ≤ 1073741824) ∧ (-1073741824 ≤ fround x ∧ fround x ≤ 1073741824) ∧
    (ffloor x ≤ x ∧ x < ffloor x + 65536) ∧ (x ≤ fceil x ∧ fceil x < x + 65536) ∧ (-32768 ≤ fround x - x ∧ fround x - x ≤ 32768) ∧
    ((fround x - x = 32768 ∨ fround x - x = -32768) → fround x / 65536 % 2 = 0) ∧ (x < 0 → ftrunc x = fceil x) ∧ (0 ≤ x → ftrunc x = ffloor x) ∧ fwhole x * 65536 = ffloor x ∧ ffloor (-x) = -fceil x := by
  have hc := clamp_fx hx
  have hc' : clamp (-x) = -x := clamp_fx (by unfold fx at *; omega)
  unfold fx at hx
  have h1 : ffloor x = x / 65536 * 65536 := by unfold ffloor; rw [hc]
  have h2 : fceil x = -(-x / 65536 * 65536) := by unfold fceil; rw [hc]
  have h3 : fround x = if 32768 < x - ffloor x ∨ (x - ffloor x = 32768 ∧ x / 65536 % 2 = 1) then ffloor x + 65536 else ffloor x := by unfold fround fwhole; rw [hc]
  have h4 : ffloor (-x) = -x / 65536 * 65536 := by unfold ffloor; rw [hc']
  have h5 : fwhole x = x / 65536 := by unfold fwhole; rw [hc]
  have h6 : x < 0 → ftrunc x = fceil x := fun h => by unfold ftrunc; rw [if_pos h]
  have h7 : 0 ≤ x → ftrunc x = ffloor x := fun h => by unfold ftrunc; rw [if_neg (by omega)]
  have h8 : ftrunc x % 65536 = 0 := by
    by_cases h : x < 0
    · rw [h6 h, h2]; omega
    · rw [h7 (by omega), h1]; omega
  refine ⟨by omega, by omega, ?_, h8, by omega, by omega, ?_, by omega, by omega, ?_, ?_, h6, h7, by omega, by omega⟩
  all_goals (rw [h3, h1]; split <;> omega)
end Go.Proofs.Ytedidjdifobclaa.Pl
