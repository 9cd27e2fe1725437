/- numtext: tens, nearest, signed. -/
import Derived.Test.YtpfkijjpophobaaKept
import Derived.Test.YtpfkijjpophobaaChecked
import Derived.Lib.Hide
namespace Go.Proofs.Ytpfkijjpophobaa
set_option linter.unusedVariables false
open Go.RowKit

theorem tens_any (n : Nat) (hn : n ≤ 18) (W : World) :
    Calls Try.prog 37 #[.int .i64 (n : Int)] W fun e w' => e = .returned (.int .i64 ((10 ^ n : Nat) : Int)) ∧ W = w' := by
  go_enter Try.func37, Try.ntmps37
  go_wp2_with fail
  go_loopw [3, 5] (fun p i wr => ∃ k : Nat, i = .int .i64 (k : Int) ∧ k ≤ n ∧ p = .int .i64 ((10 ^ k : Nat) : Int) ∧ wr = W) (fun _ i _ => ((n : Int) - intOf i).toNat)
  case atStart => exact ⟨0, rfl, by omega, rfl, rfl⟩
  case round =>
    obtain ⟨k, rfl, hk, rfl, rfl⟩ := hrel
    rcases Nat.lt_or_eq_of_le hk with hlt | rfl
    · have hlt' : (k : Int) < (n : Int) := by omega
      have hb : 10 ^ k ≤ 10 ^ 17 := Nat.pow_le_pow_right (by omega) (by omega)
      obtain ⟨T, hT⟩ : ∃ T : Nat, T = 10 ^ k := ⟨_, rfl⟩
      rw [← hT] at hb ⊢
      have HT := Lib.hid hT
      have hb1 : (T : Int) ≤ 100000000000000000 := by omega
      have hb2 : (0 : Int) ≤ (T : Int) := by omega
      clear hT hb
      go_wp2_with fail
      go_roundw
      case rel => exact ⟨k + 1, by simp, by omega, by rw [Nat.pow_succ, ← HT.out]; simp, trivial⟩
      case measure => simp [intOf] <;> omega
    · go_wp2_with fail
      go_ret
      exact ⟨rfl, rfl⟩

/-- the nearest whole number to a / b, of two as near the even one -/
def Pl.nst (a b : Int) : Int := if a % b > b - a % b ∨ (a % b = b - a % b ∧ (a / b) % 2 = 1) then a / b + 1 else a / b
set_option maxRecDepth 100000 in
theorem nearest_any (a b : Int) (ha : 0 ≤ a ∧ a ≤ 4611686018427387904) (hb : 1 ≤ b ∧ b ≤ 1000000000000000) (W : World) :
    Calls Try.prog 38 #[.int .i64 a, .int .i64 b] W fun e w' => e = .returned (.int .i64 (Pl.nst a b)) ∧ Grown W w' := by
  obtain ⟨ha0, ha1⟩ := ha
  obtain ⟨hb0, hb1⟩ := hb
  have r0 := Int.emod_nonneg a (show b ≠ 0 by omega)
  have r1 := Int.emod_lt_of_pos a (show 0 < b by omega)
  have q0 : 0 ≤ a / b := Int.ediv_nonneg ha0 (by omega)
  have q1 : a / b ≤ a := Int.ediv_le_self b ha0
  have hne : ¬ b = 0 := by omega
  have hN : Hid (Pl.nst a b = if a % b > b - a % b ∨ (a % b = b - a % b ∧ (a / b) % 2 = 1) then a / b + 1 else a / b) := Lib.hid rfl
  obtain ⟨q, hqq⟩ : ∃ q, q = a / b := ⟨_, rfl⟩
  obtain ⟨r, hrr⟩ : ∃ r, r = a % b := ⟨_, rfl⟩
  rw [← hqq, ← hrr] at hN
  rw [← hqq] at q0 q1
  rw [← hrr] at r0 r1
  have hq : a / b = q := hqq.symm
  have hr : a % b = r := hrr.symm
  obtain ⟨d, hdd⟩ : ∃ d, d = b - r := ⟨_, rfl⟩
  rw [← hdd] at hN
  have hd : b - r = d := hdd.symm
  have d0 : 1 ≤ d := by omega
  have d1 : d ≤ 1000000000000000 := by omega
  clear hqq hrr hdd
  go_enter Try.func38, Try.ntmps38
  go_wp2_with fail
  go_region
  all_goals
    go_wp2_with fail
    all_goals
      go_ret
      refine ⟨?_, by (repeat (first | exact Grown.refl _ | assumption | apply Grown.drew))⟩
      refine ret_int ?_
      rw [hN.out]
      clear hN
      try simp only [beq_iff_eq, beq_eq_false_iff_ne] at *
      split <;> omega

theorem signed_any (v : Int) (x : Bool) (hv : -4611686018427387904 ≤ v ∧ v ≤ 4611686018427387904) (W : World) :
    Calls Try.prog 36 #[.int .i64 v, .bool x] W fun e w' => e = .returned (.int .i64 (if x then -v else v)) ∧ W = w' := by
  obtain ⟨h0, h1⟩ := hv
  cases x <;>
  · go_enter Try.func36, Try.ntmps36
    go_wp2_with fail
    go_ret
    exact ⟨rfl, rfl⟩
end Go.Proofs.Ytpfkijjpophobaa
