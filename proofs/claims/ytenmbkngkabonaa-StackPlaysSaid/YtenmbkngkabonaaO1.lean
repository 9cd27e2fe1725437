/- The walks of package obj: within, bare. -/
import Derived.Test.YtenmbkngkabonaaRows
import Derived.Test.YtenmbkngkabonaaKit
import Derived.Lib.Hide
namespace Go.Proofs.Ytenmbkngkabonaa
set_option linter.unusedVariables false
open Go.RowKit

theorem within_yes (v l h : Int) (c : l ≤ v ∧ v ≤ h) (w : World) : Calls Try.prog 68 #[.int .i64 v, .int .i64 l, .int .i64 h] w fun e w' => e = .returned (.bool true) ∧ w = w' := by
  obtain ⟨h1, h2⟩ := c
  go_enter Try.func68, Try.ntmps68
  go_wp2
  go_ret
  exact ⟨ret_bool (by first | rfl | (rw [decide_eq_true_eq]; omega)), rfl⟩
theorem within_no (v l h : Int) (c : ¬ (l ≤ v ∧ v ≤ h)) (w : World) : Calls Try.prog 68 #[.int .i64 v, .int .i64 l, .int .i64 h] w fun e w' => e = .returned (.bool false) ∧ w = w' := by
  have hc : v < l ∨ (l ≤ v ∧ h < v) := by omega
  clear c
  rcases hc with h1 | ⟨h1, h2⟩
  all_goals
    go_enter Try.func68, Try.ntmps68
    go_wp2
    go_ret
    exact ⟨ret_bool (by first | rfl | (rw [decide_eq_false_iff_not]; omega)), rfl⟩

/-- an object as the model has it -/
abbrev obv (k : Int) (x : Bool) (n a l : Int) (s : ByteArray) : Value := .agg #[.int .i64 k, .bool x, .int .i64 n, .int .i64 a, .int .i64 l, .string s]

theorem bare_num (k : Int) (x : Bool) (n a l : Int) (s : ByteArray) (hk : k = 2 ∨ k = 3 ∨ k = 4 ∨ k = 7 ∨ k = 10 ∨ k = 11) (w : World) :
    Calls Try.prog 67 #[obv k x n a l s] w fun e w' => e = .returned (obv k false 0 a l s) ∧ Grown w w' := by
  rcases hk with rfl | rfl | rfl | rfl | rfl | rfl
  all_goals
    go_enter Try.func67, Try.ntmps67
    go_wp2
    exact bodyPost_ret (v := obv _ false 0 a l s) (by simp [results, Try.results67, go_sem]) rfl ⟨rfl, by repeat (first | exact Grown.refl _ | apply Grown.drew | apply Grown.alloc)⟩
theorem bare_name (x : Bool) (n a l : Int) (s : ByteArray) (w : World) :
    Calls Try.prog 67 #[obv 5 x n a l s] w fun e w' => e = .returned (obv 5 false n a l ⟨#[]⟩) ∧ Grown w w' := by
  go_enter Try.func67, Try.ntmps67
  go_wp2
  exact bodyPost_ret (v := obv 5 false n a l ⟨#[]⟩) (by simp [results, Try.results67, go_sem]) rfl ⟨rfl, by repeat (first | exact Grown.refl _ | apply Grown.drew | apply Grown.alloc)⟩
theorem bare_row (k : Int) (x : Bool) (n a l : Int) (s : ByteArray) (hk : k = 8 ∨ k = 9) (w : World) :
    Calls Try.prog 67 #[obv k x n a l s] w fun e w' => e = .returned (obv k false 0 0 0 s) ∧ Grown w w' := by
  rcases hk with rfl | rfl
  all_goals
    go_enter Try.func67, Try.ntmps67
    go_wp2
    exact bodyPost_ret (v := obv _ false 0 0 0 s) (by simp [results, Try.results67, go_sem]) rfl ⟨rfl, by repeat (first | exact Grown.refl _ | apply Grown.drew | apply Grown.alloc)⟩
theorem bare_else (k : Int) (x : Bool) (n a l : Int) (s : ByteArray) (hk : ¬ (k = 2 ∨ k = 3 ∨ k = 4 ∨ k = 5 ∨ k = 7 ∨ k = 8 ∨ k = 9 ∨ k = 10 ∨ k = 11)) (w : World) :
    Calls Try.prog 67 #[obv k x n a l s] w fun e w' => e = .returned (obv k false n a l s) ∧ Grown w w' := by
  have k2 : (k == 2) = false := beq_eq_false_iff_ne.2 (by omega)
  have k3 : (k == 3) = false := beq_eq_false_iff_ne.2 (by omega)
  have k4 : (k == 4) = false := beq_eq_false_iff_ne.2 (by omega)
  have k5 : (k == 5) = false := beq_eq_false_iff_ne.2 (by omega)
  have k7 : (k == 7) = false := beq_eq_false_iff_ne.2 (by omega)
  have k8 : (k == 8) = false := beq_eq_false_iff_ne.2 (by omega)
  have k9 : (k == 9) = false := beq_eq_false_iff_ne.2 (by omega)
  have k10 : (k == 10) = false := beq_eq_false_iff_ne.2 (by omega)
  have k11 : (k == 11) = false := beq_eq_false_iff_ne.2 (by omega)
  clear hk
  go_enter Try.func67, Try.ntmps67
  go_wp2
  exact bodyPost_ret (v := obv k false n a l s) (by simp [results, Try.results67, go_sem]) rfl ⟨rfl, by repeat (first | exact Grown.refl _ | apply Grown.drew | apply Grown.alloc)⟩
end Go.Proofs.Ytenmbkngkabonaa
