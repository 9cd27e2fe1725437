/- The walks of wide.more, wide.signed and wide.under. -/
import Derived.Test.YtedidjdifobclaaW2
namespace Go.Proofs.Ytedidjdifobclaa
set_option linter.unusedVariables false
open Go.RowKit

theorem more_stay (q : Int) (w : World) :
    Calls Try.prog 75 #[.int .u64 q, .bool false] w fun e w' => e = .returned (.tuple #[.int .u64 q, .bool true]) ∧ w = w' := by
  go_enter Try.func75, Try.ntmps75
  go_wp2
  go_ret2
  exact ⟨rfl, rfl⟩
theorem more_up (q : Int) (h : 0 ≤ q ∧ q < 18446744073709551615) (w : World) :
    Calls Try.prog 75 #[.int .u64 q, .bool true] w fun e w' => e = .returned (.tuple #[.int .u64 (q + 1), .bool true]) ∧ w = w' := by
  have h1 : (q + 1 != 0) = true := by rw [bne_iff_ne]; omega
  go_enter Try.func75, Try.ntmps75
  go_wp2
  go_ret2
  exact ⟨rfl, rfl⟩
theorem more_over (w : World) :
    Calls Try.prog 75 #[.int .u64 18446744073709551615, .bool true] w fun e w' => e = .returned (.tuple #[.int .u64 0, .bool false]) ∧ w = w' := by
  go_enter Try.func75, Try.ntmps75
  go_wp2
  go_ret2
  exact ⟨rfl, rfl⟩

theorem signed_below (q : Int) (h : 0 ≤ q ∧ q ≤ 9223372036854775808) (w : World) :
    Calls Try.prog 76 #[.int .u64 q, .bool true] w fun e w' => e = .returned (.tuple #[.int .i64 (-q), .bool true]) ∧ w = w' := by
  go_enter Try.func76, Try.ntmps76
  go_wp2
  go_ret2
  exact ⟨ret_ib (by simp only [wrap64, IntKind.wrap_u64]; omega) rfl, rfl⟩
theorem signed_above (q : Int) (h : 0 ≤ q ∧ q < 9223372036854775808) (w : World) :
    Calls Try.prog 76 #[.int .u64 q, .bool false] w fun e w' => e = .returned (.tuple #[.int .i64 q, .bool true]) ∧ w = w' := by
  go_enter Try.func76, Try.ntmps76
  go_wp2
  go_ret2
  exact ⟨rfl, rfl⟩
theorem signed_no (q : Int) (s : Bool) (h : if s then 9223372036854775808 < q else 9223372036854775808 ≤ q) (w : World) :
    Calls Try.prog 76 #[.int .u64 q, .bool s] w fun e w' => e = .returned (.tuple #[.int .i64 0, .bool false]) ∧ w = w' := by
  cases s <;> simp only [if_true, Bool.false_eq_true, if_false] at h
  all_goals
    go_enter Try.func76, Try.ntmps76
    go_wp2
    go_ret2
    exact ⟨rfl, rfl⟩
theorem under_any (a b d : Int) (w : World) :
    Calls Try.prog 77 #[.int .i64 a, .int .i64 b, .int .i64 d] w fun e w' => e = .returned (.bool (Pl.sgn3 a b d)) ∧ w = w' := by
  cases sa : decide (a < 0) <;> cases sb : decide (b < 0) <;> cases sd : decide (d < 0)
  all_goals
    have K : Pl.sgn3 a b d = ((decide (a < 0) != decide (b < 0)) != decide (d < 0)) := rfl
    rw [sa, sb, sd] at K
    simp at K
    go_enter Try.func77, Try.ntmps77
    go_wp2
    go_ret
    exact ⟨ret_bool (by rw [K]), rfl⟩
end Go.Proofs.Ytedidjdifobclaa
