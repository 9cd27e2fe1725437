/- The walk of tympanlaw1.WideNear at a divisor of 0, and the two ways joined. -/
import Derived.Test.YtedidjdifobclaaL1n
namespace Go.Proofs.Ytedidjdifobclaa
set_option linter.unusedVariables false
open Go.RowKit

theorem near_zero (a b : Int) (ha : -2147483648 ≤ a ∧ a ≤ 2147483647) (hb : -2147483648 ≤ b ∧ b ≤ 2147483647) (w : World) :
    Calls Try.prog 5 #[.int .i32 a, .int .i32 b, .int .i32 0] w fun e w' => e = .returned (.bool true) ∧ Grown w w' := by
  have c1 : ∀ w, _ := fun w => muldiv_no a b 0 (by unfold Pl.i64; omega) (by unfold Pl.i64; omega) (by decide) (.inl rfl) w
  have c2 : ∀ w, _ := fun w => floor_no a b 0 (by unfold Pl.i64; omega) (by unfold Pl.i64; omega) (by decide) (.inl rfl) w
  have C1 := Lib.hid c1; clear c1
  have C2 := Lib.hid c2; clear c2
  go_enter Try.func5, Try.ntmps5
  go_wp2_with fail
  refine (known1 _).mono ?_
  rintro e w1 ⟨rfl, g1⟩
  go_wp2_with fail
  refine (C1.out _).mono ?_
  rintro e w2 ⟨rfl, g2⟩
  go_wp2_with fail
  refine (C2.out _).mono ?_
  rintro e w3 ⟨rfl, g3⟩
  go_wp2_with fail
  go_ret
  exact ⟨rfl, grown_trans g1 (grown_trans g2 g3)⟩

theorem walk_WideNear (a b d : Int) (w0 : (Lit.int .i32 a).wf = true) (w1 : (Lit.int .i32 b).wf = true) (w2 : (Lit.int .i32 d).wf = true) (w : World) :
    Calls Try.prog 5 #[.int .i32 a, .int .i32 b, .int .i32 d] w fun e w' => e = .returned (.bool true) ∧ Grown w w' := by
  by_cases h : d = 0
  · subst h
    exact near_zero a b (bd32 w0) (bd32 w1) w
  · exact near_core a b d _ _ (bd32 w0) (bd32 w1) (bd32 w2) h (Lib.hid rfl) (Lib.hid rfl) w
end Go.Proofs.Ytedidjdifobclaa
