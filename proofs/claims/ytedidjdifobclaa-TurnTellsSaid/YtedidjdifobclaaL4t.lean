/- The walk of tympanlaw4.TurnTells. -/
import Derived.Test.YtedidjdifobclaaW21
import Derived.Test.YtedidjdifobclaaL4
namespace Go.Proofs.Ytedidjdifobclaa
set_option linter.unusedVariables false
open Go.RowKit

theorem tells4_core (deg y x d s c : Int) (ok : Bool)
    (D1 : Hid (∀ w, Calls Try.prog 52 #[.int .i64 y, .int .i64 x] w fun e w' => e = .returned (.tuple #[.int .i64 d, .bool ok]) ∧ Grown w w'))
    (D2 : Hid (∀ w, Calls Try.prog 69 #[.int .i64 y, .int .i64 x] w fun e w' => e = .returned (.tuple #[.int .i64 d, .bool ok]) ∧ Grown w w'))
    (S1 : Hid (∀ w, Calls Try.prog 50 #[.int .i64 deg] w fun e w' => e = .returned (.int .i64 s) ∧ Grown w w'))
    (S2 : Hid (∀ w, Calls Try.prog 70 #[.int .i64 deg] w fun e w' => e = .returned (.int .i64 s) ∧ Grown w w'))
    (C1 : Hid (∀ w, Calls Try.prog 51 #[.int .i64 deg] w fun e w' => e = .returned (.int .i64 c) ∧ Grown w w'))
    (C2 : Hid (∀ w, Calls Try.prog 71 #[.int .i64 deg] w fun e w' => e = .returned (.int .i64 c) ∧ Grown w w')) (w : World) :
    Calls Try.prog 22 #[.int .i64 deg, .int .i64 y, .int .i64 x] w fun e w' => e = .returned (.bool true) ∧ Grown w w' := by
  go_enter Try.func22, Try.ntmps22
  go_wp2_with fail
  refine (known4 _).mono ?_
  rintro e w1 ⟨rfl, g1⟩
  go_wp2_with fail
  refine (D1.out _).mono ?_
  rintro e w2 ⟨rfl, g2⟩
  go_wp2_with fail
  refine (D2.out _).mono ?_
  rintro e w3 ⟨rfl, g3⟩
  go_wp2_with fail
  refine (S1.out _).mono ?_
  rintro e w4 ⟨rfl, g4⟩
  go_wp2_with fail
  refine (S2.out _).mono ?_
  rintro e w5 ⟨rfl, g5⟩
  go_wp2_with fail
  refine (C1.out _).mono ?_
  rintro e w6 ⟨rfl, g6⟩
  go_wp2_with fail
  refine (C2.out _).mono ?_
  rintro e w7 ⟨rfl, g7⟩
  go_wp2_with fail
  go_ret
  exact ⟨ret_bool (by first | rfl | assumption), grown_trans g1 (grown_trans g2 (grown_trans g3 (grown_trans g4 (grown_trans g5 (grown_trans g6 g7)))))⟩

theorem walk_TurnTells (deg y x : Int) (w0 : (Lit.int .i64 deg).wf = true) (w1 : (Lit.int .i64 y).wf = true) (w2 : (Lit.int .i64 x).wf = true) (w : World) :
    Calls Try.prog 22 #[.int .i64 deg, .int .i64 y, .int .i64 x] w fun e w' => e = .returned (.bool true) ∧ Grown w w' := by
  obtain ⟨d, ok, D1, D2⟩ := dir2_ex y x
  exact tells4_core deg y x d _ _ ok (Lib.hid D1) (Lib.hid D2) (Lib.hid fun w => sin_any deg w) (Lib.hid fun w => sin4_any deg w) (Lib.hid fun w => cos_any deg w) (Lib.hid fun w => cos4_any deg w) w
end Go.Proofs.Ytedidjdifobclaa
