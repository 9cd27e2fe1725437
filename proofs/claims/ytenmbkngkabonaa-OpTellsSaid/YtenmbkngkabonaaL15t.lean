/- The walk of tympanlaw15.OpTells. -/
import Derived.Test.YtenmbkngkabonaaP9
import Derived.Test.YtenmbkngkabonaaL15
namespace Go.Proofs.Ytenmbkngkabonaa
set_option linter.unusedVariables false
open Go.RowKit

theorem tells15_far (n : Int) (s : ByteArray) (h : 300 < (s.size : Int)) (w : World) :
    Calls Try.prog 3 #[.int .i64 n, .string s] w fun e w' => e = .returned (.bool true) ∧ Kept w w' := by
  go_enter Try.func3, Try.ntmps3
  go_wp2_with fail
  refine (known15 _).mono ?_
  rintro e w1 ⟨rfl, g1⟩
  go_wp2_with fail
  go_ret
  exact ⟨rfl, Kept.of_grown g1⟩

theorem tells15_near (n k f : Int) (ok : Bool) (s X : ByteArray) (h : (s.size : Int) ≤ 300)
    (U1 : Hid (∀ w, Calls Try.prog 16 #[.string s] w fun e w' => e = .returned (.tuple #[.int .i64 k, .bool ok]) ∧ Grown w w'))
    (U2 : Hid (∀ w, Calls Try.prog 17 #[.string s] w fun e w' => e = .returned (.tuple #[.int .i64 k, .bool ok]) ∧ Kept w w'))
    (N1 : Hid (∀ w, Calls Try.prog 20 #[.int .i64 n] w fun e w' => e = .returned (.string X) ∧ Grown w w'))
    (N2 : Hid (∀ w, Calls Try.prog 21 #[.int .i64 n] w fun e w' => e = .returned (.string X) ∧ Kept w w'))
    (F1 : Hid (∀ w, Calls Try.prog 22 #[.int .i64 n] w fun e w' => e = .returned (.int .i64 f) ∧ Grown w w'))
    (F2 : Hid (∀ w, Calls Try.prog 23 #[.int .i64 n] w fun e w' => e = .returned (.int .i64 f) ∧ Kept w w')) (w : World) :
    Calls Try.prog 3 #[.int .i64 n, .string s] w fun e w' => e = .returned (.bool true) ∧ Kept w w' := by
  have hX : (X.toList == X.toList) = true := by simp
  go_enter Try.func3, Try.ntmps3
  go_wp2_with fail
  refine (known15 _).mono ?_
  rintro e w1 ⟨rfl, g1⟩
  go_wp2_with fail
  refine (U1.out _).mono ?_
  rintro e w2 ⟨rfl, g2⟩
  go_wp2_with fail
  refine (U2.out _).mono ?_
  rintro e w3 ⟨rfl, g3⟩
  go_wp2_with fail
  refine (count_any _).mono ?_
  rintro e w4 ⟨rfl, g4⟩
  go_wp2_with fail
  refine (refcount_any _).mono ?_
  rintro e w5 ⟨rfl, g5⟩
  go_wp2_with fail
  refine (N1.out _).mono ?_
  rintro e w6 ⟨rfl, g6⟩
  go_wp2_with fail
  refine (N2.out _).mono ?_
  rintro e w7 ⟨rfl, g7⟩
  go_wp2_with fail
  refine (F1.out _).mono ?_
  rintro e w8 ⟨rfl, g8⟩
  go_wp2_with fail
  refine (F2.out _).mono ?_
  rintro e w9 ⟨rfl, g9⟩
  go_wp2_with fail
  go_ret
  exact ⟨rfl, (((((((((Kept.of_grown g1).trans (.of_grown g2)).trans g3).trans (.of_grown g4)).trans g5).trans (.of_grown g6)).trans g7).trans (.of_grown g8)).trans g9)⟩

theorem walk_OpTells (n : Int) (s : ByteArray) (hn : (Lit.int .i64 n).wf = true) (w : World) :
    Calls Try.prog 3 #[.int .i64 n, .string s] w fun e w' => e = .returned (.bool true) ∧ Kept w w' := by
  have hn : -9223372036854775808 ≤ n ∧ n ≤ 9223372036854775807 := by simp [Lit.wf, IntKind.min, IntKind.max, IntKind.signed, IntKind.bits] at hn; omega
  by_cases h : 300 < (s.size : Int)
  · exact tells15_far n s h w
  obtain ⟨T, hT⟩ : ∃ T, Pl.OpT3 T := ⟨_, Pl.opT3_is⟩
  exact tells15_near n _ _ _ s _ (by omega) (Lib.hid fun w => number_any T hT.1.1 s w) (Lib.hid fun w => refnumber_any T hT s w) (Lib.hid fun w => name_any T hT.1.1 n w) (Lib.hid fun w => refname_any T hT n w)
    (Lib.hid fun w => family_any T hT.1.1 n w) (Lib.hid fun w => reffamily_any T hT n hn w) w
end Go.Proofs.Ytenmbkngkabonaa
