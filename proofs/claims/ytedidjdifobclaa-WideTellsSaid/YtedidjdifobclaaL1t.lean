/- The walk of tympanlaw1.WideTells. -/
import Derived.Test.YtedidjdifobclaaW18
import Derived.Test.YtedidjdifobclaaL1
namespace Go.Proofs.Ytedidjdifobclaa
set_option linter.unusedVariables false
open Go.RowKit

theorem tells1_core (a b c d h q r k : Int) (l : Int) (ok is : Bool)
    (M1 : Hid (∀ w, Calls Try.prog 24 #[.int .i64 a, .int .i64 b] w fun e w' => e = .returned (.tuple #[.int .i64 h, .int .u64 l]) ∧ Grown w w'))
    (M2 : Hid (∀ w, Calls Try.prog 53 #[.int .i64 a, .int .i64 b] w fun e w' => e = .returned (.tuple #[.int .i64 h, .int .u64 l]) ∧ w = w'))
    (D1 : Hid (∀ w, Calls Try.prog 26 #[.int .i64 a, .int .i64 b, .int .i64 d] w fun e w' => e = .returned (.tuple #[.int .i64 q, .bool ok]) ∧ Grown w w'))
    (D2 : Hid (∀ w, Calls Try.prog 54 #[.int .i64 a, .int .i64 b, .int .i64 d] w fun e w' => e = .returned (.tuple #[.int .i64 q, .bool ok]) ∧ Grown w w'))
    (F1 : Hid (∀ w, Calls Try.prog 27 #[.int .i64 a, .int .i64 b, .int .i64 c] w fun e w' => e = .returned (.tuple #[.int .i64 r, .bool is]) ∧ Grown w w'))
    (F2 : Hid (∀ w, Calls Try.prog 55 #[.int .i64 a, .int .i64 b, .int .i64 c] w fun e w' => e = .returned (.tuple #[.int .i64 r, .bool is]) ∧ Grown w w'))
    (C1 : Hid (∀ w, Calls Try.prog 25 #[.int .i64 a, .int .i64 b, .int .i64 c, .int .i64 d] w fun e w' => e = .returned (.int .i64 k) ∧ Grown w w'))
    (C2 : Hid (∀ w, Calls Try.prog 56 #[.int .i64 a, .int .i64 b, .int .i64 c, .int .i64 d] w fun e w' => e = .returned (.int .i64 k) ∧ w = w')) (w : World) :
    Calls Try.prog 20 #[.int .i64 a, .int .i64 b, .int .i64 c, .int .i64 d] w fun e w' => e = .returned (.bool true) ∧ Grown w w' := by
  go_enter Try.func20, Try.ntmps20
  go_wp2_with fail
  refine (known1 _).mono ?_
  rintro e w1 ⟨rfl, g1⟩
  go_wp2_with fail
  refine (M1.out _).mono ?_
  rintro e w2 ⟨rfl, g2⟩
  go_wp2_with fail
  refine (M2.out _).mono ?_
  rintro e w3 ⟨rfl, rfl⟩
  go_wp2_with fail
  refine (D1.out _).mono ?_
  rintro e w3 ⟨rfl, g3⟩
  go_wp2_with fail
  refine (D2.out _).mono ?_
  rintro e w4 ⟨rfl, g4⟩
  go_wp2_with fail
  refine (F1.out _).mono ?_
  rintro e w5 ⟨rfl, g5⟩
  go_wp2_with fail
  refine (F2.out _).mono ?_
  rintro e w6 ⟨rfl, g6⟩
  go_wp2_with fail
  refine (C1.out _).mono ?_
  rintro e w7 ⟨rfl, g7⟩
  go_wp2_with fail
  refine (C2.out _).mono ?_
  rintro e w8 ⟨rfl, rfl⟩
  go_wp2_with fail
  go_ret
  exact ⟨ret_bool (by first | rfl | assumption), grown_trans g1 (grown_trans g2 (grown_trans g3 (grown_trans g4 (grown_trans g5 (grown_trans g6 g7)))))⟩

theorem walk_WideTells (a b c d : Int) (w0 : (Lit.int .i64 a).wf = true) (w1 : (Lit.int .i64 b).wf = true) (w2 : (Lit.int .i64 c).wf = true) (w3 : (Lit.int .i64 d).wf = true) (w : World) :
    Calls Try.prog 20 #[.int .i64 a, .int .i64 b, .int .i64 c, .int .i64 d] w fun e w' => e = .returned (.bool true) ∧ Grown w w' := by
  have ha : -9223372036854775808 ≤ a ∧ a ≤ 9223372036854775807 := by simp [Lit.wf, IntKind.min, IntKind.max, IntKind.signed, IntKind.bits] at w0; omega
  have hb : -9223372036854775808 ≤ b ∧ b ≤ 9223372036854775807 := by simp [Lit.wf, IntKind.min, IntKind.max, IntKind.signed, IntKind.bits] at w1; omega
  have hc : -9223372036854775808 ≤ c ∧ c ≤ 9223372036854775807 := by simp [Lit.wf, IntKind.min, IntKind.max, IntKind.signed, IntKind.bits] at w2; omega
  have hd : -9223372036854775808 ≤ d ∧ d ≤ 9223372036854775807 := by simp [Lit.wf, IntKind.min, IntKind.max, IntKind.signed, IntKind.bits] at w3; omega
  obtain ⟨q, ok, D1, D2, _⟩ := muldiv2_ex a b d ha hb hd
  obtain ⟨r, is, F1, F2⟩ := floor2_ex a b c ha hb hc
  have M1 := fun w => mul_any a b ha hb w
  have M2 := fun w => mul1r_any a b ha hb w
  have C1 := fun w => cmp_any a b c d ha hb hc hd w
  have C2 := fun w => cmp1r_any a b c d ha hb hc hd w
  generalize a * b / 18446744073709551616 = h at *
  generalize a * b % 18446744073709551616 = l at *
  generalize Pl.cmp (a * b) (c * d) = k at *
  exact tells1_core a b c d h q r k l ok is (Lib.hid M1) (Lib.hid M2) (Lib.hid D1) (Lib.hid D2) (Lib.hid F1) (Lib.hid F2) (Lib.hid C1) (Lib.hid C2) w
end Go.Proofs.Ytedidjdifobclaa
