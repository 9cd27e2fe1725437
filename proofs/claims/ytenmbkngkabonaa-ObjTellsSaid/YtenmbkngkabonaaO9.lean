/- The walk of obj.Num at any object. -/
import Derived.Test.YtenmbkngkabonaaO8
namespace Go.Proofs.Ytenmbkngkabonaa
set_option linter.unusedVariables false
open Go.RowKit

theorem num_by3 (x : Bool) (n a l : Int) (s : ByteArray) (v : Int) (ok : Bool) (C : Hid (∀ W, Calls Try.prog 71 #[.int .i64 n] W fun e w' => e = Ending.returned (.tuple #[.int .i64 v, .bool ok]) ∧ Grown W w')) (w : World) :
    Calls Try.prog 45 #[obv 3 x n a l s] w fun e w' => e = Ending.returned (.tuple #[.int .i64 v, .bool ok]) ∧ Grown w w' := by
  go_enter Try.func45, Try.ntmps45
  go_wp2_with fail
  refine (C.out _).mono ?_
  rintro e w1 ⟨rfl, g1⟩
  go_wp2
  go_ret2
  exact ⟨rfl, grown_trans (by (repeat (first | exact Grown.refl _ | assumption | apply Grown.drew | apply Grown.alloc))) g1⟩
theorem num_by4 (x : Bool) (n a l : Int) (s : ByteArray) (v : Int) (ok : Bool) (C : Hid (∀ W, Calls Try.prog 72 #[.int .i64 n, .int .i64 0] W fun e w' => e = Ending.returned (.tuple #[.int .i64 v, .bool ok]) ∧ Grown W w')) (w : World) :
    Calls Try.prog 45 #[obv 4 x n a l s] w fun e w' => e = Ending.returned (.tuple #[.int .i64 v, .bool ok]) ∧ Grown w w' := by
  go_enter Try.func45, Try.ntmps45
  go_wp2_with fail
  refine (C.out _).mono ?_
  rintro e w1 ⟨rfl, g1⟩
  go_wp2
  go_ret2
  exact ⟨rfl, grown_trans (by (repeat (first | exact Grown.refl _ | assumption | apply Grown.drew | apply Grown.alloc))) g1⟩
theorem num_else (k : Int) (x : Bool) (n a l : Int) (s : ByteArray) (k3 : (k == 3) = false) (k4 : (k == 4) = false) (w : World) :
    Calls Try.prog 45 #[obv k x n a l s] w fun e w' => e = Ending.returned (.tuple #[.int .i64 0, .bool false]) ∧ Grown w w' := by
  go_enter Try.func45, Try.ntmps45
  go_wp2
  go_ret2
  exact ⟨rfl, by (repeat (first | exact Grown.refl _ | assumption | apply Grown.drew | apply Grown.alloc))⟩
/-- what Num tells of an object: whether it is run plays no part -/
theorem num_ex (k n a l : Int) (s : ByteArray) : ∃ (v : Int) (ok : Bool), ∀ x w, Calls Try.prog 45 #[obv k x n a l s] w fun e w' => e = Ending.returned (.tuple #[.int .i64 v, .bool ok]) ∧ Grown w w' := by
  by_cases h3 : k = 3
  · subst h3
    by_cases h : -16383 ≤ n ∧ n ≤ 16383
    · exact ⟨n * 65536, true, fun x w => num_by3 x n a l s _ _ (Lib.hid fun W => (ffrom_ok n h W).mono fun e W' ⟨he, hw⟩ => ⟨he, hw ▸ Grown.refl _⟩) w⟩
    · exact ⟨0, false, fun x w => num_by3 x n a l s _ _ (Lib.hid fun W => (ffrom_no n h W).mono fun e W' ⟨he, hw⟩ => ⟨he, hw ▸ Grown.refl _⟩) w⟩
  by_cases h4 : k = 4
  · subst h4
    by_cases h : Pl.fx n ∧ Pl.fx 0 ∧ Pl.fx (n + 0)
    · exact ⟨n + 0, true, fun x w => num_by4 x n a l s _ _ (Lib.hid fun W => fadd_ok n 0 h.1 h.2.1 h.2.2 W) w⟩
    · exact ⟨0, false, fun x w => num_by4 x n a l s _ _ (Lib.hid fun W => fadd_no n 0 h W) w⟩
  exact ⟨0, false, fun x w => num_else k x n a l s (Pl.nek h3) (Pl.nek h4) w⟩
end Go.Proofs.Ytenmbkngkabonaa
