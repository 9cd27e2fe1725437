/- char.Value and the reference's. -/
import Derived.Test.YtpfkijjpophobaaN5
namespace Go.Proofs.Ytpfkijjpophobaa
set_option linter.unusedVariables false
open Go.RowKit

/-- a letter's or a digit's value, or -1 -/
def Pl.cv (c : Int) : Int := if 48 ≤ c ∧ c ≤ 57 then c - 48 else if 97 ≤ c ∧ c ≤ 122 then c - 97 + 10 else if 65 ≤ c ∧ c ≤ 90 then c - 65 + 10 else -1
set_option maxRecDepth 100000 in
theorem value_any (c : Int) (hc : 0 ≤ c ∧ c ≤ 255) (W : World) :
    Calls Try.prog 64 #[.int .u8 c] W fun e w' => e = .returned (.int .i64 (Pl.cv c)) ∧ Grown W w' := by
  obtain ⟨h0, h1⟩ := hc
  have HC : Hid (Pl.cv c = if 48 ≤ c ∧ c ≤ 57 then c - 48 else if 97 ≤ c ∧ c ≤ 122 then c - 97 + 10 else if 65 ≤ c ∧ c ≤ 90 then c - 65 + 10 else -1) := Lib.hid rfl
  go_enter Try.func64, Try.ntmps64
  go_wp2_with fail
  all_goals
    go_ret
    refine ⟨ret_int ?_, by (repeat (first | exact Grown.refl _ | assumption | apply Grown.drew))⟩
    rw [HC.out]
    clear HC
    (repeat split) <;> omega
set_option maxRecDepth 100000 in
theorem rvalue_any (c : Int) (hc : 0 ≤ c ∧ c ≤ 255) (W : World) :
    Calls Try.prog 65 #[.int .u8 c] W fun e w' => e = .returned (.int .i64 (Pl.cv c)) ∧ Grown W w' := by
  obtain ⟨h0, h1⟩ := hc
  have HC : Hid (Pl.cv c = if 48 ≤ c ∧ c ≤ 57 then c - 48 else if 97 ≤ c ∧ c ≤ 122 then c - 97 + 10 else if 65 ≤ c ∧ c ≤ 90 then c - 65 + 10 else -1) := Lib.hid rfl
  go_enter Try.func65, Try.ntmps65
  go_wp2_with fail
  all_goals
    go_ret
    refine ⟨ret_int ?_, by (repeat (first | exact Grown.refl _ | assumption | apply Grown.drew))⟩
    rw [HC.out]
    clear HC
    (repeat split) <;> omega
end Go.Proofs.Ytpfkijjpophobaa
