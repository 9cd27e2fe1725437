/- ArithBits: the four walks joined. -/
import Derived.Test.YtfmmomdmemcbbaaL18b1
import Derived.Test.YtfmmomdmemcbbaaL18b2
import Derived.Test.YtfmmomdmemcbbaaL18b3
namespace Go.Proofs.Ytfmmomdmemcbbaa
set_option linter.unusedVariables false
open Go.RowKit

theorem law_ArithBits (a b : Int) (p q : Bool) (w0 : (Lit.int .i32 a).wf = true) (w1 : (Lit.int .i32 b).wf = true) (w : World) :
    Calls Try.prog 4 #[.int .i32 a, .int .i32 b, .bool p, .bool q] w fun en w' => en = .returned (.bool true) ∧ Kept w w' := by
  have ha : -2147483648 ≤ a ∧ a ≤ 2147483647 := by simp [Lit.wf, IntKind.min, IntKind.max, IntKind.signed, IntKind.bits] at w0; omega
  have hb : -2147483648 ≤ b ∧ b ≤ 2147483647 := by simp [Lit.wf, IntKind.min, IntKind.max, IntKind.signed, IntKind.bits] at w1; omega
  cases p <;> cases q
  · exact walk_bits_00 a b ha hb _ _ rfl rfl w
  · exact walk_bits_01 a b ha hb _ _ rfl rfl w
  · exact walk_bits_10 a b ha hb _ _ rfl rfl w
  · exact walk_bits_11 a b ha hb _ _ rfl rfl w
end Go.Proofs.Ytfmmomdmemcbbaa
