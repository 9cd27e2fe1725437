/- ArithTells: both lengths joined. -/
import Derived.Test.YtfmmomdmemcbbaaGreatZh
namespace Go.Proofs.YtfmmomdmemcbbaaGreat
set_option linter.unusedVariables false
open Go.RowKit
theorem law_ArithTells (v0 : Value) (A : List Pl.Ob) (n : Int) (w : World) (h0 : RowV w v0 A ∧ A.length ≤ maxLen) (w1 : (Lit.int .i64 n).wf = true) :
    Calls Tryz.prog 3 #[v0, .int .i64 n] w fun en w' => en = .returned (.bool true) ∧ Kept w w' := by
  have hn : -9223372036854775808 ≤ n ∧ n ≤ 9223372036854775807 := by simp [Lit.wf, IntKind.min, IntKind.max, IntKind.signed, IntKind.bits] at w1; omega
  by_cases h : A.length ≤ 250
  · exact tells_main v0 A n w h0.1 hn h
  · exact tells_long v0 A n w h0.1 hn ⟨by omega, h0.2⟩
end Go.Proofs.YtfmmomdmemcbbaaGreat
