/- obj.Same at any two objects: what it tells does not hang on Exec, nor on the order. -/
import Derived.Test.YtenmbkngkabonaaO11
namespace Go.Proofs.Ytenmbkngkabonaa
set_option linter.unusedVariables false
open Go.RowKit

theorem same_ex (k n a l : Int) (s : ByteArray) (k' n' a' l' : Int) (s' : ByteArray) : ∃ r : Bool,
    (∀ x x' w, SameIs r k x n a l s k' x' n' a' l' s' w) ∧ (∀ x x' w, SameIs r k' x' n' a' l' s' k x n a l s w) := by
  obtain ⟨z, ok, _, _, C⟩ := size_any k false n a l s
  obtain ⟨z', ok', _, _, C'⟩ := size_any k' false n' a' l' s'
  have N := fun x x' W => numbers_by k x n a l s k' x' n' a' l' s' z z' ok ok' (Lib.hid fun W => C x W) (Lib.hid fun W => C' x' W) W
  have M := fun x x' W => numbers_by k' x n' a' l' s' k x' n a l s z' z ok' ok (Lib.hid fun W => C' x W) (Lib.hid fun W => C x' W) W
  rw [Bool.and_comm ok' ok] at M
  cases hb : (ok && ok') with
  | true =>
    rw [hb] at N M
    refine ⟨z == z', fun x x' w => same_nums k x n a l s k' x' n' a' l' s' z z' (Lib.hid fun W => N x x' W) w, fun x x' w => ?_⟩
    rw [show (z == z') = (z' == z) from Bool.eq_iff_iff.2 ⟨fun h => beq_iff_eq.2 (beq_iff_eq.1 h).symm, fun h => beq_iff_eq.2 (beq_iff_eq.1 h).symm⟩]
    exact same_nums k' x' n' a' l' s' k x n a l s z' z (Lib.hid fun W => M x' x W) w
  | false =>
    rw [hb] at N M
    by_cases e : k = k' ∧ n = n' ∧ a = a' ∧ l = l' ∧ s = s'
    · exact ⟨true, fun x x' w => same_off k n a l s k' n' a' l' s' z z' true (by simp [e]) (Lib.hid N) x x' w,
        fun x x' w => same_off k' n' a' l' s' k n a l s z' z true (by simp [e]) (Lib.hid M) x' x w⟩
    · exact ⟨false, fun x x' w => same_off k n a l s k' n' a' l' s' z z' false ⟨fun h => (by cases h), fun h => absurd h e⟩ (Lib.hid N) x x' w,
        fun x x' w => same_off k' n' a' l' s' k n a l s z' z false ⟨fun h => (by cases h), fun h => absurd ⟨h.1.symm, h.2.1.symm, h.2.2.1.symm, h.2.2.2.1.symm, h.2.2.2.2.symm⟩ e⟩ (Lib.hid M) x' x w⟩
theorem same_self (k n a l : Int) (s : ByteArray) (x x' : Bool) (w : World) : SameIs true k x n a l s k x' n a l s w := by
  obtain ⟨z, ok, _, _, C⟩ := size_any k false n a l s
  have N := fun x x' W => numbers_by k x n a l s k x' n a l s z z ok ok (Lib.hid fun W => C x W) (Lib.hid fun W => C x' W) W
  cases hb : (ok && ok) with
  | true =>
    rw [hb] at N
    have := same_nums k x n a l s k x' n a l s z z (Lib.hid fun W => N x x' W) w
    rw [beq_self_eq_true] at this
    exact this
  | false =>
    rw [hb] at N
    exact same_off k n a l s k n a l s z z true (by simp) (Lib.hid N) x x' w
end Go.Proofs.Ytenmbkngkabonaa
