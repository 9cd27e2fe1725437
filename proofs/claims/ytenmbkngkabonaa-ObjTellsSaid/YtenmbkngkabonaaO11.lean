/- obj.Same at any two objects, joined: it does not hang on Exec, nor on the order. -/
import Derived.Test.YtenmbkngkabonaaO10
namespace Go.Proofs.Ytenmbkngkabonaa
set_option linter.unusedVariables false
open Go.RowKit

abbrev SameIs (r : Bool) (k : Int) (x : Bool) (n a l : Int) (s : ByteArray) (k' : Int) (x' : Bool) (n' a' l' : Int) (s' : ByteArray) (w : World) : Prop :=
  Calls Try.prog 34 #[obv k x n a l s, obv k' x' n' a' l' s'] w fun e w' => e = Ending.returned (.bool r) ∧ Grown w w'

/-- the fields that are not numbers' own: alike or not -/
theorem same_off (k n a l : Int) (s : ByteArray) (k' n' a' l' : Int) (s' : ByteArray) (z z' : Int) (r : Bool) (hr : r = true ↔ (k = k' ∧ n = n' ∧ a = a' ∧ l = l' ∧ s = s'))
    (N : Hid (∀ x x' W, Calls Try.prog 66 #[obv k x n a l s, obv k' x' n' a' l' s'] W fun e w' => e = Ending.returned (.tuple #[.int .i64 z, .int .i64 z', .bool false]) ∧ Grown W w')) (x x' : Bool) (w : World) :
    SameIs r k x n a l s k' x' n' a' l' s' w := by
  by_cases hk : k = k'
  case neg =>
    have : r = false := by cases r with | false => rfl | true => exact absurd (hr.1 rfl).1 hk
    subst this
    exact same_no_k k x n a l s x' k' n' a' l' s' z z' (Lib.hid fun W => N.out x x' W) (Pl.nek hk) w
  subst hk
  by_cases hn : n = n'
  case neg =>
    have : r = false := by cases r with | false => rfl | true => exact absurd (hr.1 rfl).2.1 hn
    subst this
    exact same_no_n k x n a l s x' n' a' l' s' z z' (Lib.hid fun W => N.out x x' W) (Pl.nek hn) w
  subst hn
  by_cases ha : a = a'
  case neg =>
    have : r = false := by cases r with | false => rfl | true => exact absurd (hr.1 rfl).2.2.1 ha
    subst this
    exact same_no_a k x n a l s x' a' l' s' z z' (Lib.hid fun W => N.out x x' W) (Pl.nek ha) w
  subst ha
  by_cases hl : l = l'
  case neg =>
    have : r = false := by cases r with | false => rfl | true => exact absurd (hr.1 rfl).2.2.2.1 hl
    subst this
    exact same_no_l k x n a l s x' l' s' z z' (Lib.hid fun W => N.out x x' W) (Pl.nek hl) w
  subst hl
  by_cases hs : s = s'
  case neg =>
    have : r = false := by cases r with | false => rfl | true => exact absurd (hr.1 rfl).2.2.2.2 hs
    subst this
    refine same_no_s k x n a l s x' s' z z' (Lib.hid fun W => N.out x x' W) (beq_eq_false_iff_ne.2 fun e => hs ?_) w
    rw [ByteArray.toList_eq, ByteArray.toList_eq] at e
    obtain ⟨d⟩ := s
    obtain ⟨d'⟩ := s'
    simp at e
    subst e
    rfl
  subst hs
  have : r = true := hr.2 ⟨rfl, rfl, rfl, rfl, rfl⟩
  subst this
  exact same_yes k x x' n a l s z z' (Lib.hid fun W => N.out x x' W) (by simp) w
end Go.Proofs.Ytenmbkngkabonaa
