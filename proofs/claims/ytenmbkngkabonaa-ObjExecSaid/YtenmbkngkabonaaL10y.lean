/- tympanlaw10.ObjExec, whatever the input. -/
import Derived.Test.YtenmbkngkabonaaL10x
namespace Go.Proofs.Ytenmbkngkabonaa
set_option linter.unusedVariables false
open Go.RowKit

theorem may_ex (k n a l : Int) (s : ByteArray) : ∃ m : Bool, (m = true ↔ Pl.may k n a l s) ∧ ∀ x W, MayIs m k x n a l s W := by
  by_cases h : Pl.may k n a l s
  · exact ⟨true, by simp [h], fun x W => may_yes k x n a l s h W⟩
  · exact ⟨false, by simp [h], fun x W => may_no k x n a l s h W⟩

theorem walk_ObjExec (k : Int) (x : Bool) (n a l : Int) (s : ByteArray) (k' : Int) (x' : Bool) (n' a' l' : Int) (s' : ByteArray) (y y' : Bool) (w : World) :
    Calls Try.prog 13 #[obv k x n a l s, obv k' x' n' a' l' s', .bool y, .bool y'] w fun e w' => e = Ending.returned (.bool true) ∧ Grown w w' := by
  obtain ⟨z, ok, _, _, C⟩ := size_any k false n a l s
  obtain ⟨z', ok', _, _, C'⟩ := size_any k' false n' a' l' s'
  obtain ⟨v, q, N⟩ := num_ex k n a l s
  obtain ⟨r, R, R'⟩ := same_ex k n a l s k' n' a' l' s'
  obtain ⟨m, _, M⟩ := may_ex k n a l s
  have LE := fun x x' W => less_by k x n a l s k' x' n' a' l' s' z z' ok ok' (Lib.hid fun W => C x W) (Lib.hid fun W => C' x' W) W
  generalize ((ok && ok') && decide (z < z')) = p at LE
  generalize (ok && ok') = o at LE
  have T := fun x W => type_any k x n a l s W
  generalize Pl.typ k = t at T
  have S := fun x x' W => same_self k n a l s x x' W
  have R2 := R'
  have h1 := Lib.hid LE
  have h2 := Lib.hid N
  have h3 := Lib.hid M
  have h4 := Lib.hid T
  have h5 := Lib.hid R
  have h6 := Lib.hid R2
  have h7 := Lib.hid S
  clear LE N M T R R2 R' S C C'
  exact exec_core k x n a l s k' x' n' a' l' s' y y' p o v q m t r h1 h2 h3 h4 h5 h6 h7 w
end Go.Proofs.Ytenmbkngkabonaa
