/- Two variables of our own, laid in either order. -/
import Derived.Test.YtfmmomdmemcbbaaGreatZ1
import Derived.Test.YtfmmomdmemcbbaaGreatM5
namespace Go.Proofs.YtfmmomdmemcbbaaGreat
set_option linter.unusedVariables false
open Go.RowKit
def ABr (w : World) (A B : List Value) (pa pb : Nat) (Z : World) : Prop := Blk w pa A Z ∧ Blk w pb B Z ∧ Fr (fun _ => False) w Z
theorem ABr.one (w : World) (A B : Array Value) : ABr w A.toList B.toList w.heap.size (w.heap.size + 1) ((w.alloc (.cells A 25)).alloc (.cells B 25)).drew := by
  have h1 := (Blk.new (W := w) (Z := w) A 25 (Nat.le_refl _)).alloc B 25
  have h2 := Blk.new (W := w) (Z := w.alloc (.cells A 25)) B 25 (by simp)
  rw [show (w.alloc (.cells A 25)).heap.size = w.heap.size + 1 by simp] at h2
  exact ⟨h1, h2, ((Fr.alloc _ _ _).trans (Fr.alloc _ _ _)).drew⟩
theorem ABr.two (w : World) (A B : Array Value) : ABr w A.toList B.toList (w.heap.size + 1) w.heap.size ((w.alloc (.cells B 25)).alloc (.cells A 25)).drew := by
  have h1 := (Blk.new (W := w) (Z := w) B 25 (Nat.le_refl _)).alloc A 25
  have h2 := Blk.new (W := w) (Z := w.alloc (.cells B 25)) A 25 (by simp)
  rw [show (w.alloc (.cells B 25)).heap.size = w.heap.size + 1 by simp] at h2
  exact ⟨h2, h1, ((Fr.alloc _ _ _).trans (Fr.alloc _ _ _)).drew⟩
end Go.Proofs.YtfmmomdmemcbbaaGreat
