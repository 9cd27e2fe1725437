/- Two objects loaded into variables of their own, in any order -/
import Derived.Test.YtfmmomdmemcbbaaGreatM6
namespace Go.Proofs.YtfmmomdmemcbbaaGreat
set_option linter.unusedVariables false
open Go.RowKit
def AB (W0 : World) (Pr : Nat → Prop) (p : Nat) (L : List Pl.Ob) (W : World) (o0 o1 : Pl.Ob) (pa pb : Nat) (Z : World) : Prop := ObAt pa 0 o0 Z ∧ ObAt pb 0 o1 Z ∧ Grown W Z ∧ Stk W0 Pr p L Z
theorem obAt_new (W : World) (o : Pl.Ob) (A : Array Value) (hA : A.toList = Pl.oc o) : ObAt W.heap.size 0 o (W.alloc (.cells A 25)) := fun j u hu => by
  have := alloc_cell W A 25 j u (by rw [hA]; exact hu)
  rw [Addr.add_lit] at this
  rw [Nat.mul_zero]
  exact this
section
variable {W0 : World} {Pr : Nat → Prop} {p : Nat} {L : List Pl.Ob} {W w : World} (hG : Grown W w) (hS : Stk W0 Pr p L w) (o0 o1 : Pl.Ob) (A B : Array Value) (hA : A.toList = Pl.oc o0) (hB : B.toList = Pl.oc o1)
include hG hS hA hB
theorem AB.one : AB W0 Pr p L W o0 o1 w.heap.size (w.heap.size + 1) ((w.alloc (.cells A 25)).alloc (.cells B 25)).drew := by
  have h1 := (obAt_new w o0 A hA).grown ((Grown.refl _).alloc B 25)
  have h2 := obAt_new (w.alloc (.cells A 25)) o1 B hB
  rw [show (w.alloc (.cells A 25)).heap.size = w.heap.size + 1 by simp] at h2
  exact ⟨h1, h2, (hG.alloc _ _).alloc _ _, hS.grown (((Grown.refl w).alloc _ _).alloc _ _)⟩
theorem AB.two : AB W0 Pr p L W o0 o1 (w.heap.size + 1) w.heap.size ((w.alloc (.cells B 25)).alloc (.cells A 25)).drew := by
  have h1 := (obAt_new w o1 B hB).grown ((Grown.refl _).alloc A 25)
  have h2 := obAt_new (w.alloc (.cells B 25)) o0 A hA
  rw [show (w.alloc (.cells B 25)).heap.size = w.heap.size + 1 by simp] at h2
  exact ⟨h2, h1, (hG.alloc _ _).alloc _ _, hS.grown (((Grown.refl w).alloc _ _).alloc _ _)⟩
end
end Go.Proofs.YtfmmomdmemcbbaaGreat
