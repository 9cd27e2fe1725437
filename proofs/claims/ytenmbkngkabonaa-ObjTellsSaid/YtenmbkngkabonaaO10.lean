/- The walk of obj.Same at any two objects (printed by wip/gen_same.py). -/
import Derived.Test.YtenmbkngkabonaaO9
namespace Go.Proofs.Ytenmbkngkabonaa
set_option linter.unusedVariables false
open Go.RowKit

theorem same_nums (k : Int) (x : Bool) (n a l : Int) (s : ByteArray) (k' : Int) (x' : Bool) (n' a' l' : Int) (s' : ByteArray) (z z' : Int)
    (N : Hid (∀ W, Calls Try.prog 66 #[obv k x n a l s, obv k' x' n' a' l' s'] W fun e w' => e = Ending.returned (.tuple #[.int .i64 z, .int .i64 z', .bool true]) ∧ Grown W w'))
     (w : World) :
    Calls Try.prog 34 #[obv k x n a l s, obv k' x' n' a' l' s'] w fun e w' => e = Ending.returned (.bool (z == z')) ∧ Grown w w' := by
  go_enter Try.func34, Try.ntmps34
  go_wp2_with fail
  refine (N.out _).mono ?_
  rintro e w1 ⟨rfl, g1⟩
  have hA : ObS w w.heap.size k x n a l s w1 := ObS.grow (by exact ⟨by simp [go_sem], by simp [go_sem], by simp [go_sem], by simp [go_sem], by simp [go_sem], by simp [go_sem], by (repeat (first | exact Grown.refl _ | assumption | apply Grown.drew | apply Grown.alloc))⟩) g1
  have hB : ObS w (w.heap.size + 1) k' x' n' a' l' s' w1 := ObS.grow (by exact ⟨by simp [go_sem], by simp [go_sem], by simp [go_sem], by simp [go_sem], by simp [go_sem], by simp [go_sem], by (repeat (first | exact Grown.refl _ | assumption | apply Grown.drew | apply Grown.alloc))⟩) g1
  have f0 : w1.frozen? ⟨w.heap.size, 1, none⟩ = false := by rw [g1.2.1, frozen?_alloc_cells, frozen?_alloc_cells]; simp [World.frozen?]
  have f1 : w1.frozen? ⟨w.heap.size + 1, 1, none⟩ = false := by rw [g1.2.1, frozen?_alloc_cells, frozen?_alloc_cells]; simp [World.frozen?]
  clear g1
  obtain ⟨a0, a1, a2, a3, a4, a5, ga⟩ := id hA
  obtain ⟨b0, b1, b2, b3, b4, b5, gb⟩ := id hB
  go_wp2
  go_ret
  exact ⟨rfl, ga⟩

theorem same_yes (k : Int) (x x' : Bool) (n a l : Int) (s : ByteArray) (z z' : Int)
    (N : Hid (∀ W, Calls Try.prog 66 #[obv k x n a l s, obv k x' n a l s] W fun e w' => e = Ending.returned (.tuple #[.int .i64 z, .int .i64 z', .bool false]) ∧ Grown W w'))
    (hs : (s.toList == s.toList) = true) (w : World) :
    Calls Try.prog 34 #[obv k x n a l s, obv k x' n a l s] w fun e w' => e = Ending.returned (.bool true) ∧ Grown w w' := by
  go_enter Try.func34, Try.ntmps34
  go_wp2_with fail
  refine (N.out _).mono ?_
  rintro e w1 ⟨rfl, g1⟩
  have hA : ObS w w.heap.size k x n a l s w1 := ObS.grow (by exact ⟨by simp [go_sem], by simp [go_sem], by simp [go_sem], by simp [go_sem], by simp [go_sem], by simp [go_sem], by (repeat (first | exact Grown.refl _ | assumption | apply Grown.drew | apply Grown.alloc))⟩) g1
  have hB : ObS w (w.heap.size + 1) k x' n a l s w1 := ObS.grow (by exact ⟨by simp [go_sem], by simp [go_sem], by simp [go_sem], by simp [go_sem], by simp [go_sem], by simp [go_sem], by (repeat (first | exact Grown.refl _ | assumption | apply Grown.drew | apply Grown.alloc))⟩) g1
  have f0 : w1.frozen? ⟨w.heap.size, 1, none⟩ = false := by rw [g1.2.1, frozen?_alloc_cells, frozen?_alloc_cells]; simp [World.frozen?]
  have f1 : w1.frozen? ⟨w.heap.size + 1, 1, none⟩ = false := by rw [g1.2.1, frozen?_alloc_cells, frozen?_alloc_cells]; simp [World.frozen?]
  clear g1
  obtain ⟨a0, a1, a2, a3, a4, a5, ga⟩ := id hA
  obtain ⟨b0, b1, b2, b3, b4, b5, gb⟩ := id hB
  go_wp2
  go_ret
  exact ⟨rfl, (by (repeat (first | exact Grown.refl _ | assumption | apply Grown.drew | apply Grown.alloc | (refine Grown.setCell ?_ (by simp) _) | (refine Grown.setCell ?_ (by omega) _))))⟩

theorem same_no_k (k : Int) (x : Bool) (n a l : Int) (s : ByteArray) (x' : Bool) (k' : Int) (n' : Int) (a' : Int) (l' : Int) (s' : ByteArray) (z z' : Int)
    (N : Hid (∀ W, Calls Try.prog 66 #[obv k x n a l s, obv k' x' n' a' l' s'] W fun e w' => e = Ending.returned (.tuple #[.int .i64 z, .int .i64 z', .bool false]) ∧ Grown W w'))
    (hd : (k == k') = false) (w : World) :
    Calls Try.prog 34 #[obv k x n a l s, obv k' x' n' a' l' s'] w fun e w' => e = Ending.returned (.bool false) ∧ Grown w w' := by
  go_enter Try.func34, Try.ntmps34
  go_wp2_with fail
  refine (N.out _).mono ?_
  rintro e w1 ⟨rfl, g1⟩
  have hA : ObS w w.heap.size k x n a l s w1 := ObS.grow (by exact ⟨by simp [go_sem], by simp [go_sem], by simp [go_sem], by simp [go_sem], by simp [go_sem], by simp [go_sem], by (repeat (first | exact Grown.refl _ | assumption | apply Grown.drew | apply Grown.alloc))⟩) g1
  have hB : ObS w (w.heap.size + 1) k' x' n' a' l' s' w1 := ObS.grow (by exact ⟨by simp [go_sem], by simp [go_sem], by simp [go_sem], by simp [go_sem], by simp [go_sem], by simp [go_sem], by (repeat (first | exact Grown.refl _ | assumption | apply Grown.drew | apply Grown.alloc))⟩) g1
  have f0 : w1.frozen? ⟨w.heap.size, 1, none⟩ = false := by rw [g1.2.1, frozen?_alloc_cells, frozen?_alloc_cells]; simp [World.frozen?]
  have f1 : w1.frozen? ⟨w.heap.size + 1, 1, none⟩ = false := by rw [g1.2.1, frozen?_alloc_cells, frozen?_alloc_cells]; simp [World.frozen?]
  clear g1
  obtain ⟨a0, a1, a2, a3, a4, a5, ga⟩ := id hA
  obtain ⟨b0, b1, b2, b3, b4, b5, gb⟩ := id hB
  go_wp2
  go_ret
  exact ⟨rfl, (by (repeat (first | exact Grown.refl _ | assumption | apply Grown.drew | apply Grown.alloc | (refine Grown.setCell ?_ (by simp) _) | (refine Grown.setCell ?_ (by omega) _))))⟩

theorem same_no_n (k : Int) (x : Bool) (n a l : Int) (s : ByteArray) (x' : Bool) (n' : Int) (a' : Int) (l' : Int) (s' : ByteArray) (z z' : Int)
    (N : Hid (∀ W, Calls Try.prog 66 #[obv k x n a l s, obv k x' n' a' l' s'] W fun e w' => e = Ending.returned (.tuple #[.int .i64 z, .int .i64 z', .bool false]) ∧ Grown W w'))
    (hd : (n == n') = false) (w : World) :
    Calls Try.prog 34 #[obv k x n a l s, obv k x' n' a' l' s'] w fun e w' => e = Ending.returned (.bool false) ∧ Grown w w' := by
  go_enter Try.func34, Try.ntmps34
  go_wp2_with fail
  refine (N.out _).mono ?_
  rintro e w1 ⟨rfl, g1⟩
  have hA : ObS w w.heap.size k x n a l s w1 := ObS.grow (by exact ⟨by simp [go_sem], by simp [go_sem], by simp [go_sem], by simp [go_sem], by simp [go_sem], by simp [go_sem], by (repeat (first | exact Grown.refl _ | assumption | apply Grown.drew | apply Grown.alloc))⟩) g1
  have hB : ObS w (w.heap.size + 1) k x' n' a' l' s' w1 := ObS.grow (by exact ⟨by simp [go_sem], by simp [go_sem], by simp [go_sem], by simp [go_sem], by simp [go_sem], by simp [go_sem], by (repeat (first | exact Grown.refl _ | assumption | apply Grown.drew | apply Grown.alloc))⟩) g1
  have f0 : w1.frozen? ⟨w.heap.size, 1, none⟩ = false := by rw [g1.2.1, frozen?_alloc_cells, frozen?_alloc_cells]; simp [World.frozen?]
  have f1 : w1.frozen? ⟨w.heap.size + 1, 1, none⟩ = false := by rw [g1.2.1, frozen?_alloc_cells, frozen?_alloc_cells]; simp [World.frozen?]
  clear g1
  obtain ⟨a0, a1, a2, a3, a4, a5, ga⟩ := id hA
  obtain ⟨b0, b1, b2, b3, b4, b5, gb⟩ := id hB
  go_wp2
  go_ret
  exact ⟨rfl, (by (repeat (first | exact Grown.refl _ | assumption | apply Grown.drew | apply Grown.alloc | (refine Grown.setCell ?_ (by simp) _) | (refine Grown.setCell ?_ (by omega) _))))⟩

theorem same_no_a (k : Int) (x : Bool) (n a l : Int) (s : ByteArray) (x' : Bool) (a' : Int) (l' : Int) (s' : ByteArray) (z z' : Int)
    (N : Hid (∀ W, Calls Try.prog 66 #[obv k x n a l s, obv k x' n a' l' s'] W fun e w' => e = Ending.returned (.tuple #[.int .i64 z, .int .i64 z', .bool false]) ∧ Grown W w'))
    (hd : (a == a') = false) (w : World) :
    Calls Try.prog 34 #[obv k x n a l s, obv k x' n a' l' s'] w fun e w' => e = Ending.returned (.bool false) ∧ Grown w w' := by
  go_enter Try.func34, Try.ntmps34
  go_wp2_with fail
  refine (N.out _).mono ?_
  rintro e w1 ⟨rfl, g1⟩
  have hA : ObS w w.heap.size k x n a l s w1 := ObS.grow (by exact ⟨by simp [go_sem], by simp [go_sem], by simp [go_sem], by simp [go_sem], by simp [go_sem], by simp [go_sem], by (repeat (first | exact Grown.refl _ | assumption | apply Grown.drew | apply Grown.alloc))⟩) g1
  have hB : ObS w (w.heap.size + 1) k x' n a' l' s' w1 := ObS.grow (by exact ⟨by simp [go_sem], by simp [go_sem], by simp [go_sem], by simp [go_sem], by simp [go_sem], by simp [go_sem], by (repeat (first | exact Grown.refl _ | assumption | apply Grown.drew | apply Grown.alloc))⟩) g1
  have f0 : w1.frozen? ⟨w.heap.size, 1, none⟩ = false := by rw [g1.2.1, frozen?_alloc_cells, frozen?_alloc_cells]; simp [World.frozen?]
  have f1 : w1.frozen? ⟨w.heap.size + 1, 1, none⟩ = false := by rw [g1.2.1, frozen?_alloc_cells, frozen?_alloc_cells]; simp [World.frozen?]
  clear g1
  obtain ⟨a0, a1, a2, a3, a4, a5, ga⟩ := id hA
  obtain ⟨b0, b1, b2, b3, b4, b5, gb⟩ := id hB
  go_wp2
  go_ret
  exact ⟨rfl, (by (repeat (first | exact Grown.refl _ | assumption | apply Grown.drew | apply Grown.alloc | (refine Grown.setCell ?_ (by simp) _) | (refine Grown.setCell ?_ (by omega) _))))⟩

theorem same_no_l (k : Int) (x : Bool) (n a l : Int) (s : ByteArray) (x' : Bool) (l' : Int) (s' : ByteArray) (z z' : Int)
    (N : Hid (∀ W, Calls Try.prog 66 #[obv k x n a l s, obv k x' n a l' s'] W fun e w' => e = Ending.returned (.tuple #[.int .i64 z, .int .i64 z', .bool false]) ∧ Grown W w'))
    (hd : (l == l') = false) (w : World) :
    Calls Try.prog 34 #[obv k x n a l s, obv k x' n a l' s'] w fun e w' => e = Ending.returned (.bool false) ∧ Grown w w' := by
  go_enter Try.func34, Try.ntmps34
  go_wp2_with fail
  refine (N.out _).mono ?_
  rintro e w1 ⟨rfl, g1⟩
  have hA : ObS w w.heap.size k x n a l s w1 := ObS.grow (by exact ⟨by simp [go_sem], by simp [go_sem], by simp [go_sem], by simp [go_sem], by simp [go_sem], by simp [go_sem], by (repeat (first | exact Grown.refl _ | assumption | apply Grown.drew | apply Grown.alloc))⟩) g1
  have hB : ObS w (w.heap.size + 1) k x' n a l' s' w1 := ObS.grow (by exact ⟨by simp [go_sem], by simp [go_sem], by simp [go_sem], by simp [go_sem], by simp [go_sem], by simp [go_sem], by (repeat (first | exact Grown.refl _ | assumption | apply Grown.drew | apply Grown.alloc))⟩) g1
  have f0 : w1.frozen? ⟨w.heap.size, 1, none⟩ = false := by rw [g1.2.1, frozen?_alloc_cells, frozen?_alloc_cells]; simp [World.frozen?]
  have f1 : w1.frozen? ⟨w.heap.size + 1, 1, none⟩ = false := by rw [g1.2.1, frozen?_alloc_cells, frozen?_alloc_cells]; simp [World.frozen?]
  clear g1
  obtain ⟨a0, a1, a2, a3, a4, a5, ga⟩ := id hA
  obtain ⟨b0, b1, b2, b3, b4, b5, gb⟩ := id hB
  go_wp2
  go_ret
  exact ⟨rfl, (by (repeat (first | exact Grown.refl _ | assumption | apply Grown.drew | apply Grown.alloc | (refine Grown.setCell ?_ (by simp) _) | (refine Grown.setCell ?_ (by omega) _))))⟩

theorem same_no_s (k : Int) (x : Bool) (n a l : Int) (s : ByteArray) (x' : Bool) (s' : ByteArray) (z z' : Int)
    (N : Hid (∀ W, Calls Try.prog 66 #[obv k x n a l s, obv k x' n a l s'] W fun e w' => e = Ending.returned (.tuple #[.int .i64 z, .int .i64 z', .bool false]) ∧ Grown W w'))
    (hd : (s.toList == s'.toList) = false) (w : World) :
    Calls Try.prog 34 #[obv k x n a l s, obv k x' n a l s'] w fun e w' => e = Ending.returned (.bool false) ∧ Grown w w' := by
  go_enter Try.func34, Try.ntmps34
  go_wp2_with fail
  refine (N.out _).mono ?_
  rintro e w1 ⟨rfl, g1⟩
  have hA : ObS w w.heap.size k x n a l s w1 := ObS.grow (by exact ⟨by simp [go_sem], by simp [go_sem], by simp [go_sem], by simp [go_sem], by simp [go_sem], by simp [go_sem], by (repeat (first | exact Grown.refl _ | assumption | apply Grown.drew | apply Grown.alloc))⟩) g1
  have hB : ObS w (w.heap.size + 1) k x' n a l s' w1 := ObS.grow (by exact ⟨by simp [go_sem], by simp [go_sem], by simp [go_sem], by simp [go_sem], by simp [go_sem], by simp [go_sem], by (repeat (first | exact Grown.refl _ | assumption | apply Grown.drew | apply Grown.alloc))⟩) g1
  have f0 : w1.frozen? ⟨w.heap.size, 1, none⟩ = false := by rw [g1.2.1, frozen?_alloc_cells, frozen?_alloc_cells]; simp [World.frozen?]
  have f1 : w1.frozen? ⟨w.heap.size + 1, 1, none⟩ = false := by rw [g1.2.1, frozen?_alloc_cells, frozen?_alloc_cells]; simp [World.frozen?]
  clear g1
  obtain ⟨a0, a1, a2, a3, a4, a5, ga⟩ := id hA
  obtain ⟨b0, b1, b2, b3, b4, b5, gb⟩ := id hB
  go_wp2
  go_ret
  exact ⟨rfl, (by (repeat (first | exact Grown.refl _ | assumption | apply Grown.drew | apply Grown.alloc | (refine Grown.setCell ?_ (by simp) _) | (refine Grown.setCell ?_ (by omega) _))))⟩
end Go.Proofs.Ytenmbkngkabonaa

