/- tympanref10.Less and Same at any two objects (printed by wip/gen_rless.py). -/
import Derived.Test.YtenmbkngkabonaaR3
import Derived.Deep.RegionHeld3
namespace Go.Proofs.Ytenmbkngkabonaa
set_option linter.unusedVariables false
open Go.RowKit

abbrev ObT (w : World) (A B : Nat) (k : Int) (x : Bool) (n a l : Int) (s : ByteArray) (k' : Int) (x' : Bool) (n' a' l' : Int) (s' : ByteArray) (W : World) : Prop :=
  W.cell? ⟨A, 0, none⟩ = some (.int .i64 k) ∧ W.cell? ⟨A, 1, none⟩ = some (.bool x) ∧ W.cell? ⟨A, 2, none⟩ = some (.int .i64 n) ∧ W.cell? ⟨A, 3, none⟩ = some (.int .i64 a) ∧ W.cell? ⟨A, 4, none⟩ = some (.int .i64 l) ∧ W.cell? ⟨A, 5, none⟩ = some (.string s) ∧ W.cell? ⟨B, 0, none⟩ = some (.int .i64 k') ∧ W.cell? ⟨B, 1, none⟩ = some (.bool x') ∧ W.cell? ⟨B, 2, none⟩ = some (.int .i64 n') ∧ W.cell? ⟨B, 3, none⟩ = some (.int .i64 a') ∧ W.cell? ⟨B, 4, none⟩ = some (.int .i64 l') ∧ W.cell? ⟨B, 5, none⟩ = some (.string s') ∧ Grown w W
theorem ObT.grow {w W W' : World} {A B : Nat} {k : Int} {x : Bool} {n a l : Int} {s : ByteArray} {k' : Int} {x' : Bool} {n' a' l' : Int} {s' : ByteArray} (h : ObT w A B k x n a l s k' x' n' a' l' s' W) (hg : Grown W W') : ObT w A B k x n a l s k' x' n' a' l' s' W' :=
  ⟨grown_cell hg h.1, grown_cell hg h.2.1, grown_cell hg h.2.2.1, grown_cell hg h.2.2.2.1, grown_cell hg h.2.2.2.2.1, grown_cell hg h.2.2.2.2.2.1, grown_cell hg h.2.2.2.2.2.2.1, grown_cell hg h.2.2.2.2.2.2.2.1, grown_cell hg h.2.2.2.2.2.2.2.2.1, grown_cell hg h.2.2.2.2.2.2.2.2.2.1, grown_cell hg h.2.2.2.2.2.2.2.2.2.2.1, grown_cell hg h.2.2.2.2.2.2.2.2.2.2.2.1, grown_trans h.2.2.2.2.2.2.2.2.2.2.2.2 hg⟩

theorem rless_both (k : Int) (x : Bool) (n a l : Int) (s : ByteArray) (k' : Int) (x' : Bool) (n' a' l' : Int) (s' : ByteArray) (z z' : Int)
    (NA : Hid (∀ W, Calls Try.prog 69 #[obv k x n a l s] W fun e w' => e = Ending.returned (.bool true) ∧ Grown W w'))
    (NB : Hid (∀ W, Calls Try.prog 69 #[obv k' x' n' a' l' s'] W fun e w' => e = Ending.returned (.bool true) ∧ Grown W w'))
    (ZA : Hid (∀ W, Calls Try.prog 70 #[obv k x n a l s] W fun e w' => e = Ending.returned (.int .i64 z) ∧ Grown W w')) (ZB : Hid (∀ W, Calls Try.prog 70 #[obv k' x' n' a' l' s'] W fun e w' => e = Ending.returned (.int .i64 z') ∧ Grown W w'))
    (w : World) :
    Calls Try.prog 44 #[obv k x n a l s, obv k' x' n' a' l' s'] w fun e w' => e = Ending.returned (.tuple #[.bool (decide (z < z')), .bool true]) ∧ Grown w w' := by
  go_enter Try.func44, Try.ntmps44
  go_wp2_with fail
  refine (NA.out _).mono ?_
  rintro e w1 ⟨rfl, g1⟩
  have hA : ObS w w.heap.size k x n a l s w1 := ObS.grow (by exact ⟨by simp [go_sem], by simp [go_sem], by simp [go_sem], by simp [go_sem], by simp [go_sem], by simp [go_sem], by (repeat (first | exact Grown.refl _ | assumption | apply Grown.drew | apply Grown.alloc))⟩) g1
  have hB : ObS w (w.heap.size + 1) k' x' n' a' l' s' w1 := ObS.grow (by exact ⟨by simp [go_sem], by simp [go_sem], by simp [go_sem], by simp [go_sem], by simp [go_sem], by simp [go_sem], by (repeat (first | exact Grown.refl _ | assumption | apply Grown.drew | apply Grown.alloc))⟩) g1
  clear g1
  obtain ⟨a0, a1, a2, a3, a4, a5, ga⟩ := id hA
  obtain ⟨b0, b1, b2, b3, b4, b5, gb⟩ := id hB
  go_wp2_with fail
  refine (NB.out _).mono ?_
  rintro e w2 ⟨rfl, g2⟩
  have hA2 := hA.grow (grown_trans (by (repeat (first | exact Grown.refl _ | apply Grown.drew | apply Grown.alloc))) g2)
  have hB2 := hB.grow (grown_trans (by (repeat (first | exact Grown.refl _ | apply Grown.drew | apply Grown.alloc))) g2)
  clear a0 a1 a2 a3 a4 a5 ga b0 b1 b2 b3 b4 b5 gb hA hB
  obtain ⟨a0, a1, a2, a3, a4, a5, ga⟩ := id hA2
  obtain ⟨b0, b1, b2, b3, b4, b5, gb⟩ := id hB2
  clear g2
  go_wp2_with fail
  have X : ObT w w.heap.size (w.heap.size + 1) k x n a l s k' x' n' a' l' s' w2 := ⟨a0, a1, a2, a3, a4, a5, b0, b1, b2, b3, b4, b5, ga⟩
  have DA := Lib.hid (fun W (h : ObT w w.heap.size (w.heap.size + 1) k x n a l s k' x' n' a' l' s' W) => (ZA.out W).mono fun e W' ⟨he, hg⟩ => (⟨he, h.grow hg⟩ : e = Ending.returned (.int .i64 z) ∧ ObT w w.heap.size (w.heap.size + 1) k x n a l s k' x' n' a' l' s' W'))
  have DB := Lib.hid (fun W (h : ObT w w.heap.size (w.heap.size + 1) k x n a l s k' x' n' a' l' s' W) => (ZB.out W).mono fun e W' ⟨he, hg⟩ => (⟨he, h.grow hg⟩ : e = Ending.returned (.int .i64 z') ∧ ObT w w.heap.size (w.heap.size + 1) k x n a l s k' x' n' a' l' s' W'))
  clear a0 a1 a2 a3 a4 a5 b0 b1 b2 b3 b4 b5 ga gb hA2 hB2
  go_region_held3 (fun W => W.cell? ⟨w.heap.size, 0, none⟩ = some (.int .i64 k) ∧ W.cell? ⟨w.heap.size, 1, none⟩ = some (.bool x) ∧ W.cell? ⟨w.heap.size, 2, none⟩ = some (.int .i64 n) ∧ W.cell? ⟨w.heap.size, 3, none⟩ = some (.int .i64 a) ∧ W.cell? ⟨w.heap.size, 4, none⟩ = some (.int .i64 l) ∧ W.cell? ⟨w.heap.size, 5, none⟩ = some (.string s) ∧ W.cell? ⟨(w.heap.size + 1), 0, none⟩ = some (.int .i64 k') ∧ W.cell? ⟨(w.heap.size + 1), 1, none⟩ = some (.bool x') ∧ W.cell? ⟨(w.heap.size + 1), 2, none⟩ = some (.int .i64 n') ∧ W.cell? ⟨(w.heap.size + 1), 3, none⟩ = some (.int .i64 a') ∧ W.cell? ⟨(w.heap.size + 1), 4, none⟩ = some (.int .i64 l') ∧ W.cell? ⟨(w.heap.size + 1), 5, none⟩ = some (.string s') ∧ Grown w W)
    (first | assumption)
    (first | (go_at_call 70; with_reducible refine (DA.out _ ?_).mono ?_; (assumption); rintro e w' ⟨rfl, hS⟩) | (go_at_call 70; with_reducible refine (DB.out _ ?_).mono ?_; (assumption); rintro e w' ⟨rfl, hS⟩))
  all_goals
    rename_i hSw
    go_wp2_with fail
    go_ret2
    exact ⟨rfl, hSw.2.2.2.2.2.2.2.2.2.2.2.2⟩
theorem rless_noa (k : Int) (x : Bool) (n a l : Int) (s : ByteArray) (k' : Int) (x' : Bool) (n' a' l' : Int) (s' : ByteArray)
    (NA : Hid (∀ W, Calls Try.prog 69 #[obv k x n a l s] W fun e w' => e = Ending.returned (.bool false) ∧ Grown W w'))
    (w : World) :
    Calls Try.prog 44 #[obv k x n a l s, obv k' x' n' a' l' s'] w fun e w' => e = Ending.returned (.tuple #[.bool false, .bool false]) ∧ Grown w w' := by
  go_enter Try.func44, Try.ntmps44
  go_wp2_with fail
  refine (NA.out _).mono ?_
  rintro e w1 ⟨rfl, g1⟩
  have hA : ObS w w.heap.size k x n a l s w1 := ObS.grow (by exact ⟨by simp [go_sem], by simp [go_sem], by simp [go_sem], by simp [go_sem], by simp [go_sem], by simp [go_sem], by (repeat (first | exact Grown.refl _ | assumption | apply Grown.drew | apply Grown.alloc))⟩) g1
  have hB : ObS w (w.heap.size + 1) k' x' n' a' l' s' w1 := ObS.grow (by exact ⟨by simp [go_sem], by simp [go_sem], by simp [go_sem], by simp [go_sem], by simp [go_sem], by simp [go_sem], by (repeat (first | exact Grown.refl _ | assumption | apply Grown.drew | apply Grown.alloc))⟩) g1
  clear g1
  obtain ⟨a0, a1, a2, a3, a4, a5, ga⟩ := id hA
  obtain ⟨b0, b1, b2, b3, b4, b5, gb⟩ := id hB
  go_wp2_with fail
  go_ret2
  exact ⟨rfl, ga⟩
theorem rless_nob (k : Int) (x : Bool) (n a l : Int) (s : ByteArray) (k' : Int) (x' : Bool) (n' a' l' : Int) (s' : ByteArray)
    (NA : Hid (∀ W, Calls Try.prog 69 #[obv k x n a l s] W fun e w' => e = Ending.returned (.bool true) ∧ Grown W w'))
    (NB : Hid (∀ W, Calls Try.prog 69 #[obv k' x' n' a' l' s'] W fun e w' => e = Ending.returned (.bool false) ∧ Grown W w'))
    (w : World) :
    Calls Try.prog 44 #[obv k x n a l s, obv k' x' n' a' l' s'] w fun e w' => e = Ending.returned (.tuple #[.bool false, .bool false]) ∧ Grown w w' := by
  go_enter Try.func44, Try.ntmps44
  go_wp2_with fail
  refine (NA.out _).mono ?_
  rintro e w1 ⟨rfl, g1⟩
  have hA : ObS w w.heap.size k x n a l s w1 := ObS.grow (by exact ⟨by simp [go_sem], by simp [go_sem], by simp [go_sem], by simp [go_sem], by simp [go_sem], by simp [go_sem], by (repeat (first | exact Grown.refl _ | assumption | apply Grown.drew | apply Grown.alloc))⟩) g1
  have hB : ObS w (w.heap.size + 1) k' x' n' a' l' s' w1 := ObS.grow (by exact ⟨by simp [go_sem], by simp [go_sem], by simp [go_sem], by simp [go_sem], by simp [go_sem], by simp [go_sem], by (repeat (first | exact Grown.refl _ | assumption | apply Grown.drew | apply Grown.alloc))⟩) g1
  clear g1
  obtain ⟨a0, a1, a2, a3, a4, a5, ga⟩ := id hA
  obtain ⟨b0, b1, b2, b3, b4, b5, gb⟩ := id hB
  go_wp2_with fail
  refine (NB.out _).mono ?_
  rintro e w2 ⟨rfl, g2⟩
  have hA2 := hA.grow (grown_trans (by (repeat (first | exact Grown.refl _ | apply Grown.drew | apply Grown.alloc))) g2)
  have hB2 := hB.grow (grown_trans (by (repeat (first | exact Grown.refl _ | apply Grown.drew | apply Grown.alloc))) g2)
  clear a0 a1 a2 a3 a4 a5 ga b0 b1 b2 b3 b4 b5 gb hA hB
  obtain ⟨a0, a1, a2, a3, a4, a5, ga⟩ := id hA2
  obtain ⟨b0, b1, b2, b3, b4, b5, gb⟩ := id hB2
  clear g2
  go_wp2_with fail
  go_ret2
  exact ⟨rfl, ga⟩
theorem rsame_both (k : Int) (x : Bool) (n a l : Int) (s : ByteArray) (k' : Int) (x' : Bool) (n' a' l' : Int) (s' : ByteArray) (z z' : Int)
    (NA : Hid (∀ W, Calls Try.prog 69 #[obv k x n a l s] W fun e w' => e = Ending.returned (.bool true) ∧ Grown W w'))
    (NB : Hid (∀ W, Calls Try.prog 69 #[obv k' x' n' a' l' s'] W fun e w' => e = Ending.returned (.bool true) ∧ Grown W w'))
    (ZA : Hid (∀ W, Calls Try.prog 70 #[obv k x n a l s] W fun e w' => e = Ending.returned (.int .i64 z) ∧ Grown W w')) (ZB : Hid (∀ W, Calls Try.prog 70 #[obv k' x' n' a' l' s'] W fun e w' => e = Ending.returned (.int .i64 z') ∧ Grown W w'))
    (w : World) :
    Calls Try.prog 48 #[obv k x n a l s, obv k' x' n' a' l' s'] w fun e w' => e = Ending.returned (.bool (z == z')) ∧ Grown w w' := by
  go_enter Try.func48, Try.ntmps48
  go_wp2_with fail
  refine (NA.out _).mono ?_
  rintro e w1 ⟨rfl, g1⟩
  have hA : ObS w w.heap.size k x n a l s w1 := ObS.grow (by exact ⟨by simp [go_sem], by simp [go_sem], by simp [go_sem], by simp [go_sem], by simp [go_sem], by simp [go_sem], by (repeat (first | exact Grown.refl _ | assumption | apply Grown.drew | apply Grown.alloc))⟩) g1
  have hB : ObS w (w.heap.size + 1) k' x' n' a' l' s' w1 := ObS.grow (by exact ⟨by simp [go_sem], by simp [go_sem], by simp [go_sem], by simp [go_sem], by simp [go_sem], by simp [go_sem], by (repeat (first | exact Grown.refl _ | assumption | apply Grown.drew | apply Grown.alloc))⟩) g1
  clear g1
  obtain ⟨a0, a1, a2, a3, a4, a5, ga⟩ := id hA
  obtain ⟨b0, b1, b2, b3, b4, b5, gb⟩ := id hB
  go_wp2_with fail
  refine (NB.out _).mono ?_
  rintro e w2 ⟨rfl, g2⟩
  have hA2 := hA.grow (grown_trans (by (repeat (first | exact Grown.refl _ | apply Grown.drew | apply Grown.alloc))) g2)
  have hB2 := hB.grow (grown_trans (by (repeat (first | exact Grown.refl _ | apply Grown.drew | apply Grown.alloc))) g2)
  clear a0 a1 a2 a3 a4 a5 ga b0 b1 b2 b3 b4 b5 gb hA hB
  obtain ⟨a0, a1, a2, a3, a4, a5, ga⟩ := id hA2
  obtain ⟨b0, b1, b2, b3, b4, b5, gb⟩ := id hB2
  clear g2
  go_wp2_with fail
  have X : ObT w w.heap.size (w.heap.size + 1) k x n a l s k' x' n' a' l' s' w2 := ⟨a0, a1, a2, a3, a4, a5, b0, b1, b2, b3, b4, b5, ga⟩
  have DA := Lib.hid (fun W (h : ObT w w.heap.size (w.heap.size + 1) k x n a l s k' x' n' a' l' s' W) => (ZA.out W).mono fun e W' ⟨he, hg⟩ => (⟨he, h.grow hg⟩ : e = Ending.returned (.int .i64 z) ∧ ObT w w.heap.size (w.heap.size + 1) k x n a l s k' x' n' a' l' s' W'))
  have DB := Lib.hid (fun W (h : ObT w w.heap.size (w.heap.size + 1) k x n a l s k' x' n' a' l' s' W) => (ZB.out W).mono fun e W' ⟨he, hg⟩ => (⟨he, h.grow hg⟩ : e = Ending.returned (.int .i64 z') ∧ ObT w w.heap.size (w.heap.size + 1) k x n a l s k' x' n' a' l' s' W'))
  clear a0 a1 a2 a3 a4 a5 b0 b1 b2 b3 b4 b5 ga gb hA2 hB2
  go_region_held3 (fun W => W.cell? ⟨w.heap.size, 0, none⟩ = some (.int .i64 k) ∧ W.cell? ⟨w.heap.size, 1, none⟩ = some (.bool x) ∧ W.cell? ⟨w.heap.size, 2, none⟩ = some (.int .i64 n) ∧ W.cell? ⟨w.heap.size, 3, none⟩ = some (.int .i64 a) ∧ W.cell? ⟨w.heap.size, 4, none⟩ = some (.int .i64 l) ∧ W.cell? ⟨w.heap.size, 5, none⟩ = some (.string s) ∧ W.cell? ⟨(w.heap.size + 1), 0, none⟩ = some (.int .i64 k') ∧ W.cell? ⟨(w.heap.size + 1), 1, none⟩ = some (.bool x') ∧ W.cell? ⟨(w.heap.size + 1), 2, none⟩ = some (.int .i64 n') ∧ W.cell? ⟨(w.heap.size + 1), 3, none⟩ = some (.int .i64 a') ∧ W.cell? ⟨(w.heap.size + 1), 4, none⟩ = some (.int .i64 l') ∧ W.cell? ⟨(w.heap.size + 1), 5, none⟩ = some (.string s') ∧ Grown w W)
    (first | assumption)
    (first | (go_at_call 70; with_reducible refine (DA.out _ ?_).mono ?_; (assumption); rintro e w' ⟨rfl, hS⟩) | (go_at_call 70; with_reducible refine (DB.out _ ?_).mono ?_; (assumption); rintro e w' ⟨rfl, hS⟩))
  all_goals
    rename_i hSw
    go_wp2_with fail
    go_ret
    exact ⟨rfl, hSw.2.2.2.2.2.2.2.2.2.2.2.2⟩

set_option maxHeartbeats 1600000 in
theorem rsame_noa (k : Int) (x : Bool) (n a l : Int) (s : ByteArray) (k' : Int) (x' : Bool) (n' a' l' : Int) (s' : ByteArray) (r : Bool) (hr : r = true ↔ (k = k' ∧ n = n' ∧ a = a' ∧ l = l' ∧ s.toList = s'.toList))
    (NA : Hid (∀ W, Calls Try.prog 69 #[obv k x n a l s] W fun e w' => e = Ending.returned (.bool false) ∧ Grown W w'))
    (w : World) :
    Calls Try.prog 48 #[obv k x n a l s, obv k' x' n' a' l' s'] w fun e w' => e = Ending.returned (.bool r) ∧ Grown w w' := by
  go_enter Try.func48, Try.ntmps48
  go_wp2_with fail
  refine (NA.out _).mono ?_
  rintro e w1 ⟨rfl, g1⟩
  have hA : ObS w w.heap.size k x n a l s w1 := ObS.grow (by exact ⟨by simp [go_sem], by simp [go_sem], by simp [go_sem], by simp [go_sem], by simp [go_sem], by simp [go_sem], by (repeat (first | exact Grown.refl _ | assumption | apply Grown.drew | apply Grown.alloc))⟩) g1
  have hB : ObS w (w.heap.size + 1) k' x' n' a' l' s' w1 := ObS.grow (by exact ⟨by simp [go_sem], by simp [go_sem], by simp [go_sem], by simp [go_sem], by simp [go_sem], by simp [go_sem], by (repeat (first | exact Grown.refl _ | assumption | apply Grown.drew | apply Grown.alloc))⟩) g1
  have f0 : w1.frozen? ⟨w.heap.size, 1, none⟩ = false := by rw [g1.2.1, frozen?_alloc_cells, frozen?_alloc_cells]; simp [World.frozen?]
  have f1 : w1.frozen? ⟨w.heap.size + 1, 1, none⟩ = false := by rw [g1.2.1, frozen?_alloc_cells, frozen?_alloc_cells]; simp [World.frozen?]
  clear g1
  obtain ⟨a0, a1, a2, a3, a4, a5, ga⟩ := id hA
  obtain ⟨b0, b1, b2, b3, b4, b5, gb⟩ := id hB
  go_wp2_with fail
  all_goals
    go_ret
    refine ⟨ret_bool ?_, (by (repeat (first | exact Grown.refl _ | assumption | apply Grown.drew | apply Grown.alloc | (refine Grown.setCell ?_ (by simp) _) | (refine Grown.setCell ?_ (by omega) _))))⟩
    first | exact (hr.2 ⟨by assumption, by assumption, by assumption, by assumption, by assumption⟩).symm | (symm; rw [Bool.eq_false_iff]; intro h; obtain ⟨h1, h2, h3, h4, h5⟩ := hr.1 h; contradiction)


set_option maxHeartbeats 1600000 in
theorem rsame_nob (k : Int) (x : Bool) (n a l : Int) (s : ByteArray) (k' : Int) (x' : Bool) (n' a' l' : Int) (s' : ByteArray) (r : Bool) (hr : r = true ↔ (k = k' ∧ n = n' ∧ a = a' ∧ l = l' ∧ s.toList = s'.toList))
    (NA : Hid (∀ W, Calls Try.prog 69 #[obv k x n a l s] W fun e w' => e = Ending.returned (.bool true) ∧ Grown W w'))
    (NB : Hid (∀ W, Calls Try.prog 69 #[obv k' x' n' a' l' s'] W fun e w' => e = Ending.returned (.bool false) ∧ Grown W w'))
    (w : World) :
    Calls Try.prog 48 #[obv k x n a l s, obv k' x' n' a' l' s'] w fun e w' => e = Ending.returned (.bool r) ∧ Grown w w' := by
  go_enter Try.func48, Try.ntmps48
  go_wp2_with fail
  refine (NA.out _).mono ?_
  rintro e w1 ⟨rfl, g1⟩
  have hA : ObS w w.heap.size k x n a l s w1 := ObS.grow (by exact ⟨by simp [go_sem], by simp [go_sem], by simp [go_sem], by simp [go_sem], by simp [go_sem], by simp [go_sem], by (repeat (first | exact Grown.refl _ | assumption | apply Grown.drew | apply Grown.alloc))⟩) g1
  have hB : ObS w (w.heap.size + 1) k' x' n' a' l' s' w1 := ObS.grow (by exact ⟨by simp [go_sem], by simp [go_sem], by simp [go_sem], by simp [go_sem], by simp [go_sem], by simp [go_sem], by (repeat (first | exact Grown.refl _ | assumption | apply Grown.drew | apply Grown.alloc))⟩) g1
  have h0 : w1.frozen? ⟨w.heap.size, 1, none⟩ = false := by rw [g1.2.1, frozen?_alloc_cells, frozen?_alloc_cells]; simp [World.frozen?]
  have h1 : w1.frozen? ⟨w.heap.size + 1, 1, none⟩ = false := by rw [g1.2.1, frozen?_alloc_cells, frozen?_alloc_cells]; simp [World.frozen?]
  clear g1
  obtain ⟨a0, a1, a2, a3, a4, a5, ga⟩ := id hA
  obtain ⟨b0, b1, b2, b3, b4, b5, gb⟩ := id hB
  go_wp2_with fail
  refine (NB.out _).mono ?_
  rintro e w2 ⟨rfl, g2⟩
  have hA2 := hA.grow (grown_trans (by (repeat (first | exact Grown.refl _ | apply Grown.drew | apply Grown.alloc))) g2)
  have hB2 := hB.grow (grown_trans (by (repeat (first | exact Grown.refl _ | apply Grown.drew | apply Grown.alloc))) g2)
  clear a0 a1 a2 a3 a4 a5 ga b0 b1 b2 b3 b4 b5 gb hA hB
  have f0 : w2.frozen? ⟨w.heap.size, 1, none⟩ = false := by rw [g2.2.1, h0]
  have f1 : w2.frozen? ⟨w.heap.size + 1, 1, none⟩ = false := by rw [g2.2.1, h1]
  obtain ⟨a0, a1, a2, a3, a4, a5, ga⟩ := id hA2
  obtain ⟨b0, b1, b2, b3, b4, b5, gb⟩ := id hB2
  clear g2
  go_wp2_with fail
  all_goals
    go_ret
    refine ⟨ret_bool ?_, (by (repeat (first | exact Grown.refl _ | assumption | apply Grown.drew | apply Grown.alloc | (refine Grown.setCell ?_ (by simp) _) | (refine Grown.setCell ?_ (by omega) _))))⟩
    first | exact (hr.2 ⟨by assumption, by assumption, by assumption, by assumption, by assumption⟩).symm | (symm; rw [Bool.eq_false_iff]; intro h; obtain ⟨h1, h2, h3, h4, h5⟩ := hr.1 h; contradiction)

end Go.Proofs.Ytenmbkngkabonaa
