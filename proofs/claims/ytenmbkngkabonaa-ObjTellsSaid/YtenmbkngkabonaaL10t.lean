/- The walk of tympanlaw10.ObjTells (printed by wip/gen_tells.py). -/
import Derived.Test.YtenmbkngkabonaaR5
namespace Go.Proofs.Ytenmbkngkabonaa
set_option linter.unusedVariables false
open Go.RowKit

theorem tells_far (k : Int) (x : Bool) (n a l : Int) (s : ByteArray) (k' : Int) (x' : Bool) (n' a' l' : Int) (s' : ByteArray) (hs : 300 < (s.size : Int) ∨ ((s.size : Int) ≤ 300 ∧ 300 < (s'.size : Int))) (w : World) :
    Calls Try.prog 11 #[obv k x n a l s, obv k' x' n' a' l' s'] w fun e w' => e = Ending.returned (.bool true) ∧ Grown w w' := by
  rcases hs with hs | ⟨hs, hs'⟩
  all_goals
    go_enter Try.func11, Try.ntmps11
    go_wp2_with fail
    refine (known_yes _).mono ?_
    rintro e w1 ⟨rfl, g1⟩
    have hA : ObS w w.heap.size k x n a l s w1 := ObS.grow (by exact ⟨by simp [go_sem], by simp [go_sem], by simp [go_sem], by simp [go_sem], by simp [go_sem], by simp [go_sem], by (repeat (first | exact Grown.refl _ | assumption | apply Grown.drew | apply Grown.alloc))⟩) g1
    have hB : ObS w (w.heap.size + 1) k' x' n' a' l' s' w1 := ObS.grow (by exact ⟨by simp [go_sem], by simp [go_sem], by simp [go_sem], by simp [go_sem], by simp [go_sem], by simp [go_sem], by (repeat (first | exact Grown.refl _ | assumption | apply Grown.drew | apply Grown.alloc))⟩) g1
    clear g1
    obtain ⟨a0, a1, a2, a3, a4, a5, g⟩ := id hA
    obtain ⟨b0, b1, b2, b3, b4, b5, gb⟩ := id hB
    have X1 : ObT w w.heap.size (w.heap.size + 1) k x n a l s k' x' n' a' l' s' w1 := ⟨a0, a1, a2, a3, a4, a5, b0, b1, b2, b3, b4, b5, g⟩
    clear hA hB gb
    go_wp2_with fail
    go_ret
    exact ⟨rfl, g⟩

set_option maxHeartbeats 2000000 in
theorem tells_near (k : Int) (x : Bool) (n a l : Int) (s : ByteArray) (k' : Int) (x' : Bool) (n' a' l' : Int) (s' : ByteArray) (p ok : Bool) (v : Int) (q m : Bool) (t : ByteArray) (r : Bool) (hs : (s.size : Int) ≤ 300) (hs' : (s'.size : Int) ≤ 300)
    (L1 : Hid (∀ W, Calls Try.prog 33 #[obv k x n a l s, obv k' x' n' a' l' s'] W fun e w' => e = Ending.returned (.tuple #[.bool p, .bool ok]) ∧ Grown W w'))
    (L2 : Hid (∀ W, Calls Try.prog 44 #[obv k x n a l s, obv k' x' n' a' l' s'] W fun e w' => e = Ending.returned (.tuple #[.bool p, .bool ok]) ∧ Grown W w'))
    (N1 : Hid (∀ W, Calls Try.prog 45 #[obv k x n a l s] W fun e w' => e = Ending.returned (.tuple #[.int .i64 v, .bool q]) ∧ Grown W w'))
    (N2 : Hid (∀ W, Calls Try.prog 46 #[obv k x n a l s] W fun e w' => e = Ending.returned (.tuple #[.int .i64 v, .bool q]) ∧ Grown W w'))
    (M1 : Hid (∀ W, Calls Try.prog 35 #[obv k x n a l s] W fun e w' => e = Ending.returned (.bool m) ∧ Grown W w'))
    (M2 : Hid (∀ W, Calls Try.prog 47 #[obv k x n a l s] W fun e w' => e = Ending.returned (.bool m) ∧ Grown W w'))
    (S1 : Hid (∀ W, Calls Try.prog 34 #[obv k x n a l s, obv k' x' n' a' l' s'] W fun e w' => e = Ending.returned (.bool r) ∧ Grown W w'))
    (S2 : Hid (∀ W, Calls Try.prog 48 #[obv k x n a l s, obv k' x' n' a' l' s'] W fun e w' => e = Ending.returned (.bool r) ∧ Grown W w'))
    (T1 : Hid (∀ W, Calls Try.prog 36 #[obv k x n a l s] W fun e w' => e = Ending.returned (.string t) ∧ Grown W w'))
    (T2 : Hid (∀ W, Calls Try.prog 49 #[obv k x n a l s] W fun e w' => e = Ending.returned (.string t) ∧ Grown W w'))
    (w : World) :
    Calls Try.prog 11 #[obv k x n a l s, obv k' x' n' a' l' s'] w fun e w' => e = Ending.returned (.bool true) ∧ Grown w w' := by
  go_enter Try.func11, Try.ntmps11
  go_wp2_with fail
  refine (known_yes _).mono ?_
  rintro e w1 ⟨rfl, g1⟩
  have hA : ObS w w.heap.size k x n a l s w1 := ObS.grow (by exact ⟨by simp [go_sem], by simp [go_sem], by simp [go_sem], by simp [go_sem], by simp [go_sem], by simp [go_sem], by (repeat (first | exact Grown.refl _ | assumption | apply Grown.drew | apply Grown.alloc))⟩) g1
  have hB : ObS w (w.heap.size + 1) k' x' n' a' l' s' w1 := ObS.grow (by exact ⟨by simp [go_sem], by simp [go_sem], by simp [go_sem], by simp [go_sem], by simp [go_sem], by simp [go_sem], by (repeat (first | exact Grown.refl _ | assumption | apply Grown.drew | apply Grown.alloc))⟩) g1
  clear g1
  obtain ⟨a0, a1, a2, a3, a4, a5, g⟩ := id hA
  obtain ⟨b0, b1, b2, b3, b4, b5, gb⟩ := id hB
  have X1 : ObT w w.heap.size (w.heap.size + 1) k x n a l s k' x' n' a' l' s' w1 := ⟨a0, a1, a2, a3, a4, a5, b0, b1, b2, b3, b4, b5, g⟩
  clear hA hB gb
  go_wp2_with fail
  refine (L1.out _).mono ?_
  rintro e w2 ⟨rfl, g2⟩
  have X2 := X1.grow (grown_trans (by (repeat (first | exact Grown.refl _ | apply Grown.drew | apply Grown.alloc))) g2)
  clear a0 a1 a2 a3 a4 a5 b0 b1 b2 b3 b4 b5 g g2 X1
  obtain ⟨a0, a1, a2, a3, a4, a5, b0, b1, b2, b3, b4, b5, g⟩ := id X2
  go_wp2_with fail
  refine (L2.out _).mono ?_
  rintro e w3 ⟨rfl, g3⟩
  have X3 := X2.grow (grown_trans (by (repeat (first | exact Grown.refl _ | apply Grown.drew | apply Grown.alloc))) g3)
  clear a0 a1 a2 a3 a4 a5 b0 b1 b2 b3 b4 b5 g g3 X2
  obtain ⟨a0, a1, a2, a3, a4, a5, b0, b1, b2, b3, b4, b5, g⟩ := id X3
  go_wp2_with fail
  refine (N1.out _).mono ?_
  rintro e w4 ⟨rfl, g4⟩
  have X4 := X3.grow (grown_trans (by (repeat (first | exact Grown.refl _ | apply Grown.drew | apply Grown.alloc))) g4)
  clear a0 a1 a2 a3 a4 a5 b0 b1 b2 b3 b4 b5 g g4 X3
  obtain ⟨a0, a1, a2, a3, a4, a5, b0, b1, b2, b3, b4, b5, g⟩ := id X4
  go_wp2_with fail
  refine (N2.out _).mono ?_
  rintro e w5 ⟨rfl, g5⟩
  have X5 := X4.grow (grown_trans (by (repeat (first | exact Grown.refl _ | apply Grown.drew | apply Grown.alloc))) g5)
  clear a0 a1 a2 a3 a4 a5 b0 b1 b2 b3 b4 b5 g g5 X4
  obtain ⟨a0, a1, a2, a3, a4, a5, b0, b1, b2, b3, b4, b5, g⟩ := id X5
  go_wp2_with fail
  clear a0 a1 a2 a3 a4 a5 b0 b1 b2 b3 b4 b5 g
  have DM1 := Lib.hid (fun W (h : ObT w w.heap.size (w.heap.size + 1) k x n a l s k' x' n' a' l' s' W) => (M1.out W).mono fun e W' ⟨he, hg⟩ => (⟨he, h.grow hg⟩ : e = Ending.returned (.bool m) ∧ ObT w w.heap.size (w.heap.size + 1) k x n a l s k' x' n' a' l' s' W'))
  have DM2 := Lib.hid (fun W (h : ObT w w.heap.size (w.heap.size + 1) k x n a l s k' x' n' a' l' s' W) => (M2.out W).mono fun e W' ⟨he, hg⟩ => (⟨he, h.grow hg⟩ : e = Ending.returned (.bool m) ∧ ObT w w.heap.size (w.heap.size + 1) k x n a l s k' x' n' a' l' s' W'))
  have DS1 := Lib.hid (fun W (h : ObT w w.heap.size (w.heap.size + 1) k x n a l s k' x' n' a' l' s' W) => (S1.out W).mono fun e W' ⟨he, hg⟩ => (⟨he, h.grow hg⟩ : e = Ending.returned (.bool r) ∧ ObT w w.heap.size (w.heap.size + 1) k x n a l s k' x' n' a' l' s' W'))
  have DS2 := Lib.hid (fun W (h : ObT w w.heap.size (w.heap.size + 1) k x n a l s k' x' n' a' l' s' W) => (S2.out W).mono fun e W' ⟨he, hg⟩ => (⟨he, h.grow hg⟩ : e = Ending.returned (.bool r) ∧ ObT w w.heap.size (w.heap.size + 1) k x n a l s k' x' n' a' l' s' W'))
  have DT1 := Lib.hid (fun W (h : ObT w w.heap.size (w.heap.size + 1) k x n a l s k' x' n' a' l' s' W) => (T1.out W).mono fun e W' ⟨he, hg⟩ => (⟨he, h.grow hg⟩ : e = Ending.returned (.string t) ∧ ObT w w.heap.size (w.heap.size + 1) k x n a l s k' x' n' a' l' s' W'))
  have DT2 := Lib.hid (fun W (h : ObT w w.heap.size (w.heap.size + 1) k x n a l s k' x' n' a' l' s' W) => (T2.out W).mono fun e W' ⟨he, hg⟩ => (⟨he, h.grow hg⟩ : e = Ending.returned (.string t) ∧ ObT w w.heap.size (w.heap.size + 1) k x n a l s k' x' n' a' l' s' W'))
  clear L1 L2 N1 N2 M1 M2 S1 S2 T1 T2
  go_region_held3 (fun W => W.cell? ⟨w.heap.size, 0, none⟩ = some (.int .i64 k) ∧ W.cell? ⟨w.heap.size, 1, none⟩ = some (.bool x) ∧ W.cell? ⟨w.heap.size, 2, none⟩ = some (.int .i64 n) ∧ W.cell? ⟨w.heap.size, 3, none⟩ = some (.int .i64 a) ∧ W.cell? ⟨w.heap.size, 4, none⟩ = some (.int .i64 l) ∧ W.cell? ⟨w.heap.size, 5, none⟩ = some (.string s) ∧ W.cell? ⟨(w.heap.size + 1), 0, none⟩ = some (.int .i64 k') ∧ W.cell? ⟨(w.heap.size + 1), 1, none⟩ = some (.bool x') ∧ W.cell? ⟨(w.heap.size + 1), 2, none⟩ = some (.int .i64 n') ∧ W.cell? ⟨(w.heap.size + 1), 3, none⟩ = some (.int .i64 a') ∧ W.cell? ⟨(w.heap.size + 1), 4, none⟩ = some (.int .i64 l') ∧ W.cell? ⟨(w.heap.size + 1), 5, none⟩ = some (.string s') ∧ Grown w W)
    (first | assumption)
    (first | (go_at_call 35; with_reducible refine (DM1.out _ ?_).mono ?_; (assumption); rintro e w' ⟨rfl, hS⟩) | (go_at_call 47; with_reducible refine (DM2.out _ ?_).mono ?_; (assumption); rintro e w' ⟨rfl, hS⟩) | (go_at_call 34; with_reducible refine (DS1.out _ ?_).mono ?_; (assumption); rintro e w' ⟨rfl, hS⟩) | (go_at_call 48; with_reducible refine (DS2.out _ ?_).mono ?_; (assumption); rintro e w' ⟨rfl, hS⟩) | (go_at_call 36; with_reducible refine (DT1.out _ ?_).mono ?_; (assumption); rintro e w' ⟨rfl, hS⟩) | (go_at_call 49; with_reducible refine (DT2.out _ ?_).mono ?_; (assumption); rintro e w' ⟨rfl, hS⟩))
  all_goals
    rename_i hSw
    go_wp2_with fail
    go_ret
    exact ⟨rfl, hSw.2.2.2.2.2.2.2.2.2.2.2.2⟩

theorem walk_ObjTells (k : Int) (x : Bool) (n a l : Int) (s : ByteArray) (k' : Int) (x' : Bool) (n' a' l' : Int) (s' : ByteArray) (w : World) :
    Calls Try.prog 11 #[obv k x n a l s, obv k' x' n' a' l' s'] w fun e w' => e = Ending.returned (.bool true) ∧ Grown w w' := by
  by_cases hs : 300 < (s.size : Int)
  · exact tells_far k x n a l s k' x' n' a' l' s' (.inl hs) w
  by_cases hs' : 300 < (s'.size : Int)
  · exact tells_far k x n a l s k' x' n' a' l' s' (.inr ⟨by omega, hs'⟩) w
  obtain ⟨p, ok, L1, L2⟩ := less2_ex k x n a l s k' x' n' a' l' s'
  obtain ⟨v, q, N1, N2⟩ := num2_ex k x n a l s
  obtain ⟨m, M1, M2⟩ := may2_ex k x n a l s
  obtain ⟨r, S1, S2⟩ := same2_ex k x n a l s k' x' n' a' l' s'
  exact tells_near k x n a l s k' x' n' a' l' s' p ok v q m (Pl.typ k) r (by omega) (by omega) (Lib.hid L1) (Lib.hid L2) (Lib.hid N1) (Lib.hid N2) (Lib.hid M1) (Lib.hid M2) (Lib.hid S1) (Lib.hid S2) (Lib.hid fun W => type_any k x n a l s W) (Lib.hid fun W => rtype_any k x n a l s W) w
end Go.Proofs.Ytenmbkngkabonaa
