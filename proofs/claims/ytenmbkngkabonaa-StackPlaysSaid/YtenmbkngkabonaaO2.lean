/- The walk of obj.May. -/
import Derived.Test.YtenmbkngkabonaaO1
import Derived.Test.YtenmbkngkabonaaKit2
import Derived.Deep.RegionHeld3
namespace Go.Proofs.Ytenmbkngkabonaa
set_option linter.unusedVariables false
open Go.RowKit

/-- a boxed object, and that the world has only grown -/
abbrev ObS (w0 : World) (b : Nat) (k : Int) (x : Bool) (n a l : Int) (s : ByteArray) (W : World) : Prop :=
  W.cell? ⟨b, 0, none⟩ = some (.int .i64 k) ∧ W.cell? ⟨b, 1, none⟩ = some (.bool x) ∧ W.cell? ⟨b, 2, none⟩ = some (.int .i64 n) ∧ W.cell? ⟨b, 3, none⟩ = some (.int .i64 a) ∧ W.cell? ⟨b, 4, none⟩ = some (.int .i64 l) ∧ W.cell? ⟨b, 5, none⟩ = some (.string s) ∧ Grown w0 W
theorem ObS.grow {w0 W W' : World} {b : Nat} {k : Int} {x : Bool} {n a l : Int} {s : ByteArray} (h : ObS w0 b k x n a l s W) (hg : Grown W W') : ObS w0 b k x n a l s W' :=
  ⟨grown_cell hg h.1, grown_cell hg h.2.1, grown_cell hg h.2.2.1, grown_cell hg h.2.2.2.1, grown_cell hg h.2.2.2.2.1, grown_cell hg h.2.2.2.2.2.1, grown_trans h.2.2.2.2.2.2 hg⟩

theorem may_int_yes (x : Bool) (n : Int) (h1 : -2147483647 ≤ n) (h2 : n ≤ 2147483647) (w : World) :
    Calls Try.prog 35 #[obv 3 x n 0 0 ⟨#[]⟩] w fun e w' => e = Ending.returned (.bool true) ∧ Grown w w' := by
  have CB := Lib.hid (fun (W : World) (h : ObS w w.heap.size 3 x n 0 0 ⟨#[]⟩ W) => (bare_num 3 x n 0 0 ⟨#[]⟩ (by omega) W).mono fun e W' ⟨he, hg⟩ => (⟨he, h.grow hg⟩ : e = Ending.returned (obv 3 false 0 0 0 ⟨#[]⟩) ∧ ObS w w.heap.size 3 x n 0 0 ⟨#[]⟩ W'))
  go_enter Try.func35, Try.ntmps35
  go_wp2_with fail
  go_region_held3 (fun W => W.cell? ⟨w.heap.size, 0, none⟩ = some (.int .i64 3) ∧ W.cell? ⟨w.heap.size, 1, none⟩ = some (.bool x) ∧ W.cell? ⟨w.heap.size, 2, none⟩ = some (.int .i64 n) ∧ W.cell? ⟨w.heap.size, 3, none⟩ = some (.int .i64 0) ∧ W.cell? ⟨w.heap.size, 4, none⟩ = some (.int .i64 0) ∧ W.cell? ⟨w.heap.size, 5, none⟩ = some (.string ⟨#[]⟩) ∧ Grown w W)
    (first | assumption | (refine ⟨by simp [go_sem], by simp [go_sem], by simp [go_sem], by simp [go_sem], by simp [go_sem], by simp [go_sem], ?_⟩; exact Grown.drew ((Grown.refl w).alloc _ _)))
    (first | (go_at_call 67; refine (CB.out _ ?_).mono ?_; (assumption); rintro e w' ⟨rfl, hS⟩))
  generalize hid : w.heap.size = b at *
  go_wp2
  go_ret
  exact ⟨ret_bool (by first | rfl | (rw [decide_eq_true_eq]; omega) | (rw [decide_eq_false_iff_not]; omega)), (‹ObS w _ _ _ _ _ _ _ _› : ObS w _ 3 x n 0 0 ⟨#[]⟩ _).2.2.2.2.2.2⟩
theorem may_int_low (x : Bool) (n : Int) (h1 : n < -2147483647) (w : World) :
    Calls Try.prog 35 #[obv 3 x n 0 0 ⟨#[]⟩] w fun e w' => e = Ending.returned (.bool false) ∧ Grown w w' := by
  have CB := Lib.hid (fun (W : World) (h : ObS w w.heap.size 3 x n 0 0 ⟨#[]⟩ W) => (bare_num 3 x n 0 0 ⟨#[]⟩ (by omega) W).mono fun e W' ⟨he, hg⟩ => (⟨he, h.grow hg⟩ : e = Ending.returned (obv 3 false 0 0 0 ⟨#[]⟩) ∧ ObS w w.heap.size 3 x n 0 0 ⟨#[]⟩ W'))
  go_enter Try.func35, Try.ntmps35
  go_wp2_with fail
  go_region_held3 (fun W => W.cell? ⟨w.heap.size, 0, none⟩ = some (.int .i64 3) ∧ W.cell? ⟨w.heap.size, 1, none⟩ = some (.bool x) ∧ W.cell? ⟨w.heap.size, 2, none⟩ = some (.int .i64 n) ∧ W.cell? ⟨w.heap.size, 3, none⟩ = some (.int .i64 0) ∧ W.cell? ⟨w.heap.size, 4, none⟩ = some (.int .i64 0) ∧ W.cell? ⟨w.heap.size, 5, none⟩ = some (.string ⟨#[]⟩) ∧ Grown w W)
    (first | assumption | (refine ⟨by simp [go_sem], by simp [go_sem], by simp [go_sem], by simp [go_sem], by simp [go_sem], by simp [go_sem], ?_⟩; exact Grown.drew ((Grown.refl w).alloc _ _)))
    (first | (go_at_call 67; refine (CB.out _ ?_).mono ?_; (assumption); rintro e w' ⟨rfl, hS⟩))
  generalize hid : w.heap.size = b at *
  go_wp2
  go_ret
  exact ⟨ret_bool (by first | rfl | (rw [decide_eq_true_eq]; omega) | (rw [decide_eq_false_iff_not]; omega)), (‹ObS w _ _ _ _ _ _ _ _› : ObS w _ 3 x n 0 0 ⟨#[]⟩ _).2.2.2.2.2.2⟩
theorem may_int_high (x : Bool) (n : Int) (h1 : -2147483647 ≤ n) (h2 : 2147483647 < n) (w : World) :
    Calls Try.prog 35 #[obv 3 x n 0 0 ⟨#[]⟩] w fun e w' => e = Ending.returned (.bool false) ∧ Grown w w' := by
  have CB := Lib.hid (fun (W : World) (h : ObS w w.heap.size 3 x n 0 0 ⟨#[]⟩ W) => (bare_num 3 x n 0 0 ⟨#[]⟩ (by omega) W).mono fun e W' ⟨he, hg⟩ => (⟨he, h.grow hg⟩ : e = Ending.returned (obv 3 false 0 0 0 ⟨#[]⟩) ∧ ObS w w.heap.size 3 x n 0 0 ⟨#[]⟩ W'))
  go_enter Try.func35, Try.ntmps35
  go_wp2_with fail
  go_region_held3 (fun W => W.cell? ⟨w.heap.size, 0, none⟩ = some (.int .i64 3) ∧ W.cell? ⟨w.heap.size, 1, none⟩ = some (.bool x) ∧ W.cell? ⟨w.heap.size, 2, none⟩ = some (.int .i64 n) ∧ W.cell? ⟨w.heap.size, 3, none⟩ = some (.int .i64 0) ∧ W.cell? ⟨w.heap.size, 4, none⟩ = some (.int .i64 0) ∧ W.cell? ⟨w.heap.size, 5, none⟩ = some (.string ⟨#[]⟩) ∧ Grown w W)
    (first | assumption | (refine ⟨by simp [go_sem], by simp [go_sem], by simp [go_sem], by simp [go_sem], by simp [go_sem], by simp [go_sem], ?_⟩; exact Grown.drew ((Grown.refl w).alloc _ _)))
    (first | (go_at_call 67; refine (CB.out _ ?_).mono ?_; (assumption); rintro e w' ⟨rfl, hS⟩))
  generalize hid : w.heap.size = b at *
  go_wp2
  go_ret
  exact ⟨ret_bool (by first | rfl | (rw [decide_eq_true_eq]; omega) | (rw [decide_eq_false_iff_not]; omega)), (‹ObS w _ _ _ _ _ _ _ _› : ObS w _ 3 x n 0 0 ⟨#[]⟩ _).2.2.2.2.2.2⟩
theorem may_fix_yes (x : Bool) (n : Int) (h1 : -1073741823 ≤ n) (h2 : n ≤ 1073741823) (w : World) :
    Calls Try.prog 35 #[obv 4 x n 0 0 ⟨#[]⟩] w fun e w' => e = Ending.returned (.bool true) ∧ Grown w w' := by
  have CB := Lib.hid (fun (W : World) (h : ObS w w.heap.size 4 x n 0 0 ⟨#[]⟩ W) => (bare_num 4 x n 0 0 ⟨#[]⟩ (by omega) W).mono fun e W' ⟨he, hg⟩ => (⟨he, h.grow hg⟩ : e = Ending.returned (obv 4 false 0 0 0 ⟨#[]⟩) ∧ ObS w w.heap.size 4 x n 0 0 ⟨#[]⟩ W'))
  go_enter Try.func35, Try.ntmps35
  go_wp2_with fail
  go_region_held3 (fun W => W.cell? ⟨w.heap.size, 0, none⟩ = some (.int .i64 4) ∧ W.cell? ⟨w.heap.size, 1, none⟩ = some (.bool x) ∧ W.cell? ⟨w.heap.size, 2, none⟩ = some (.int .i64 n) ∧ W.cell? ⟨w.heap.size, 3, none⟩ = some (.int .i64 0) ∧ W.cell? ⟨w.heap.size, 4, none⟩ = some (.int .i64 0) ∧ W.cell? ⟨w.heap.size, 5, none⟩ = some (.string ⟨#[]⟩) ∧ Grown w W)
    (first | assumption | (refine ⟨by simp [go_sem], by simp [go_sem], by simp [go_sem], by simp [go_sem], by simp [go_sem], by simp [go_sem], ?_⟩; exact Grown.drew ((Grown.refl w).alloc _ _)))
    (first | (go_at_call 67; refine (CB.out _ ?_).mono ?_; (assumption); rintro e w' ⟨rfl, hS⟩))
  generalize hid : w.heap.size = b at *
  go_wp2
  go_ret
  exact ⟨ret_bool (by first | rfl | (rw [decide_eq_true_eq]; omega) | (rw [decide_eq_false_iff_not]; omega)), (‹ObS w _ _ _ _ _ _ _ _› : ObS w _ 4 x n 0 0 ⟨#[]⟩ _).2.2.2.2.2.2⟩
theorem may_fix_low (x : Bool) (n : Int) (h1 : n < -1073741823) (w : World) :
    Calls Try.prog 35 #[obv 4 x n 0 0 ⟨#[]⟩] w fun e w' => e = Ending.returned (.bool false) ∧ Grown w w' := by
  have CB := Lib.hid (fun (W : World) (h : ObS w w.heap.size 4 x n 0 0 ⟨#[]⟩ W) => (bare_num 4 x n 0 0 ⟨#[]⟩ (by omega) W).mono fun e W' ⟨he, hg⟩ => (⟨he, h.grow hg⟩ : e = Ending.returned (obv 4 false 0 0 0 ⟨#[]⟩) ∧ ObS w w.heap.size 4 x n 0 0 ⟨#[]⟩ W'))
  go_enter Try.func35, Try.ntmps35
  go_wp2_with fail
  go_region_held3 (fun W => W.cell? ⟨w.heap.size, 0, none⟩ = some (.int .i64 4) ∧ W.cell? ⟨w.heap.size, 1, none⟩ = some (.bool x) ∧ W.cell? ⟨w.heap.size, 2, none⟩ = some (.int .i64 n) ∧ W.cell? ⟨w.heap.size, 3, none⟩ = some (.int .i64 0) ∧ W.cell? ⟨w.heap.size, 4, none⟩ = some (.int .i64 0) ∧ W.cell? ⟨w.heap.size, 5, none⟩ = some (.string ⟨#[]⟩) ∧ Grown w W)
    (first | assumption | (refine ⟨by simp [go_sem], by simp [go_sem], by simp [go_sem], by simp [go_sem], by simp [go_sem], by simp [go_sem], ?_⟩; exact Grown.drew ((Grown.refl w).alloc _ _)))
    (first | (go_at_call 67; refine (CB.out _ ?_).mono ?_; (assumption); rintro e w' ⟨rfl, hS⟩))
  generalize hid : w.heap.size = b at *
  go_wp2
  go_ret
  exact ⟨ret_bool (by first | rfl | (rw [decide_eq_true_eq]; omega) | (rw [decide_eq_false_iff_not]; omega)), (‹ObS w _ _ _ _ _ _ _ _› : ObS w _ 4 x n 0 0 ⟨#[]⟩ _).2.2.2.2.2.2⟩
theorem may_fix_high (x : Bool) (n : Int) (h1 : -1073741823 ≤ n) (h2 : 1073741823 < n) (w : World) :
    Calls Try.prog 35 #[obv 4 x n 0 0 ⟨#[]⟩] w fun e w' => e = Ending.returned (.bool false) ∧ Grown w w' := by
  have CB := Lib.hid (fun (W : World) (h : ObS w w.heap.size 4 x n 0 0 ⟨#[]⟩ W) => (bare_num 4 x n 0 0 ⟨#[]⟩ (by omega) W).mono fun e W' ⟨he, hg⟩ => (⟨he, h.grow hg⟩ : e = Ending.returned (obv 4 false 0 0 0 ⟨#[]⟩) ∧ ObS w w.heap.size 4 x n 0 0 ⟨#[]⟩ W'))
  go_enter Try.func35, Try.ntmps35
  go_wp2_with fail
  go_region_held3 (fun W => W.cell? ⟨w.heap.size, 0, none⟩ = some (.int .i64 4) ∧ W.cell? ⟨w.heap.size, 1, none⟩ = some (.bool x) ∧ W.cell? ⟨w.heap.size, 2, none⟩ = some (.int .i64 n) ∧ W.cell? ⟨w.heap.size, 3, none⟩ = some (.int .i64 0) ∧ W.cell? ⟨w.heap.size, 4, none⟩ = some (.int .i64 0) ∧ W.cell? ⟨w.heap.size, 5, none⟩ = some (.string ⟨#[]⟩) ∧ Grown w W)
    (first | assumption | (refine ⟨by simp [go_sem], by simp [go_sem], by simp [go_sem], by simp [go_sem], by simp [go_sem], by simp [go_sem], ?_⟩; exact Grown.drew ((Grown.refl w).alloc _ _)))
    (first | (go_at_call 67; refine (CB.out _ ?_).mono ?_; (assumption); rintro e w' ⟨rfl, hS⟩))
  generalize hid : w.heap.size = b at *
  go_wp2
  go_ret
  exact ⟨ret_bool (by first | rfl | (rw [decide_eq_true_eq]; omega) | (rw [decide_eq_false_iff_not]; omega)), (‹ObS w _ _ _ _ _ _ _ _› : ObS w _ 4 x n 0 0 ⟨#[]⟩ _).2.2.2.2.2.2⟩
end Go.Proofs.Ytenmbkngkabonaa
