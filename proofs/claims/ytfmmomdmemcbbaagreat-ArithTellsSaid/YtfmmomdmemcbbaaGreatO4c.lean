/- The walks of obj.May, kind by kind (printed by wip/gen_may.p -/
import Derived.Test.YtfmmomdmemcbbaaGreatM1
namespace Go.Proofs.YtfmmomdmemcbbaaGreat
set_option linter.unusedVariables false
open Go.RowKit
theorem may_k10_yes (x : Bool) (n : Int) (h1 : 0 ≤ n) (h2 : n ≤ 40000) (w : World) :
    Calls Tryz.prog 16 #[obv 10 x n 0 0 ⟨#[]⟩] w fun e w' => e = Ending.returned (.bool true) ∧ Grown w w' := by
  have CB := Lib.hid (fun (W : World) (h : ObS w w.heap.size 10 x n 0 0 ⟨#[]⟩ W) => (bare_num 10 x n 0 0 ⟨#[]⟩ (by omega) W).mono fun e W' ⟨he, hg⟩ => (⟨he, h.grow hg⟩ : e = Ending.returned (obv 10 false 0 0 0 ⟨#[]⟩) ∧ ObS w w.heap.size 10 x n 0 0 ⟨#[]⟩ W'))
  go_enter Tryz.func16, Tryz.ntmps16
  go_wp2_with fail
  go_region_held3 (fun W => W.cell? ⟨w.heap.size, 0, none⟩ = some (.int .i64 10) ∧ W.cell? ⟨w.heap.size, 1, none⟩ = some (.bool x) ∧ W.cell? ⟨w.heap.size, 2, none⟩ = some (.int .i64 n) ∧ W.cell? ⟨w.heap.size, 3, none⟩ = some (.int .i64 0) ∧ W.cell? ⟨w.heap.size, 4, none⟩ = some (.int .i64 0) ∧ W.cell? ⟨w.heap.size, 5, none⟩ = some (.string ⟨#[]⟩) ∧ Grown w W)
    (first | assumption | (refine ⟨by simp [go_sem], by simp [go_sem], by simp [go_sem], by simp [go_sem], by simp [go_sem], by simp [go_sem], ?_⟩; exact Grown.drew ((Grown.refl w).alloc _ _)))
    (first | (go_at_call 30; refine (CB.out _ ?_).mono ?_; (assumption); rintro e w' ⟨rfl, hS⟩))
  generalize hid : w.heap.size = b at *
  go_wp2
  go_ret
  exact ⟨ret_bool (by first | rfl | (rw [decide_eq_true_eq]; omega) | (rw [decide_eq_false_iff_not]; omega)), (‹ObS w _ _ _ _ _ _ _ _› : ObS w _ 10 x n 0 0 ⟨#[]⟩ _).2.2.2.2.2.2⟩
theorem may_k10_low (x : Bool) (n : Int) (h1 : n < 0) (w : World) :
    Calls Tryz.prog 16 #[obv 10 x n 0 0 ⟨#[]⟩] w fun e w' => e = Ending.returned (.bool false) ∧ Grown w w' := by
  have CB := Lib.hid (fun (W : World) (h : ObS w w.heap.size 10 x n 0 0 ⟨#[]⟩ W) => (bare_num 10 x n 0 0 ⟨#[]⟩ (by omega) W).mono fun e W' ⟨he, hg⟩ => (⟨he, h.grow hg⟩ : e = Ending.returned (obv 10 false 0 0 0 ⟨#[]⟩) ∧ ObS w w.heap.size 10 x n 0 0 ⟨#[]⟩ W'))
  go_enter Tryz.func16, Tryz.ntmps16
  go_wp2_with fail
  go_region_held3 (fun W => W.cell? ⟨w.heap.size, 0, none⟩ = some (.int .i64 10) ∧ W.cell? ⟨w.heap.size, 1, none⟩ = some (.bool x) ∧ W.cell? ⟨w.heap.size, 2, none⟩ = some (.int .i64 n) ∧ W.cell? ⟨w.heap.size, 3, none⟩ = some (.int .i64 0) ∧ W.cell? ⟨w.heap.size, 4, none⟩ = some (.int .i64 0) ∧ W.cell? ⟨w.heap.size, 5, none⟩ = some (.string ⟨#[]⟩) ∧ Grown w W)
    (first | assumption | (refine ⟨by simp [go_sem], by simp [go_sem], by simp [go_sem], by simp [go_sem], by simp [go_sem], by simp [go_sem], ?_⟩; exact Grown.drew ((Grown.refl w).alloc _ _)))
    (first | (go_at_call 30; refine (CB.out _ ?_).mono ?_; (assumption); rintro e w' ⟨rfl, hS⟩))
  generalize hid : w.heap.size = b at *
  go_wp2
  go_ret
  exact ⟨ret_bool (by first | rfl | (rw [decide_eq_true_eq]; omega) | (rw [decide_eq_false_iff_not]; omega)), (‹ObS w _ _ _ _ _ _ _ _› : ObS w _ 10 x n 0 0 ⟨#[]⟩ _).2.2.2.2.2.2⟩
theorem may_k10_high (x : Bool) (n : Int) (h1 : 0 ≤ n) (h2 : 40000 < n) (w : World) :
    Calls Tryz.prog 16 #[obv 10 x n 0 0 ⟨#[]⟩] w fun e w' => e = Ending.returned (.bool false) ∧ Grown w w' := by
  have CB := Lib.hid (fun (W : World) (h : ObS w w.heap.size 10 x n 0 0 ⟨#[]⟩ W) => (bare_num 10 x n 0 0 ⟨#[]⟩ (by omega) W).mono fun e W' ⟨he, hg⟩ => (⟨he, h.grow hg⟩ : e = Ending.returned (obv 10 false 0 0 0 ⟨#[]⟩) ∧ ObS w w.heap.size 10 x n 0 0 ⟨#[]⟩ W'))
  go_enter Tryz.func16, Tryz.ntmps16
  go_wp2_with fail
  go_region_held3 (fun W => W.cell? ⟨w.heap.size, 0, none⟩ = some (.int .i64 10) ∧ W.cell? ⟨w.heap.size, 1, none⟩ = some (.bool x) ∧ W.cell? ⟨w.heap.size, 2, none⟩ = some (.int .i64 n) ∧ W.cell? ⟨w.heap.size, 3, none⟩ = some (.int .i64 0) ∧ W.cell? ⟨w.heap.size, 4, none⟩ = some (.int .i64 0) ∧ W.cell? ⟨w.heap.size, 5, none⟩ = some (.string ⟨#[]⟩) ∧ Grown w W)
    (first | assumption | (refine ⟨by simp [go_sem], by simp [go_sem], by simp [go_sem], by simp [go_sem], by simp [go_sem], by simp [go_sem], ?_⟩; exact Grown.drew ((Grown.refl w).alloc _ _)))
    (first | (go_at_call 30; refine (CB.out _ ?_).mono ?_; (assumption); rintro e w' ⟨rfl, hS⟩))
  generalize hid : w.heap.size = b at *
  go_wp2
  go_ret
  exact ⟨ret_bool (by first | rfl | (rw [decide_eq_true_eq]; omega) | (rw [decide_eq_false_iff_not]; omega)), (‹ObS w _ _ _ _ _ _ _ _› : ObS w _ 10 x n 0 0 ⟨#[]⟩ _).2.2.2.2.2.2⟩
theorem may_k10_bad_a (x : Bool) (n : Int) (a : Int) (l : Int) (s : ByteArray) (hd : (a == 0) = false) (w : World) :
    Calls Tryz.prog 16 #[obv 10 x n a l s] w fun e w' => e = Ending.returned (.bool false) ∧ Grown w w' := by
  have CB := Lib.hid (fun (W : World) (h : ObS w w.heap.size 10 x n a l s W) => (bare_num 10 x n a l s (by omega) W).mono fun e W' ⟨he, hg⟩ => (⟨he, h.grow hg⟩ : e = Ending.returned (obv 10 false 0 a l s) ∧ ObS w w.heap.size 10 x n a l s W'))
  go_enter Tryz.func16, Tryz.ntmps16
  go_wp2_with fail
  go_region_held3 (fun W => W.cell? ⟨w.heap.size, 0, none⟩ = some (.int .i64 10) ∧ W.cell? ⟨w.heap.size, 1, none⟩ = some (.bool x) ∧ W.cell? ⟨w.heap.size, 2, none⟩ = some (.int .i64 n) ∧ W.cell? ⟨w.heap.size, 3, none⟩ = some (.int .i64 a) ∧ W.cell? ⟨w.heap.size, 4, none⟩ = some (.int .i64 l) ∧ W.cell? ⟨w.heap.size, 5, none⟩ = some (.string s) ∧ Grown w W)
    (first | assumption | (refine ⟨by simp [go_sem], by simp [go_sem], by simp [go_sem], by simp [go_sem], by simp [go_sem], by simp [go_sem], ?_⟩; exact Grown.drew ((Grown.refl w).alloc _ _)))
    (first | (go_at_call 30; refine (CB.out _ ?_).mono ?_; (assumption); rintro e w' ⟨rfl, hS⟩))
  generalize hid : w.heap.size = b at *
  go_wp2
  go_ret
  exact ⟨ret_bool (by first | rfl | (rw [decide_eq_true_eq]; omega) | (rw [decide_eq_false_iff_not]; omega)), (‹ObS w _ _ _ _ _ _ _ _› : ObS w _ 10 x n a l s _).2.2.2.2.2.2⟩
theorem may_k10_bad_l (x : Bool) (n : Int) (l : Int) (s : ByteArray) (hd : (l == 0) = false) (w : World) :
    Calls Tryz.prog 16 #[obv 10 x n 0 l s] w fun e w' => e = Ending.returned (.bool false) ∧ Grown w w' := by
  have CB := Lib.hid (fun (W : World) (h : ObS w w.heap.size 10 x n 0 l s W) => (bare_num 10 x n 0 l s (by omega) W).mono fun e W' ⟨he, hg⟩ => (⟨he, h.grow hg⟩ : e = Ending.returned (obv 10 false 0 0 l s) ∧ ObS w w.heap.size 10 x n 0 l s W'))
  go_enter Tryz.func16, Tryz.ntmps16
  go_wp2_with fail
  go_region_held3 (fun W => W.cell? ⟨w.heap.size, 0, none⟩ = some (.int .i64 10) ∧ W.cell? ⟨w.heap.size, 1, none⟩ = some (.bool x) ∧ W.cell? ⟨w.heap.size, 2, none⟩ = some (.int .i64 n) ∧ W.cell? ⟨w.heap.size, 3, none⟩ = some (.int .i64 0) ∧ W.cell? ⟨w.heap.size, 4, none⟩ = some (.int .i64 l) ∧ W.cell? ⟨w.heap.size, 5, none⟩ = some (.string s) ∧ Grown w W)
    (first | assumption | (refine ⟨by simp [go_sem], by simp [go_sem], by simp [go_sem], by simp [go_sem], by simp [go_sem], by simp [go_sem], ?_⟩; exact Grown.drew ((Grown.refl w).alloc _ _)))
    (first | (go_at_call 30; refine (CB.out _ ?_).mono ?_; (assumption); rintro e w' ⟨rfl, hS⟩))
  generalize hid : w.heap.size = b at *
  go_wp2
  go_ret
  exact ⟨ret_bool (by first | rfl | (rw [decide_eq_true_eq]; omega) | (rw [decide_eq_false_iff_not]; omega)), (‹ObS w _ _ _ _ _ _ _ _› : ObS w _ 10 x n 0 l s _).2.2.2.2.2.2⟩
theorem may_k10_bad_s (x : Bool) (n : Int) (s : ByteArray) (hd : (s.toList == []) = false) (hd2 : s.toList.isEmpty = false) (hd3 : ¬ s.toList = []) (w : World) :
    Calls Tryz.prog 16 #[obv 10 x n 0 0 s] w fun e w' => e = Ending.returned (.bool false) ∧ Grown w w' := by
  have CB := Lib.hid (fun (W : World) (h : ObS w w.heap.size 10 x n 0 0 s W) => (bare_num 10 x n 0 0 s (by omega) W).mono fun e W' ⟨he, hg⟩ => (⟨he, h.grow hg⟩ : e = Ending.returned (obv 10 false 0 0 0 s) ∧ ObS w w.heap.size 10 x n 0 0 s W'))
  go_enter Tryz.func16, Tryz.ntmps16
  go_wp2_with fail
  go_region_held3 (fun W => W.cell? ⟨w.heap.size, 0, none⟩ = some (.int .i64 10) ∧ W.cell? ⟨w.heap.size, 1, none⟩ = some (.bool x) ∧ W.cell? ⟨w.heap.size, 2, none⟩ = some (.int .i64 n) ∧ W.cell? ⟨w.heap.size, 3, none⟩ = some (.int .i64 0) ∧ W.cell? ⟨w.heap.size, 4, none⟩ = some (.int .i64 0) ∧ W.cell? ⟨w.heap.size, 5, none⟩ = some (.string s) ∧ Grown w W)
    (first | assumption | (refine ⟨by simp [go_sem], by simp [go_sem], by simp [go_sem], by simp [go_sem], by simp [go_sem], by simp [go_sem], ?_⟩; exact Grown.drew ((Grown.refl w).alloc _ _)))
    (first | (go_at_call 30; refine (CB.out _ ?_).mono ?_; (assumption); rintro e w' ⟨rfl, hS⟩))
  generalize hid : w.heap.size = b at *
  go_wp2
  go_ret
  exact ⟨ret_bool (by first | rfl | (rw [decide_eq_true_eq]; omega) | (rw [decide_eq_false_iff_not]; omega)), (‹ObS w _ _ _ _ _ _ _ _› : ObS w _ 10 x n 0 0 s _).2.2.2.2.2.2⟩
theorem may_k11_yes (x : Bool) (n : Int) (h1 : 1 ≤ n) (h2 : n ≤ 2147483647) (w : World) :
    Calls Tryz.prog 16 #[obv 11 x n 0 0 ⟨#[]⟩] w fun e w' => e = Ending.returned (.bool true) ∧ Grown w w' := by
  have CB := Lib.hid (fun (W : World) (h : ObS w w.heap.size 11 x n 0 0 ⟨#[]⟩ W) => (bare_num 11 x n 0 0 ⟨#[]⟩ (by omega) W).mono fun e W' ⟨he, hg⟩ => (⟨he, h.grow hg⟩ : e = Ending.returned (obv 11 false 0 0 0 ⟨#[]⟩) ∧ ObS w w.heap.size 11 x n 0 0 ⟨#[]⟩ W'))
  go_enter Tryz.func16, Tryz.ntmps16
  go_wp2_with fail
  go_region_held3 (fun W => W.cell? ⟨w.heap.size, 0, none⟩ = some (.int .i64 11) ∧ W.cell? ⟨w.heap.size, 1, none⟩ = some (.bool x) ∧ W.cell? ⟨w.heap.size, 2, none⟩ = some (.int .i64 n) ∧ W.cell? ⟨w.heap.size, 3, none⟩ = some (.int .i64 0) ∧ W.cell? ⟨w.heap.size, 4, none⟩ = some (.int .i64 0) ∧ W.cell? ⟨w.heap.size, 5, none⟩ = some (.string ⟨#[]⟩) ∧ Grown w W)
    (first | assumption | (refine ⟨by simp [go_sem], by simp [go_sem], by simp [go_sem], by simp [go_sem], by simp [go_sem], by simp [go_sem], ?_⟩; exact Grown.drew ((Grown.refl w).alloc _ _)))
    (first | (go_at_call 30; refine (CB.out _ ?_).mono ?_; (assumption); rintro e w' ⟨rfl, hS⟩))
  generalize hid : w.heap.size = b at *
  go_wp2
  go_ret
  exact ⟨ret_bool (by first | rfl | (rw [decide_eq_true_eq]; omega) | (rw [decide_eq_false_iff_not]; omega)), (‹ObS w _ _ _ _ _ _ _ _› : ObS w _ 11 x n 0 0 ⟨#[]⟩ _).2.2.2.2.2.2⟩
theorem may_k11_low (x : Bool) (n : Int) (h1 : n < 1) (w : World) :
    Calls Tryz.prog 16 #[obv 11 x n 0 0 ⟨#[]⟩] w fun e w' => e = Ending.returned (.bool false) ∧ Grown w w' := by
  have CB := Lib.hid (fun (W : World) (h : ObS w w.heap.size 11 x n 0 0 ⟨#[]⟩ W) => (bare_num 11 x n 0 0 ⟨#[]⟩ (by omega) W).mono fun e W' ⟨he, hg⟩ => (⟨he, h.grow hg⟩ : e = Ending.returned (obv 11 false 0 0 0 ⟨#[]⟩) ∧ ObS w w.heap.size 11 x n 0 0 ⟨#[]⟩ W'))
  go_enter Tryz.func16, Tryz.ntmps16
  go_wp2_with fail
  go_region_held3 (fun W => W.cell? ⟨w.heap.size, 0, none⟩ = some (.int .i64 11) ∧ W.cell? ⟨w.heap.size, 1, none⟩ = some (.bool x) ∧ W.cell? ⟨w.heap.size, 2, none⟩ = some (.int .i64 n) ∧ W.cell? ⟨w.heap.size, 3, none⟩ = some (.int .i64 0) ∧ W.cell? ⟨w.heap.size, 4, none⟩ = some (.int .i64 0) ∧ W.cell? ⟨w.heap.size, 5, none⟩ = some (.string ⟨#[]⟩) ∧ Grown w W)
    (first | assumption | (refine ⟨by simp [go_sem], by simp [go_sem], by simp [go_sem], by simp [go_sem], by simp [go_sem], by simp [go_sem], ?_⟩; exact Grown.drew ((Grown.refl w).alloc _ _)))
    (first | (go_at_call 30; refine (CB.out _ ?_).mono ?_; (assumption); rintro e w' ⟨rfl, hS⟩))
  generalize hid : w.heap.size = b at *
  go_wp2
  go_ret
  exact ⟨ret_bool (by first | rfl | (rw [decide_eq_true_eq]; omega) | (rw [decide_eq_false_iff_not]; omega)), (‹ObS w _ _ _ _ _ _ _ _› : ObS w _ 11 x n 0 0 ⟨#[]⟩ _).2.2.2.2.2.2⟩
theorem may_k11_high (x : Bool) (n : Int) (h1 : 1 ≤ n) (h2 : 2147483647 < n) (w : World) :
    Calls Tryz.prog 16 #[obv 11 x n 0 0 ⟨#[]⟩] w fun e w' => e = Ending.returned (.bool false) ∧ Grown w w' := by
  have CB := Lib.hid (fun (W : World) (h : ObS w w.heap.size 11 x n 0 0 ⟨#[]⟩ W) => (bare_num 11 x n 0 0 ⟨#[]⟩ (by omega) W).mono fun e W' ⟨he, hg⟩ => (⟨he, h.grow hg⟩ : e = Ending.returned (obv 11 false 0 0 0 ⟨#[]⟩) ∧ ObS w w.heap.size 11 x n 0 0 ⟨#[]⟩ W'))
  go_enter Tryz.func16, Tryz.ntmps16
  go_wp2_with fail
  go_region_held3 (fun W => W.cell? ⟨w.heap.size, 0, none⟩ = some (.int .i64 11) ∧ W.cell? ⟨w.heap.size, 1, none⟩ = some (.bool x) ∧ W.cell? ⟨w.heap.size, 2, none⟩ = some (.int .i64 n) ∧ W.cell? ⟨w.heap.size, 3, none⟩ = some (.int .i64 0) ∧ W.cell? ⟨w.heap.size, 4, none⟩ = some (.int .i64 0) ∧ W.cell? ⟨w.heap.size, 5, none⟩ = some (.string ⟨#[]⟩) ∧ Grown w W)
    (first | assumption | (refine ⟨by simp [go_sem], by simp [go_sem], by simp [go_sem], by simp [go_sem], by simp [go_sem], by simp [go_sem], ?_⟩; exact Grown.drew ((Grown.refl w).alloc _ _)))
    (first | (go_at_call 30; refine (CB.out _ ?_).mono ?_; (assumption); rintro e w' ⟨rfl, hS⟩))
  generalize hid : w.heap.size = b at *
  go_wp2
  go_ret
  exact ⟨ret_bool (by first | rfl | (rw [decide_eq_true_eq]; omega) | (rw [decide_eq_false_iff_not]; omega)), (‹ObS w _ _ _ _ _ _ _ _› : ObS w _ 11 x n 0 0 ⟨#[]⟩ _).2.2.2.2.2.2⟩
theorem may_k11_bad_a (x : Bool) (n : Int) (a : Int) (l : Int) (s : ByteArray) (hd : (a == 0) = false) (w : World) :
    Calls Tryz.prog 16 #[obv 11 x n a l s] w fun e w' => e = Ending.returned (.bool false) ∧ Grown w w' := by
  have CB := Lib.hid (fun (W : World) (h : ObS w w.heap.size 11 x n a l s W) => (bare_num 11 x n a l s (by omega) W).mono fun e W' ⟨he, hg⟩ => (⟨he, h.grow hg⟩ : e = Ending.returned (obv 11 false 0 a l s) ∧ ObS w w.heap.size 11 x n a l s W'))
  go_enter Tryz.func16, Tryz.ntmps16
  go_wp2_with fail
  go_region_held3 (fun W => W.cell? ⟨w.heap.size, 0, none⟩ = some (.int .i64 11) ∧ W.cell? ⟨w.heap.size, 1, none⟩ = some (.bool x) ∧ W.cell? ⟨w.heap.size, 2, none⟩ = some (.int .i64 n) ∧ W.cell? ⟨w.heap.size, 3, none⟩ = some (.int .i64 a) ∧ W.cell? ⟨w.heap.size, 4, none⟩ = some (.int .i64 l) ∧ W.cell? ⟨w.heap.size, 5, none⟩ = some (.string s) ∧ Grown w W)
    (first | assumption | (refine ⟨by simp [go_sem], by simp [go_sem], by simp [go_sem], by simp [go_sem], by simp [go_sem], by simp [go_sem], ?_⟩; exact Grown.drew ((Grown.refl w).alloc _ _)))
    (first | (go_at_call 30; refine (CB.out _ ?_).mono ?_; (assumption); rintro e w' ⟨rfl, hS⟩))
  generalize hid : w.heap.size = b at *
  go_wp2
  go_ret
  exact ⟨ret_bool (by first | rfl | (rw [decide_eq_true_eq]; omega) | (rw [decide_eq_false_iff_not]; omega)), (‹ObS w _ _ _ _ _ _ _ _› : ObS w _ 11 x n a l s _).2.2.2.2.2.2⟩
theorem may_k11_bad_l (x : Bool) (n : Int) (l : Int) (s : ByteArray) (hd : (l == 0) = false) (w : World) :
    Calls Tryz.prog 16 #[obv 11 x n 0 l s] w fun e w' => e = Ending.returned (.bool false) ∧ Grown w w' := by
  have CB := Lib.hid (fun (W : World) (h : ObS w w.heap.size 11 x n 0 l s W) => (bare_num 11 x n 0 l s (by omega) W).mono fun e W' ⟨he, hg⟩ => (⟨he, h.grow hg⟩ : e = Ending.returned (obv 11 false 0 0 l s) ∧ ObS w w.heap.size 11 x n 0 l s W'))
  go_enter Tryz.func16, Tryz.ntmps16
  go_wp2_with fail
  go_region_held3 (fun W => W.cell? ⟨w.heap.size, 0, none⟩ = some (.int .i64 11) ∧ W.cell? ⟨w.heap.size, 1, none⟩ = some (.bool x) ∧ W.cell? ⟨w.heap.size, 2, none⟩ = some (.int .i64 n) ∧ W.cell? ⟨w.heap.size, 3, none⟩ = some (.int .i64 0) ∧ W.cell? ⟨w.heap.size, 4, none⟩ = some (.int .i64 l) ∧ W.cell? ⟨w.heap.size, 5, none⟩ = some (.string s) ∧ Grown w W)
    (first | assumption | (refine ⟨by simp [go_sem], by simp [go_sem], by simp [go_sem], by simp [go_sem], by simp [go_sem], by simp [go_sem], ?_⟩; exact Grown.drew ((Grown.refl w).alloc _ _)))
    (first | (go_at_call 30; refine (CB.out _ ?_).mono ?_; (assumption); rintro e w' ⟨rfl, hS⟩))
  generalize hid : w.heap.size = b at *
  go_wp2
  go_ret
  exact ⟨ret_bool (by first | rfl | (rw [decide_eq_true_eq]; omega) | (rw [decide_eq_false_iff_not]; omega)), (‹ObS w _ _ _ _ _ _ _ _› : ObS w _ 11 x n 0 l s _).2.2.2.2.2.2⟩
theorem may_k11_bad_s (x : Bool) (n : Int) (s : ByteArray) (hd : (s.toList == []) = false) (hd2 : s.toList.isEmpty = false) (hd3 : ¬ s.toList = []) (w : World) :
    Calls Tryz.prog 16 #[obv 11 x n 0 0 s] w fun e w' => e = Ending.returned (.bool false) ∧ Grown w w' := by
  have CB := Lib.hid (fun (W : World) (h : ObS w w.heap.size 11 x n 0 0 s W) => (bare_num 11 x n 0 0 s (by omega) W).mono fun e W' ⟨he, hg⟩ => (⟨he, h.grow hg⟩ : e = Ending.returned (obv 11 false 0 0 0 s) ∧ ObS w w.heap.size 11 x n 0 0 s W'))
  go_enter Tryz.func16, Tryz.ntmps16
  go_wp2_with fail
  go_region_held3 (fun W => W.cell? ⟨w.heap.size, 0, none⟩ = some (.int .i64 11) ∧ W.cell? ⟨w.heap.size, 1, none⟩ = some (.bool x) ∧ W.cell? ⟨w.heap.size, 2, none⟩ = some (.int .i64 n) ∧ W.cell? ⟨w.heap.size, 3, none⟩ = some (.int .i64 0) ∧ W.cell? ⟨w.heap.size, 4, none⟩ = some (.int .i64 0) ∧ W.cell? ⟨w.heap.size, 5, none⟩ = some (.string s) ∧ Grown w W)
    (first | assumption | (refine ⟨by simp [go_sem], by simp [go_sem], by simp [go_sem], by simp [go_sem], by simp [go_sem], by simp [go_sem], ?_⟩; exact Grown.drew ((Grown.refl w).alloc _ _)))
    (first | (go_at_call 30; refine (CB.out _ ?_).mono ?_; (assumption); rintro e w' ⟨rfl, hS⟩))
  generalize hid : w.heap.size = b at *
  go_wp2
  go_ret
  exact ⟨ret_bool (by first | rfl | (rw [decide_eq_true_eq]; omega) | (rw [decide_eq_false_iff_not]; omega)), (‹ObS w _ _ _ _ _ _ _ _› : ObS w _ 11 x n 0 0 s _).2.2.2.2.2.2⟩
theorem may_k8_yes (x : Bool) (n : Int) (a : Int) (l : Int) (pn : 0 ≤ n) (qn : n ≤ 40000) (pa : 0 ≤ a) (qa : a ≤ 40000) (pl : 0 ≤ l) (ql : l ≤ 40000) (w : World) :
    Calls Tryz.prog 16 #[obv 8 x n a l ⟨#[]⟩] w fun e w' => e = Ending.returned (.bool true) ∧ Grown w w' := by
  have CB := Lib.hid (fun (W : World) (h : ObS w w.heap.size 8 x n a l ⟨#[]⟩ W) => (bare_row 8 x n a l ⟨#[]⟩ (by omega) W).mono fun e W' ⟨he, hg⟩ => (⟨he, h.grow hg⟩ : e = Ending.returned (obv 8 false 0 0 0 ⟨#[]⟩) ∧ ObS w w.heap.size 8 x n a l ⟨#[]⟩ W'))
  go_enter Tryz.func16, Tryz.ntmps16
  go_wp2_with fail
  go_region_held3 (fun W => W.cell? ⟨w.heap.size, 0, none⟩ = some (.int .i64 8) ∧ W.cell? ⟨w.heap.size, 1, none⟩ = some (.bool x) ∧ W.cell? ⟨w.heap.size, 2, none⟩ = some (.int .i64 n) ∧ W.cell? ⟨w.heap.size, 3, none⟩ = some (.int .i64 a) ∧ W.cell? ⟨w.heap.size, 4, none⟩ = some (.int .i64 l) ∧ W.cell? ⟨w.heap.size, 5, none⟩ = some (.string ⟨#[]⟩) ∧ Grown w W)
    (first | assumption | (refine ⟨by simp [go_sem], by simp [go_sem], by simp [go_sem], by simp [go_sem], by simp [go_sem], by simp [go_sem], ?_⟩; exact Grown.drew ((Grown.refl w).alloc _ _)))
    (first | (go_at_call 30; refine (CB.out _ ?_).mono ?_; (assumption); rintro e w' ⟨rfl, hS⟩))
  generalize hid : w.heap.size = b at *
  go_wp2
  go_ret
  exact ⟨ret_bool (by first | rfl | (rw [decide_eq_true_eq]; omega) | (rw [decide_eq_false_iff_not]; omega)), (‹ObS w _ _ _ _ _ _ _ _› : ObS w _ 8 x n a l ⟨#[]⟩ _).2.2.2.2.2.2⟩
theorem may_k8_lown (x : Bool) (n : Int) (a : Int) (l : Int) (pn : n < 0) (w : World) :
    Calls Tryz.prog 16 #[obv 8 x n a l ⟨#[]⟩] w fun e w' => e = Ending.returned (.bool false) ∧ Grown w w' := by
  have CB := Lib.hid (fun (W : World) (h : ObS w w.heap.size 8 x n a l ⟨#[]⟩ W) => (bare_row 8 x n a l ⟨#[]⟩ (by omega) W).mono fun e W' ⟨he, hg⟩ => (⟨he, h.grow hg⟩ : e = Ending.returned (obv 8 false 0 0 0 ⟨#[]⟩) ∧ ObS w w.heap.size 8 x n a l ⟨#[]⟩ W'))
  go_enter Tryz.func16, Tryz.ntmps16
  go_wp2_with fail
  go_region_held3 (fun W => W.cell? ⟨w.heap.size, 0, none⟩ = some (.int .i64 8) ∧ W.cell? ⟨w.heap.size, 1, none⟩ = some (.bool x) ∧ W.cell? ⟨w.heap.size, 2, none⟩ = some (.int .i64 n) ∧ W.cell? ⟨w.heap.size, 3, none⟩ = some (.int .i64 a) ∧ W.cell? ⟨w.heap.size, 4, none⟩ = some (.int .i64 l) ∧ W.cell? ⟨w.heap.size, 5, none⟩ = some (.string ⟨#[]⟩) ∧ Grown w W)
    (first | assumption | (refine ⟨by simp [go_sem], by simp [go_sem], by simp [go_sem], by simp [go_sem], by simp [go_sem], by simp [go_sem], ?_⟩; exact Grown.drew ((Grown.refl w).alloc _ _)))
    (first | (go_at_call 30; refine (CB.out _ ?_).mono ?_; (assumption); rintro e w' ⟨rfl, hS⟩))
  generalize hid : w.heap.size = b at *
  go_wp2
  go_ret
  exact ⟨ret_bool (by first | rfl | (rw [decide_eq_true_eq]; omega) | (rw [decide_eq_false_iff_not]; omega)), (‹ObS w _ _ _ _ _ _ _ _› : ObS w _ 8 x n a l ⟨#[]⟩ _).2.2.2.2.2.2⟩
theorem may_k8_highn (x : Bool) (n : Int) (a : Int) (l : Int) (pn : 0 ≤ n) (qn : 40000 < n) (w : World) :
    Calls Tryz.prog 16 #[obv 8 x n a l ⟨#[]⟩] w fun e w' => e = Ending.returned (.bool false) ∧ Grown w w' := by
  have CB := Lib.hid (fun (W : World) (h : ObS w w.heap.size 8 x n a l ⟨#[]⟩ W) => (bare_row 8 x n a l ⟨#[]⟩ (by omega) W).mono fun e W' ⟨he, hg⟩ => (⟨he, h.grow hg⟩ : e = Ending.returned (obv 8 false 0 0 0 ⟨#[]⟩) ∧ ObS w w.heap.size 8 x n a l ⟨#[]⟩ W'))
  go_enter Tryz.func16, Tryz.ntmps16
  go_wp2_with fail
  go_region_held3 (fun W => W.cell? ⟨w.heap.size, 0, none⟩ = some (.int .i64 8) ∧ W.cell? ⟨w.heap.size, 1, none⟩ = some (.bool x) ∧ W.cell? ⟨w.heap.size, 2, none⟩ = some (.int .i64 n) ∧ W.cell? ⟨w.heap.size, 3, none⟩ = some (.int .i64 a) ∧ W.cell? ⟨w.heap.size, 4, none⟩ = some (.int .i64 l) ∧ W.cell? ⟨w.heap.size, 5, none⟩ = some (.string ⟨#[]⟩) ∧ Grown w W)
    (first | assumption | (refine ⟨by simp [go_sem], by simp [go_sem], by simp [go_sem], by simp [go_sem], by simp [go_sem], by simp [go_sem], ?_⟩; exact Grown.drew ((Grown.refl w).alloc _ _)))
    (first | (go_at_call 30; refine (CB.out _ ?_).mono ?_; (assumption); rintro e w' ⟨rfl, hS⟩))
  generalize hid : w.heap.size = b at *
  go_wp2
  go_ret
  exact ⟨ret_bool (by first | rfl | (rw [decide_eq_true_eq]; omega) | (rw [decide_eq_false_iff_not]; omega)), (‹ObS w _ _ _ _ _ _ _ _› : ObS w _ 8 x n a l ⟨#[]⟩ _).2.2.2.2.2.2⟩
theorem may_k8_lowa (x : Bool) (n : Int) (a : Int) (l : Int) (pn : 0 ≤ n) (qn : n ≤ 40000) (pa : a < 0) (w : World) :
    Calls Tryz.prog 16 #[obv 8 x n a l ⟨#[]⟩] w fun e w' => e = Ending.returned (.bool false) ∧ Grown w w' := by
  have CB := Lib.hid (fun (W : World) (h : ObS w w.heap.size 8 x n a l ⟨#[]⟩ W) => (bare_row 8 x n a l ⟨#[]⟩ (by omega) W).mono fun e W' ⟨he, hg⟩ => (⟨he, h.grow hg⟩ : e = Ending.returned (obv 8 false 0 0 0 ⟨#[]⟩) ∧ ObS w w.heap.size 8 x n a l ⟨#[]⟩ W'))
  go_enter Tryz.func16, Tryz.ntmps16
  go_wp2_with fail
  go_region_held3 (fun W => W.cell? ⟨w.heap.size, 0, none⟩ = some (.int .i64 8) ∧ W.cell? ⟨w.heap.size, 1, none⟩ = some (.bool x) ∧ W.cell? ⟨w.heap.size, 2, none⟩ = some (.int .i64 n) ∧ W.cell? ⟨w.heap.size, 3, none⟩ = some (.int .i64 a) ∧ W.cell? ⟨w.heap.size, 4, none⟩ = some (.int .i64 l) ∧ W.cell? ⟨w.heap.size, 5, none⟩ = some (.string ⟨#[]⟩) ∧ Grown w W)
    (first | assumption | (refine ⟨by simp [go_sem], by simp [go_sem], by simp [go_sem], by simp [go_sem], by simp [go_sem], by simp [go_sem], ?_⟩; exact Grown.drew ((Grown.refl w).alloc _ _)))
    (first | (go_at_call 30; refine (CB.out _ ?_).mono ?_; (assumption); rintro e w' ⟨rfl, hS⟩))
  generalize hid : w.heap.size = b at *
  go_wp2
  go_ret
  exact ⟨ret_bool (by first | rfl | (rw [decide_eq_true_eq]; omega) | (rw [decide_eq_false_iff_not]; omega)), (‹ObS w _ _ _ _ _ _ _ _› : ObS w _ 8 x n a l ⟨#[]⟩ _).2.2.2.2.2.2⟩
theorem may_k8_higha (x : Bool) (n : Int) (a : Int) (l : Int) (pn : 0 ≤ n) (qn : n ≤ 40000) (pa : 0 ≤ a) (qa : 40000 < a) (w : World) :
    Calls Tryz.prog 16 #[obv 8 x n a l ⟨#[]⟩] w fun e w' => e = Ending.returned (.bool false) ∧ Grown w w' := by
  have CB := Lib.hid (fun (W : World) (h : ObS w w.heap.size 8 x n a l ⟨#[]⟩ W) => (bare_row 8 x n a l ⟨#[]⟩ (by omega) W).mono fun e W' ⟨he, hg⟩ => (⟨he, h.grow hg⟩ : e = Ending.returned (obv 8 false 0 0 0 ⟨#[]⟩) ∧ ObS w w.heap.size 8 x n a l ⟨#[]⟩ W'))
  go_enter Tryz.func16, Tryz.ntmps16
  go_wp2_with fail
  go_region_held3 (fun W => W.cell? ⟨w.heap.size, 0, none⟩ = some (.int .i64 8) ∧ W.cell? ⟨w.heap.size, 1, none⟩ = some (.bool x) ∧ W.cell? ⟨w.heap.size, 2, none⟩ = some (.int .i64 n) ∧ W.cell? ⟨w.heap.size, 3, none⟩ = some (.int .i64 a) ∧ W.cell? ⟨w.heap.size, 4, none⟩ = some (.int .i64 l) ∧ W.cell? ⟨w.heap.size, 5, none⟩ = some (.string ⟨#[]⟩) ∧ Grown w W)
    (first | assumption | (refine ⟨by simp [go_sem], by simp [go_sem], by simp [go_sem], by simp [go_sem], by simp [go_sem], by simp [go_sem], ?_⟩; exact Grown.drew ((Grown.refl w).alloc _ _)))
    (first | (go_at_call 30; refine (CB.out _ ?_).mono ?_; (assumption); rintro e w' ⟨rfl, hS⟩))
  generalize hid : w.heap.size = b at *
  go_wp2
  go_ret
  exact ⟨ret_bool (by first | rfl | (rw [decide_eq_true_eq]; omega) | (rw [decide_eq_false_iff_not]; omega)), (‹ObS w _ _ _ _ _ _ _ _› : ObS w _ 8 x n a l ⟨#[]⟩ _).2.2.2.2.2.2⟩
theorem may_k8_lowl (x : Bool) (n : Int) (a : Int) (l : Int) (pn : 0 ≤ n) (qn : n ≤ 40000) (pa : 0 ≤ a) (qa : a ≤ 40000) (pl : l < 0) (w : World) :
    Calls Tryz.prog 16 #[obv 8 x n a l ⟨#[]⟩] w fun e w' => e = Ending.returned (.bool false) ∧ Grown w w' := by
  have CB := Lib.hid (fun (W : World) (h : ObS w w.heap.size 8 x n a l ⟨#[]⟩ W) => (bare_row 8 x n a l ⟨#[]⟩ (by omega) W).mono fun e W' ⟨he, hg⟩ => (⟨he, h.grow hg⟩ : e = Ending.returned (obv 8 false 0 0 0 ⟨#[]⟩) ∧ ObS w w.heap.size 8 x n a l ⟨#[]⟩ W'))
  go_enter Tryz.func16, Tryz.ntmps16
  go_wp2_with fail
  go_region_held3 (fun W => W.cell? ⟨w.heap.size, 0, none⟩ = some (.int .i64 8) ∧ W.cell? ⟨w.heap.size, 1, none⟩ = some (.bool x) ∧ W.cell? ⟨w.heap.size, 2, none⟩ = some (.int .i64 n) ∧ W.cell? ⟨w.heap.size, 3, none⟩ = some (.int .i64 a) ∧ W.cell? ⟨w.heap.size, 4, none⟩ = some (.int .i64 l) ∧ W.cell? ⟨w.heap.size, 5, none⟩ = some (.string ⟨#[]⟩) ∧ Grown w W)
    (first | assumption | (refine ⟨by simp [go_sem], by simp [go_sem], by simp [go_sem], by simp [go_sem], by simp [go_sem], by simp [go_sem], ?_⟩; exact Grown.drew ((Grown.refl w).alloc _ _)))
    (first | (go_at_call 30; refine (CB.out _ ?_).mono ?_; (assumption); rintro e w' ⟨rfl, hS⟩))
  generalize hid : w.heap.size = b at *
  go_wp2
  go_ret
  exact ⟨ret_bool (by first | rfl | (rw [decide_eq_true_eq]; omega) | (rw [decide_eq_false_iff_not]; omega)), (‹ObS w _ _ _ _ _ _ _ _› : ObS w _ 8 x n a l ⟨#[]⟩ _).2.2.2.2.2.2⟩
theorem may_k8_highl (x : Bool) (n : Int) (a : Int) (l : Int) (pn : 0 ≤ n) (qn : n ≤ 40000) (pa : 0 ≤ a) (qa : a ≤ 40000) (pl : 0 ≤ l) (ql : 40000 < l) (w : World) :
    Calls Tryz.prog 16 #[obv 8 x n a l ⟨#[]⟩] w fun e w' => e = Ending.returned (.bool false) ∧ Grown w w' := by
  have CB := Lib.hid (fun (W : World) (h : ObS w w.heap.size 8 x n a l ⟨#[]⟩ W) => (bare_row 8 x n a l ⟨#[]⟩ (by omega) W).mono fun e W' ⟨he, hg⟩ => (⟨he, h.grow hg⟩ : e = Ending.returned (obv 8 false 0 0 0 ⟨#[]⟩) ∧ ObS w w.heap.size 8 x n a l ⟨#[]⟩ W'))
  go_enter Tryz.func16, Tryz.ntmps16
  go_wp2_with fail
  go_region_held3 (fun W => W.cell? ⟨w.heap.size, 0, none⟩ = some (.int .i64 8) ∧ W.cell? ⟨w.heap.size, 1, none⟩ = some (.bool x) ∧ W.cell? ⟨w.heap.size, 2, none⟩ = some (.int .i64 n) ∧ W.cell? ⟨w.heap.size, 3, none⟩ = some (.int .i64 a) ∧ W.cell? ⟨w.heap.size, 4, none⟩ = some (.int .i64 l) ∧ W.cell? ⟨w.heap.size, 5, none⟩ = some (.string ⟨#[]⟩) ∧ Grown w W)
    (first | assumption | (refine ⟨by simp [go_sem], by simp [go_sem], by simp [go_sem], by simp [go_sem], by simp [go_sem], by simp [go_sem], ?_⟩; exact Grown.drew ((Grown.refl w).alloc _ _)))
    (first | (go_at_call 30; refine (CB.out _ ?_).mono ?_; (assumption); rintro e w' ⟨rfl, hS⟩))
  generalize hid : w.heap.size = b at *
  go_wp2
  go_ret
  exact ⟨ret_bool (by first | rfl | (rw [decide_eq_true_eq]; omega) | (rw [decide_eq_false_iff_not]; omega)), (‹ObS w _ _ _ _ _ _ _ _› : ObS w _ 8 x n a l ⟨#[]⟩ _).2.2.2.2.2.2⟩
theorem may_k8_bad_s (x : Bool) (n : Int) (a : Int) (l : Int) (s : ByteArray) (hd : (s.toList == []) = false) (hd2 : s.toList.isEmpty = false) (hd3 : ¬ s.toList = []) (w : World) :
    Calls Tryz.prog 16 #[obv 8 x n a l s] w fun e w' => e = Ending.returned (.bool false) ∧ Grown w w' := by
  have CB := Lib.hid (fun (W : World) (h : ObS w w.heap.size 8 x n a l s W) => (bare_row 8 x n a l s (by omega) W).mono fun e W' ⟨he, hg⟩ => (⟨he, h.grow hg⟩ : e = Ending.returned (obv 8 false 0 0 0 s) ∧ ObS w w.heap.size 8 x n a l s W'))
  go_enter Tryz.func16, Tryz.ntmps16
  go_wp2_with fail
  go_region_held3 (fun W => W.cell? ⟨w.heap.size, 0, none⟩ = some (.int .i64 8) ∧ W.cell? ⟨w.heap.size, 1, none⟩ = some (.bool x) ∧ W.cell? ⟨w.heap.size, 2, none⟩ = some (.int .i64 n) ∧ W.cell? ⟨w.heap.size, 3, none⟩ = some (.int .i64 a) ∧ W.cell? ⟨w.heap.size, 4, none⟩ = some (.int .i64 l) ∧ W.cell? ⟨w.heap.size, 5, none⟩ = some (.string s) ∧ Grown w W)
    (first | assumption | (refine ⟨by simp [go_sem], by simp [go_sem], by simp [go_sem], by simp [go_sem], by simp [go_sem], by simp [go_sem], ?_⟩; exact Grown.drew ((Grown.refl w).alloc _ _)))
    (first | (go_at_call 30; refine (CB.out _ ?_).mono ?_; (assumption); rintro e w' ⟨rfl, hS⟩))
  generalize hid : w.heap.size = b at *
  go_wp2
  go_ret
  exact ⟨ret_bool (by first | rfl | (rw [decide_eq_true_eq]; omega) | (rw [decide_eq_false_iff_not]; omega)), (‹ObS w _ _ _ _ _ _ _ _› : ObS w _ 8 x n a l s _).2.2.2.2.2.2⟩
theorem may_k9_yes (x : Bool) (n : Int) (a : Int) (l : Int) (pn : 0 ≤ n) (qn : n ≤ 40000) (pa : 0 ≤ a) (qa : a ≤ 40000) (pl : 0 ≤ l) (ql : l ≤ 40000) (w : World) :
    Calls Tryz.prog 16 #[obv 9 x n a l ⟨#[]⟩] w fun e w' => e = Ending.returned (.bool true) ∧ Grown w w' := by
  have CB := Lib.hid (fun (W : World) (h : ObS w w.heap.size 9 x n a l ⟨#[]⟩ W) => (bare_row 9 x n a l ⟨#[]⟩ (by omega) W).mono fun e W' ⟨he, hg⟩ => (⟨he, h.grow hg⟩ : e = Ending.returned (obv 9 false 0 0 0 ⟨#[]⟩) ∧ ObS w w.heap.size 9 x n a l ⟨#[]⟩ W'))
  go_enter Tryz.func16, Tryz.ntmps16
  go_wp2_with fail
  go_region_held3 (fun W => W.cell? ⟨w.heap.size, 0, none⟩ = some (.int .i64 9) ∧ W.cell? ⟨w.heap.size, 1, none⟩ = some (.bool x) ∧ W.cell? ⟨w.heap.size, 2, none⟩ = some (.int .i64 n) ∧ W.cell? ⟨w.heap.size, 3, none⟩ = some (.int .i64 a) ∧ W.cell? ⟨w.heap.size, 4, none⟩ = some (.int .i64 l) ∧ W.cell? ⟨w.heap.size, 5, none⟩ = some (.string ⟨#[]⟩) ∧ Grown w W)
    (first | assumption | (refine ⟨by simp [go_sem], by simp [go_sem], by simp [go_sem], by simp [go_sem], by simp [go_sem], by simp [go_sem], ?_⟩; exact Grown.drew ((Grown.refl w).alloc _ _)))
    (first | (go_at_call 30; refine (CB.out _ ?_).mono ?_; (assumption); rintro e w' ⟨rfl, hS⟩))
  generalize hid : w.heap.size = b at *
  go_wp2
  go_ret
  exact ⟨ret_bool (by first | rfl | (rw [decide_eq_true_eq]; omega) | (rw [decide_eq_false_iff_not]; omega)), (‹ObS w _ _ _ _ _ _ _ _› : ObS w _ 9 x n a l ⟨#[]⟩ _).2.2.2.2.2.2⟩
theorem may_k9_lown (x : Bool) (n : Int) (a : Int) (l : Int) (pn : n < 0) (w : World) :
    Calls Tryz.prog 16 #[obv 9 x n a l ⟨#[]⟩] w fun e w' => e = Ending.returned (.bool false) ∧ Grown w w' := by
  have CB := Lib.hid (fun (W : World) (h : ObS w w.heap.size 9 x n a l ⟨#[]⟩ W) => (bare_row 9 x n a l ⟨#[]⟩ (by omega) W).mono fun e W' ⟨he, hg⟩ => (⟨he, h.grow hg⟩ : e = Ending.returned (obv 9 false 0 0 0 ⟨#[]⟩) ∧ ObS w w.heap.size 9 x n a l ⟨#[]⟩ W'))
  go_enter Tryz.func16, Tryz.ntmps16
  go_wp2_with fail
  go_region_held3 (fun W => W.cell? ⟨w.heap.size, 0, none⟩ = some (.int .i64 9) ∧ W.cell? ⟨w.heap.size, 1, none⟩ = some (.bool x) ∧ W.cell? ⟨w.heap.size, 2, none⟩ = some (.int .i64 n) ∧ W.cell? ⟨w.heap.size, 3, none⟩ = some (.int .i64 a) ∧ W.cell? ⟨w.heap.size, 4, none⟩ = some (.int .i64 l) ∧ W.cell? ⟨w.heap.size, 5, none⟩ = some (.string ⟨#[]⟩) ∧ Grown w W)
    (first | assumption | (refine ⟨by simp [go_sem], by simp [go_sem], by simp [go_sem], by simp [go_sem], by simp [go_sem], by simp [go_sem], ?_⟩; exact Grown.drew ((Grown.refl w).alloc _ _)))
    (first | (go_at_call 30; refine (CB.out _ ?_).mono ?_; (assumption); rintro e w' ⟨rfl, hS⟩))
  generalize hid : w.heap.size = b at *
  go_wp2
  go_ret
  exact ⟨ret_bool (by first | rfl | (rw [decide_eq_true_eq]; omega) | (rw [decide_eq_false_iff_not]; omega)), (‹ObS w _ _ _ _ _ _ _ _› : ObS w _ 9 x n a l ⟨#[]⟩ _).2.2.2.2.2.2⟩
theorem may_k9_highn (x : Bool) (n : Int) (a : Int) (l : Int) (pn : 0 ≤ n) (qn : 40000 < n) (w : World) :
    Calls Tryz.prog 16 #[obv 9 x n a l ⟨#[]⟩] w fun e w' => e = Ending.returned (.bool false) ∧ Grown w w' := by
  have CB := Lib.hid (fun (W : World) (h : ObS w w.heap.size 9 x n a l ⟨#[]⟩ W) => (bare_row 9 x n a l ⟨#[]⟩ (by omega) W).mono fun e W' ⟨he, hg⟩ => (⟨he, h.grow hg⟩ : e = Ending.returned (obv 9 false 0 0 0 ⟨#[]⟩) ∧ ObS w w.heap.size 9 x n a l ⟨#[]⟩ W'))
  go_enter Tryz.func16, Tryz.ntmps16
  go_wp2_with fail
  go_region_held3 (fun W => W.cell? ⟨w.heap.size, 0, none⟩ = some (.int .i64 9) ∧ W.cell? ⟨w.heap.size, 1, none⟩ = some (.bool x) ∧ W.cell? ⟨w.heap.size, 2, none⟩ = some (.int .i64 n) ∧ W.cell? ⟨w.heap.size, 3, none⟩ = some (.int .i64 a) ∧ W.cell? ⟨w.heap.size, 4, none⟩ = some (.int .i64 l) ∧ W.cell? ⟨w.heap.size, 5, none⟩ = some (.string ⟨#[]⟩) ∧ Grown w W)
    (first | assumption | (refine ⟨by simp [go_sem], by simp [go_sem], by simp [go_sem], by simp [go_sem], by simp [go_sem], by simp [go_sem], ?_⟩; exact Grown.drew ((Grown.refl w).alloc _ _)))
    (first | (go_at_call 30; refine (CB.out _ ?_).mono ?_; (assumption); rintro e w' ⟨rfl, hS⟩))
  generalize hid : w.heap.size = b at *
  go_wp2
  go_ret
  exact ⟨ret_bool (by first | rfl | (rw [decide_eq_true_eq]; omega) | (rw [decide_eq_false_iff_not]; omega)), (‹ObS w _ _ _ _ _ _ _ _› : ObS w _ 9 x n a l ⟨#[]⟩ _).2.2.2.2.2.2⟩
theorem may_k9_lowa (x : Bool) (n : Int) (a : Int) (l : Int) (pn : 0 ≤ n) (qn : n ≤ 40000) (pa : a < 0) (w : World) :
    Calls Tryz.prog 16 #[obv 9 x n a l ⟨#[]⟩] w fun e w' => e = Ending.returned (.bool false) ∧ Grown w w' := by
  have CB := Lib.hid (fun (W : World) (h : ObS w w.heap.size 9 x n a l ⟨#[]⟩ W) => (bare_row 9 x n a l ⟨#[]⟩ (by omega) W).mono fun e W' ⟨he, hg⟩ => (⟨he, h.grow hg⟩ : e = Ending.returned (obv 9 false 0 0 0 ⟨#[]⟩) ∧ ObS w w.heap.size 9 x n a l ⟨#[]⟩ W'))
  go_enter Tryz.func16, Tryz.ntmps16
  go_wp2_with fail
  go_region_held3 (fun W => W.cell? ⟨w.heap.size, 0, none⟩ = some (.int .i64 9) ∧ W.cell? ⟨w.heap.size, 1, none⟩ = some (.bool x) ∧ W.cell? ⟨w.heap.size, 2, none⟩ = some (.int .i64 n) ∧ W.cell? ⟨w.heap.size, 3, none⟩ = some (.int .i64 a) ∧ W.cell? ⟨w.heap.size, 4, none⟩ = some (.int .i64 l) ∧ W.cell? ⟨w.heap.size, 5, none⟩ = some (.string ⟨#[]⟩) ∧ Grown w W)
    (first | assumption | (refine ⟨by simp [go_sem], by simp [go_sem], by simp [go_sem], by simp [go_sem], by simp [go_sem], by simp [go_sem], ?_⟩; exact Grown.drew ((Grown.refl w).alloc _ _)))
    (first | (go_at_call 30; refine (CB.out _ ?_).mono ?_; (assumption); rintro e w' ⟨rfl, hS⟩))
  generalize hid : w.heap.size = b at *
  go_wp2
  go_ret
  exact ⟨ret_bool (by first | rfl | (rw [decide_eq_true_eq]; omega) | (rw [decide_eq_false_iff_not]; omega)), (‹ObS w _ _ _ _ _ _ _ _› : ObS w _ 9 x n a l ⟨#[]⟩ _).2.2.2.2.2.2⟩
theorem may_k9_higha (x : Bool) (n : Int) (a : Int) (l : Int) (pn : 0 ≤ n) (qn : n ≤ 40000) (pa : 0 ≤ a) (qa : 40000 < a) (w : World) :
    Calls Tryz.prog 16 #[obv 9 x n a l ⟨#[]⟩] w fun e w' => e = Ending.returned (.bool false) ∧ Grown w w' := by
  have CB := Lib.hid (fun (W : World) (h : ObS w w.heap.size 9 x n a l ⟨#[]⟩ W) => (bare_row 9 x n a l ⟨#[]⟩ (by omega) W).mono fun e W' ⟨he, hg⟩ => (⟨he, h.grow hg⟩ : e = Ending.returned (obv 9 false 0 0 0 ⟨#[]⟩) ∧ ObS w w.heap.size 9 x n a l ⟨#[]⟩ W'))
  go_enter Tryz.func16, Tryz.ntmps16
  go_wp2_with fail
  go_region_held3 (fun W => W.cell? ⟨w.heap.size, 0, none⟩ = some (.int .i64 9) ∧ W.cell? ⟨w.heap.size, 1, none⟩ = some (.bool x) ∧ W.cell? ⟨w.heap.size, 2, none⟩ = some (.int .i64 n) ∧ W.cell? ⟨w.heap.size, 3, none⟩ = some (.int .i64 a) ∧ W.cell? ⟨w.heap.size, 4, none⟩ = some (.int .i64 l) ∧ W.cell? ⟨w.heap.size, 5, none⟩ = some (.string ⟨#[]⟩) ∧ Grown w W)
    (first | assumption | (refine ⟨by simp [go_sem], by simp [go_sem], by simp [go_sem], by simp [go_sem], by simp [go_sem], by simp [go_sem], ?_⟩; exact Grown.drew ((Grown.refl w).alloc _ _)))
    (first | (go_at_call 30; refine (CB.out _ ?_).mono ?_; (assumption); rintro e w' ⟨rfl, hS⟩))
  generalize hid : w.heap.size = b at *
  go_wp2
  go_ret
  exact ⟨ret_bool (by first | rfl | (rw [decide_eq_true_eq]; omega) | (rw [decide_eq_false_iff_not]; omega)), (‹ObS w _ _ _ _ _ _ _ _› : ObS w _ 9 x n a l ⟨#[]⟩ _).2.2.2.2.2.2⟩
theorem may_k9_lowl (x : Bool) (n : Int) (a : Int) (l : Int) (pn : 0 ≤ n) (qn : n ≤ 40000) (pa : 0 ≤ a) (qa : a ≤ 40000) (pl : l < 0) (w : World) :
    Calls Tryz.prog 16 #[obv 9 x n a l ⟨#[]⟩] w fun e w' => e = Ending.returned (.bool false) ∧ Grown w w' := by
  have CB := Lib.hid (fun (W : World) (h : ObS w w.heap.size 9 x n a l ⟨#[]⟩ W) => (bare_row 9 x n a l ⟨#[]⟩ (by omega) W).mono fun e W' ⟨he, hg⟩ => (⟨he, h.grow hg⟩ : e = Ending.returned (obv 9 false 0 0 0 ⟨#[]⟩) ∧ ObS w w.heap.size 9 x n a l ⟨#[]⟩ W'))
  go_enter Tryz.func16, Tryz.ntmps16
  go_wp2_with fail
  go_region_held3 (fun W => W.cell? ⟨w.heap.size, 0, none⟩ = some (.int .i64 9) ∧ W.cell? ⟨w.heap.size, 1, none⟩ = some (.bool x) ∧ W.cell? ⟨w.heap.size, 2, none⟩ = some (.int .i64 n) ∧ W.cell? ⟨w.heap.size, 3, none⟩ = some (.int .i64 a) ∧ W.cell? ⟨w.heap.size, 4, none⟩ = some (.int .i64 l) ∧ W.cell? ⟨w.heap.size, 5, none⟩ = some (.string ⟨#[]⟩) ∧ Grown w W)
    (first | assumption | (refine ⟨by simp [go_sem], by simp [go_sem], by simp [go_sem], by simp [go_sem], by simp [go_sem], by simp [go_sem], ?_⟩; exact Grown.drew ((Grown.refl w).alloc _ _)))
    (first | (go_at_call 30; refine (CB.out _ ?_).mono ?_; (assumption); rintro e w' ⟨rfl, hS⟩))
  generalize hid : w.heap.size = b at *
  go_wp2
  go_ret
  exact ⟨ret_bool (by first | rfl | (rw [decide_eq_true_eq]; omega) | (rw [decide_eq_false_iff_not]; omega)), (‹ObS w _ _ _ _ _ _ _ _› : ObS w _ 9 x n a l ⟨#[]⟩ _).2.2.2.2.2.2⟩
theorem may_k9_highl (x : Bool) (n : Int) (a : Int) (l : Int) (pn : 0 ≤ n) (qn : n ≤ 40000) (pa : 0 ≤ a) (qa : a ≤ 40000) (pl : 0 ≤ l) (ql : 40000 < l) (w : World) :
    Calls Tryz.prog 16 #[obv 9 x n a l ⟨#[]⟩] w fun e w' => e = Ending.returned (.bool false) ∧ Grown w w' := by
  have CB := Lib.hid (fun (W : World) (h : ObS w w.heap.size 9 x n a l ⟨#[]⟩ W) => (bare_row 9 x n a l ⟨#[]⟩ (by omega) W).mono fun e W' ⟨he, hg⟩ => (⟨he, h.grow hg⟩ : e = Ending.returned (obv 9 false 0 0 0 ⟨#[]⟩) ∧ ObS w w.heap.size 9 x n a l ⟨#[]⟩ W'))
  go_enter Tryz.func16, Tryz.ntmps16
  go_wp2_with fail
  go_region_held3 (fun W => W.cell? ⟨w.heap.size, 0, none⟩ = some (.int .i64 9) ∧ W.cell? ⟨w.heap.size, 1, none⟩ = some (.bool x) ∧ W.cell? ⟨w.heap.size, 2, none⟩ = some (.int .i64 n) ∧ W.cell? ⟨w.heap.size, 3, none⟩ = some (.int .i64 a) ∧ W.cell? ⟨w.heap.size, 4, none⟩ = some (.int .i64 l) ∧ W.cell? ⟨w.heap.size, 5, none⟩ = some (.string ⟨#[]⟩) ∧ Grown w W)
    (first | assumption | (refine ⟨by simp [go_sem], by simp [go_sem], by simp [go_sem], by simp [go_sem], by simp [go_sem], by simp [go_sem], ?_⟩; exact Grown.drew ((Grown.refl w).alloc _ _)))
    (first | (go_at_call 30; refine (CB.out _ ?_).mono ?_; (assumption); rintro e w' ⟨rfl, hS⟩))
  generalize hid : w.heap.size = b at *
  go_wp2
  go_ret
  exact ⟨ret_bool (by first | rfl | (rw [decide_eq_true_eq]; omega) | (rw [decide_eq_false_iff_not]; omega)), (‹ObS w _ _ _ _ _ _ _ _› : ObS w _ 9 x n a l ⟨#[]⟩ _).2.2.2.2.2.2⟩
theorem may_k9_bad_s (x : Bool) (n : Int) (a : Int) (l : Int) (s : ByteArray) (hd : (s.toList == []) = false) (hd2 : s.toList.isEmpty = false) (hd3 : ¬ s.toList = []) (w : World) :
    Calls Tryz.prog 16 #[obv 9 x n a l s] w fun e w' => e = Ending.returned (.bool false) ∧ Grown w w' := by
  have CB := Lib.hid (fun (W : World) (h : ObS w w.heap.size 9 x n a l s W) => (bare_row 9 x n a l s (by omega) W).mono fun e W' ⟨he, hg⟩ => (⟨he, h.grow hg⟩ : e = Ending.returned (obv 9 false 0 0 0 s) ∧ ObS w w.heap.size 9 x n a l s W'))
  go_enter Tryz.func16, Tryz.ntmps16
  go_wp2_with fail
  go_region_held3 (fun W => W.cell? ⟨w.heap.size, 0, none⟩ = some (.int .i64 9) ∧ W.cell? ⟨w.heap.size, 1, none⟩ = some (.bool x) ∧ W.cell? ⟨w.heap.size, 2, none⟩ = some (.int .i64 n) ∧ W.cell? ⟨w.heap.size, 3, none⟩ = some (.int .i64 a) ∧ W.cell? ⟨w.heap.size, 4, none⟩ = some (.int .i64 l) ∧ W.cell? ⟨w.heap.size, 5, none⟩ = some (.string s) ∧ Grown w W)
    (first | assumption | (refine ⟨by simp [go_sem], by simp [go_sem], by simp [go_sem], by simp [go_sem], by simp [go_sem], by simp [go_sem], ?_⟩; exact Grown.drew ((Grown.refl w).alloc _ _)))
    (first | (go_at_call 30; refine (CB.out _ ?_).mono ?_; (assumption); rintro e w' ⟨rfl, hS⟩))
  generalize hid : w.heap.size = b at *
  go_wp2
  go_ret
  exact ⟨ret_bool (by first | rfl | (rw [decide_eq_true_eq]; omega) | (rw [decide_eq_false_iff_not]; omega)), (‹ObS w _ _ _ _ _ _ _ _› : ObS w _ 9 x n a l s _).2.2.2.2.2.2⟩
end Go.Proofs.YtfmmomdmemcbbaaGreat
