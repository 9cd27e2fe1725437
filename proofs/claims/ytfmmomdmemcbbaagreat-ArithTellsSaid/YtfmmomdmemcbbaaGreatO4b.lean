/- The walks of obj.May, kind by kind (printed by wip/gen_may.p -/
import Derived.Test.YtfmmomdmemcbbaaGreatM1
namespace Go.Proofs.YtfmmomdmemcbbaaGreat
set_option linter.unusedVariables false
open Go.RowKit
theorem may_k2_yes (x : Bool) (n : Int) (h1 : 0 ≤ n) (h2 : n ≤ 1) (w : World) :
    Calls Tryz.prog 16 #[obv 2 x n 0 0 ⟨#[]⟩] w fun e w' => e = Ending.returned (.bool true) ∧ Grown w w' := by
  have CB := Lib.hid (fun (W : World) (h : ObS w w.heap.size 2 x n 0 0 ⟨#[]⟩ W) => (bare_num 2 x n 0 0 ⟨#[]⟩ (by omega) W).mono fun e W' ⟨he, hg⟩ => (⟨he, h.grow hg⟩ : e = Ending.returned (obv 2 false 0 0 0 ⟨#[]⟩) ∧ ObS w w.heap.size 2 x n 0 0 ⟨#[]⟩ W'))
  go_enter Tryz.func16, Tryz.ntmps16
  go_wp2_with fail
  go_region_held3 (fun W => W.cell? ⟨w.heap.size, 0, none⟩ = some (.int .i64 2) ∧ W.cell? ⟨w.heap.size, 1, none⟩ = some (.bool x) ∧ W.cell? ⟨w.heap.size, 2, none⟩ = some (.int .i64 n) ∧ W.cell? ⟨w.heap.size, 3, none⟩ = some (.int .i64 0) ∧ W.cell? ⟨w.heap.size, 4, none⟩ = some (.int .i64 0) ∧ W.cell? ⟨w.heap.size, 5, none⟩ = some (.string ⟨#[]⟩) ∧ Grown w W)
    (first | assumption | (refine ⟨by simp [go_sem], by simp [go_sem], by simp [go_sem], by simp [go_sem], by simp [go_sem], by simp [go_sem], ?_⟩; exact Grown.drew ((Grown.refl w).alloc _ _)))
    (first | (go_at_call 30; refine (CB.out _ ?_).mono ?_; (assumption); rintro e w' ⟨rfl, hS⟩))
  generalize hid : w.heap.size = b at *
  go_wp2
  go_ret
  exact ⟨ret_bool (by first | rfl | (rw [decide_eq_true_eq]; omega) | (rw [decide_eq_false_iff_not]; omega)), (‹ObS w _ _ _ _ _ _ _ _› : ObS w _ 2 x n 0 0 ⟨#[]⟩ _).2.2.2.2.2.2⟩
theorem may_k2_low (x : Bool) (n : Int) (h1 : n < 0) (w : World) :
    Calls Tryz.prog 16 #[obv 2 x n 0 0 ⟨#[]⟩] w fun e w' => e = Ending.returned (.bool false) ∧ Grown w w' := by
  have CB := Lib.hid (fun (W : World) (h : ObS w w.heap.size 2 x n 0 0 ⟨#[]⟩ W) => (bare_num 2 x n 0 0 ⟨#[]⟩ (by omega) W).mono fun e W' ⟨he, hg⟩ => (⟨he, h.grow hg⟩ : e = Ending.returned (obv 2 false 0 0 0 ⟨#[]⟩) ∧ ObS w w.heap.size 2 x n 0 0 ⟨#[]⟩ W'))
  go_enter Tryz.func16, Tryz.ntmps16
  go_wp2_with fail
  go_region_held3 (fun W => W.cell? ⟨w.heap.size, 0, none⟩ = some (.int .i64 2) ∧ W.cell? ⟨w.heap.size, 1, none⟩ = some (.bool x) ∧ W.cell? ⟨w.heap.size, 2, none⟩ = some (.int .i64 n) ∧ W.cell? ⟨w.heap.size, 3, none⟩ = some (.int .i64 0) ∧ W.cell? ⟨w.heap.size, 4, none⟩ = some (.int .i64 0) ∧ W.cell? ⟨w.heap.size, 5, none⟩ = some (.string ⟨#[]⟩) ∧ Grown w W)
    (first | assumption | (refine ⟨by simp [go_sem], by simp [go_sem], by simp [go_sem], by simp [go_sem], by simp [go_sem], by simp [go_sem], ?_⟩; exact Grown.drew ((Grown.refl w).alloc _ _)))
    (first | (go_at_call 30; refine (CB.out _ ?_).mono ?_; (assumption); rintro e w' ⟨rfl, hS⟩))
  generalize hid : w.heap.size = b at *
  go_wp2
  go_ret
  exact ⟨ret_bool (by first | rfl | (rw [decide_eq_true_eq]; omega) | (rw [decide_eq_false_iff_not]; omega)), (‹ObS w _ _ _ _ _ _ _ _› : ObS w _ 2 x n 0 0 ⟨#[]⟩ _).2.2.2.2.2.2⟩
theorem may_k2_high (x : Bool) (n : Int) (h1 : 0 ≤ n) (h2 : 1 < n) (w : World) :
    Calls Tryz.prog 16 #[obv 2 x n 0 0 ⟨#[]⟩] w fun e w' => e = Ending.returned (.bool false) ∧ Grown w w' := by
  have CB := Lib.hid (fun (W : World) (h : ObS w w.heap.size 2 x n 0 0 ⟨#[]⟩ W) => (bare_num 2 x n 0 0 ⟨#[]⟩ (by omega) W).mono fun e W' ⟨he, hg⟩ => (⟨he, h.grow hg⟩ : e = Ending.returned (obv 2 false 0 0 0 ⟨#[]⟩) ∧ ObS w w.heap.size 2 x n 0 0 ⟨#[]⟩ W'))
  go_enter Tryz.func16, Tryz.ntmps16
  go_wp2_with fail
  go_region_held3 (fun W => W.cell? ⟨w.heap.size, 0, none⟩ = some (.int .i64 2) ∧ W.cell? ⟨w.heap.size, 1, none⟩ = some (.bool x) ∧ W.cell? ⟨w.heap.size, 2, none⟩ = some (.int .i64 n) ∧ W.cell? ⟨w.heap.size, 3, none⟩ = some (.int .i64 0) ∧ W.cell? ⟨w.heap.size, 4, none⟩ = some (.int .i64 0) ∧ W.cell? ⟨w.heap.size, 5, none⟩ = some (.string ⟨#[]⟩) ∧ Grown w W)
    (first | assumption | (refine ⟨by simp [go_sem], by simp [go_sem], by simp [go_sem], by simp [go_sem], by simp [go_sem], by simp [go_sem], ?_⟩; exact Grown.drew ((Grown.refl w).alloc _ _)))
    (first | (go_at_call 30; refine (CB.out _ ?_).mono ?_; (assumption); rintro e w' ⟨rfl, hS⟩))
  generalize hid : w.heap.size = b at *
  go_wp2
  go_ret
  exact ⟨ret_bool (by first | rfl | (rw [decide_eq_true_eq]; omega) | (rw [decide_eq_false_iff_not]; omega)), (‹ObS w _ _ _ _ _ _ _ _› : ObS w _ 2 x n 0 0 ⟨#[]⟩ _).2.2.2.2.2.2⟩
theorem may_k2_bad_a (x : Bool) (n : Int) (a : Int) (l : Int) (s : ByteArray) (hd : (a == 0) = false) (w : World) :
    Calls Tryz.prog 16 #[obv 2 x n a l s] w fun e w' => e = Ending.returned (.bool false) ∧ Grown w w' := by
  have CB := Lib.hid (fun (W : World) (h : ObS w w.heap.size 2 x n a l s W) => (bare_num 2 x n a l s (by omega) W).mono fun e W' ⟨he, hg⟩ => (⟨he, h.grow hg⟩ : e = Ending.returned (obv 2 false 0 a l s) ∧ ObS w w.heap.size 2 x n a l s W'))
  go_enter Tryz.func16, Tryz.ntmps16
  go_wp2_with fail
  go_region_held3 (fun W => W.cell? ⟨w.heap.size, 0, none⟩ = some (.int .i64 2) ∧ W.cell? ⟨w.heap.size, 1, none⟩ = some (.bool x) ∧ W.cell? ⟨w.heap.size, 2, none⟩ = some (.int .i64 n) ∧ W.cell? ⟨w.heap.size, 3, none⟩ = some (.int .i64 a) ∧ W.cell? ⟨w.heap.size, 4, none⟩ = some (.int .i64 l) ∧ W.cell? ⟨w.heap.size, 5, none⟩ = some (.string s) ∧ Grown w W)
    (first | assumption | (refine ⟨by simp [go_sem], by simp [go_sem], by simp [go_sem], by simp [go_sem], by simp [go_sem], by simp [go_sem], ?_⟩; exact Grown.drew ((Grown.refl w).alloc _ _)))
    (first | (go_at_call 30; refine (CB.out _ ?_).mono ?_; (assumption); rintro e w' ⟨rfl, hS⟩))
  generalize hid : w.heap.size = b at *
  go_wp2
  go_ret
  exact ⟨ret_bool (by first | rfl | (rw [decide_eq_true_eq]; omega) | (rw [decide_eq_false_iff_not]; omega)), (‹ObS w _ _ _ _ _ _ _ _› : ObS w _ 2 x n a l s _).2.2.2.2.2.2⟩
theorem may_k2_bad_l (x : Bool) (n : Int) (l : Int) (s : ByteArray) (hd : (l == 0) = false) (w : World) :
    Calls Tryz.prog 16 #[obv 2 x n 0 l s] w fun e w' => e = Ending.returned (.bool false) ∧ Grown w w' := by
  have CB := Lib.hid (fun (W : World) (h : ObS w w.heap.size 2 x n 0 l s W) => (bare_num 2 x n 0 l s (by omega) W).mono fun e W' ⟨he, hg⟩ => (⟨he, h.grow hg⟩ : e = Ending.returned (obv 2 false 0 0 l s) ∧ ObS w w.heap.size 2 x n 0 l s W'))
  go_enter Tryz.func16, Tryz.ntmps16
  go_wp2_with fail
  go_region_held3 (fun W => W.cell? ⟨w.heap.size, 0, none⟩ = some (.int .i64 2) ∧ W.cell? ⟨w.heap.size, 1, none⟩ = some (.bool x) ∧ W.cell? ⟨w.heap.size, 2, none⟩ = some (.int .i64 n) ∧ W.cell? ⟨w.heap.size, 3, none⟩ = some (.int .i64 0) ∧ W.cell? ⟨w.heap.size, 4, none⟩ = some (.int .i64 l) ∧ W.cell? ⟨w.heap.size, 5, none⟩ = some (.string s) ∧ Grown w W)
    (first | assumption | (refine ⟨by simp [go_sem], by simp [go_sem], by simp [go_sem], by simp [go_sem], by simp [go_sem], by simp [go_sem], ?_⟩; exact Grown.drew ((Grown.refl w).alloc _ _)))
    (first | (go_at_call 30; refine (CB.out _ ?_).mono ?_; (assumption); rintro e w' ⟨rfl, hS⟩))
  generalize hid : w.heap.size = b at *
  go_wp2
  go_ret
  exact ⟨ret_bool (by first | rfl | (rw [decide_eq_true_eq]; omega) | (rw [decide_eq_false_iff_not]; omega)), (‹ObS w _ _ _ _ _ _ _ _› : ObS w _ 2 x n 0 l s _).2.2.2.2.2.2⟩
theorem may_k2_bad_s (x : Bool) (n : Int) (s : ByteArray) (hd : (s.toList == []) = false) (hd2 : s.toList.isEmpty = false) (hd3 : ¬ s.toList = []) (w : World) :
    Calls Tryz.prog 16 #[obv 2 x n 0 0 s] w fun e w' => e = Ending.returned (.bool false) ∧ Grown w w' := by
  have CB := Lib.hid (fun (W : World) (h : ObS w w.heap.size 2 x n 0 0 s W) => (bare_num 2 x n 0 0 s (by omega) W).mono fun e W' ⟨he, hg⟩ => (⟨he, h.grow hg⟩ : e = Ending.returned (obv 2 false 0 0 0 s) ∧ ObS w w.heap.size 2 x n 0 0 s W'))
  go_enter Tryz.func16, Tryz.ntmps16
  go_wp2_with fail
  go_region_held3 (fun W => W.cell? ⟨w.heap.size, 0, none⟩ = some (.int .i64 2) ∧ W.cell? ⟨w.heap.size, 1, none⟩ = some (.bool x) ∧ W.cell? ⟨w.heap.size, 2, none⟩ = some (.int .i64 n) ∧ W.cell? ⟨w.heap.size, 3, none⟩ = some (.int .i64 0) ∧ W.cell? ⟨w.heap.size, 4, none⟩ = some (.int .i64 0) ∧ W.cell? ⟨w.heap.size, 5, none⟩ = some (.string s) ∧ Grown w W)
    (first | assumption | (refine ⟨by simp [go_sem], by simp [go_sem], by simp [go_sem], by simp [go_sem], by simp [go_sem], by simp [go_sem], ?_⟩; exact Grown.drew ((Grown.refl w).alloc _ _)))
    (first | (go_at_call 30; refine (CB.out _ ?_).mono ?_; (assumption); rintro e w' ⟨rfl, hS⟩))
  generalize hid : w.heap.size = b at *
  go_wp2
  go_ret
  exact ⟨ret_bool (by first | rfl | (rw [decide_eq_true_eq]; omega) | (rw [decide_eq_false_iff_not]; omega)), (‹ObS w _ _ _ _ _ _ _ _› : ObS w _ 2 x n 0 0 s _).2.2.2.2.2.2⟩
theorem may_k3_bad_a (x : Bool) (n : Int) (a : Int) (l : Int) (s : ByteArray) (hd : (a == 0) = false) (w : World) :
    Calls Tryz.prog 16 #[obv 3 x n a l s] w fun e w' => e = Ending.returned (.bool false) ∧ Grown w w' := by
  have CB := Lib.hid (fun (W : World) (h : ObS w w.heap.size 3 x n a l s W) => (bare_num 3 x n a l s (by omega) W).mono fun e W' ⟨he, hg⟩ => (⟨he, h.grow hg⟩ : e = Ending.returned (obv 3 false 0 a l s) ∧ ObS w w.heap.size 3 x n a l s W'))
  go_enter Tryz.func16, Tryz.ntmps16
  go_wp2_with fail
  go_region_held3 (fun W => W.cell? ⟨w.heap.size, 0, none⟩ = some (.int .i64 3) ∧ W.cell? ⟨w.heap.size, 1, none⟩ = some (.bool x) ∧ W.cell? ⟨w.heap.size, 2, none⟩ = some (.int .i64 n) ∧ W.cell? ⟨w.heap.size, 3, none⟩ = some (.int .i64 a) ∧ W.cell? ⟨w.heap.size, 4, none⟩ = some (.int .i64 l) ∧ W.cell? ⟨w.heap.size, 5, none⟩ = some (.string s) ∧ Grown w W)
    (first | assumption | (refine ⟨by simp [go_sem], by simp [go_sem], by simp [go_sem], by simp [go_sem], by simp [go_sem], by simp [go_sem], ?_⟩; exact Grown.drew ((Grown.refl w).alloc _ _)))
    (first | (go_at_call 30; refine (CB.out _ ?_).mono ?_; (assumption); rintro e w' ⟨rfl, hS⟩))
  generalize hid : w.heap.size = b at *
  go_wp2
  go_ret
  exact ⟨ret_bool (by first | rfl | (rw [decide_eq_true_eq]; omega) | (rw [decide_eq_false_iff_not]; omega)), (‹ObS w _ _ _ _ _ _ _ _› : ObS w _ 3 x n a l s _).2.2.2.2.2.2⟩
theorem may_k3_bad_l (x : Bool) (n : Int) (l : Int) (s : ByteArray) (hd : (l == 0) = false) (w : World) :
    Calls Tryz.prog 16 #[obv 3 x n 0 l s] w fun e w' => e = Ending.returned (.bool false) ∧ Grown w w' := by
  have CB := Lib.hid (fun (W : World) (h : ObS w w.heap.size 3 x n 0 l s W) => (bare_num 3 x n 0 l s (by omega) W).mono fun e W' ⟨he, hg⟩ => (⟨he, h.grow hg⟩ : e = Ending.returned (obv 3 false 0 0 l s) ∧ ObS w w.heap.size 3 x n 0 l s W'))
  go_enter Tryz.func16, Tryz.ntmps16
  go_wp2_with fail
  go_region_held3 (fun W => W.cell? ⟨w.heap.size, 0, none⟩ = some (.int .i64 3) ∧ W.cell? ⟨w.heap.size, 1, none⟩ = some (.bool x) ∧ W.cell? ⟨w.heap.size, 2, none⟩ = some (.int .i64 n) ∧ W.cell? ⟨w.heap.size, 3, none⟩ = some (.int .i64 0) ∧ W.cell? ⟨w.heap.size, 4, none⟩ = some (.int .i64 l) ∧ W.cell? ⟨w.heap.size, 5, none⟩ = some (.string s) ∧ Grown w W)
    (first | assumption | (refine ⟨by simp [go_sem], by simp [go_sem], by simp [go_sem], by simp [go_sem], by simp [go_sem], by simp [go_sem], ?_⟩; exact Grown.drew ((Grown.refl w).alloc _ _)))
    (first | (go_at_call 30; refine (CB.out _ ?_).mono ?_; (assumption); rintro e w' ⟨rfl, hS⟩))
  generalize hid : w.heap.size = b at *
  go_wp2
  go_ret
  exact ⟨ret_bool (by first | rfl | (rw [decide_eq_true_eq]; omega) | (rw [decide_eq_false_iff_not]; omega)), (‹ObS w _ _ _ _ _ _ _ _› : ObS w _ 3 x n 0 l s _).2.2.2.2.2.2⟩
theorem may_k3_bad_s (x : Bool) (n : Int) (s : ByteArray) (hd : (s.toList == []) = false) (hd2 : s.toList.isEmpty = false) (hd3 : ¬ s.toList = []) (w : World) :
    Calls Tryz.prog 16 #[obv 3 x n 0 0 s] w fun e w' => e = Ending.returned (.bool false) ∧ Grown w w' := by
  have CB := Lib.hid (fun (W : World) (h : ObS w w.heap.size 3 x n 0 0 s W) => (bare_num 3 x n 0 0 s (by omega) W).mono fun e W' ⟨he, hg⟩ => (⟨he, h.grow hg⟩ : e = Ending.returned (obv 3 false 0 0 0 s) ∧ ObS w w.heap.size 3 x n 0 0 s W'))
  go_enter Tryz.func16, Tryz.ntmps16
  go_wp2_with fail
  go_region_held3 (fun W => W.cell? ⟨w.heap.size, 0, none⟩ = some (.int .i64 3) ∧ W.cell? ⟨w.heap.size, 1, none⟩ = some (.bool x) ∧ W.cell? ⟨w.heap.size, 2, none⟩ = some (.int .i64 n) ∧ W.cell? ⟨w.heap.size, 3, none⟩ = some (.int .i64 0) ∧ W.cell? ⟨w.heap.size, 4, none⟩ = some (.int .i64 0) ∧ W.cell? ⟨w.heap.size, 5, none⟩ = some (.string s) ∧ Grown w W)
    (first | assumption | (refine ⟨by simp [go_sem], by simp [go_sem], by simp [go_sem], by simp [go_sem], by simp [go_sem], by simp [go_sem], ?_⟩; exact Grown.drew ((Grown.refl w).alloc _ _)))
    (first | (go_at_call 30; refine (CB.out _ ?_).mono ?_; (assumption); rintro e w' ⟨rfl, hS⟩))
  generalize hid : w.heap.size = b at *
  go_wp2
  go_ret
  exact ⟨ret_bool (by first | rfl | (rw [decide_eq_true_eq]; omega) | (rw [decide_eq_false_iff_not]; omega)), (‹ObS w _ _ _ _ _ _ _ _› : ObS w _ 3 x n 0 0 s _).2.2.2.2.2.2⟩
theorem may_k4_bad_a (x : Bool) (n : Int) (a : Int) (l : Int) (s : ByteArray) (hd : (a == 0) = false) (w : World) :
    Calls Tryz.prog 16 #[obv 4 x n a l s] w fun e w' => e = Ending.returned (.bool false) ∧ Grown w w' := by
  have CB := Lib.hid (fun (W : World) (h : ObS w w.heap.size 4 x n a l s W) => (bare_num 4 x n a l s (by omega) W).mono fun e W' ⟨he, hg⟩ => (⟨he, h.grow hg⟩ : e = Ending.returned (obv 4 false 0 a l s) ∧ ObS w w.heap.size 4 x n a l s W'))
  go_enter Tryz.func16, Tryz.ntmps16
  go_wp2_with fail
  go_region_held3 (fun W => W.cell? ⟨w.heap.size, 0, none⟩ = some (.int .i64 4) ∧ W.cell? ⟨w.heap.size, 1, none⟩ = some (.bool x) ∧ W.cell? ⟨w.heap.size, 2, none⟩ = some (.int .i64 n) ∧ W.cell? ⟨w.heap.size, 3, none⟩ = some (.int .i64 a) ∧ W.cell? ⟨w.heap.size, 4, none⟩ = some (.int .i64 l) ∧ W.cell? ⟨w.heap.size, 5, none⟩ = some (.string s) ∧ Grown w W)
    (first | assumption | (refine ⟨by simp [go_sem], by simp [go_sem], by simp [go_sem], by simp [go_sem], by simp [go_sem], by simp [go_sem], ?_⟩; exact Grown.drew ((Grown.refl w).alloc _ _)))
    (first | (go_at_call 30; refine (CB.out _ ?_).mono ?_; (assumption); rintro e w' ⟨rfl, hS⟩))
  generalize hid : w.heap.size = b at *
  go_wp2
  go_ret
  exact ⟨ret_bool (by first | rfl | (rw [decide_eq_true_eq]; omega) | (rw [decide_eq_false_iff_not]; omega)), (‹ObS w _ _ _ _ _ _ _ _› : ObS w _ 4 x n a l s _).2.2.2.2.2.2⟩
theorem may_k4_bad_l (x : Bool) (n : Int) (l : Int) (s : ByteArray) (hd : (l == 0) = false) (w : World) :
    Calls Tryz.prog 16 #[obv 4 x n 0 l s] w fun e w' => e = Ending.returned (.bool false) ∧ Grown w w' := by
  have CB := Lib.hid (fun (W : World) (h : ObS w w.heap.size 4 x n 0 l s W) => (bare_num 4 x n 0 l s (by omega) W).mono fun e W' ⟨he, hg⟩ => (⟨he, h.grow hg⟩ : e = Ending.returned (obv 4 false 0 0 l s) ∧ ObS w w.heap.size 4 x n 0 l s W'))
  go_enter Tryz.func16, Tryz.ntmps16
  go_wp2_with fail
  go_region_held3 (fun W => W.cell? ⟨w.heap.size, 0, none⟩ = some (.int .i64 4) ∧ W.cell? ⟨w.heap.size, 1, none⟩ = some (.bool x) ∧ W.cell? ⟨w.heap.size, 2, none⟩ = some (.int .i64 n) ∧ W.cell? ⟨w.heap.size, 3, none⟩ = some (.int .i64 0) ∧ W.cell? ⟨w.heap.size, 4, none⟩ = some (.int .i64 l) ∧ W.cell? ⟨w.heap.size, 5, none⟩ = some (.string s) ∧ Grown w W)
    (first | assumption | (refine ⟨by simp [go_sem], by simp [go_sem], by simp [go_sem], by simp [go_sem], by simp [go_sem], by simp [go_sem], ?_⟩; exact Grown.drew ((Grown.refl w).alloc _ _)))
    (first | (go_at_call 30; refine (CB.out _ ?_).mono ?_; (assumption); rintro e w' ⟨rfl, hS⟩))
  generalize hid : w.heap.size = b at *
  go_wp2
  go_ret
  exact ⟨ret_bool (by first | rfl | (rw [decide_eq_true_eq]; omega) | (rw [decide_eq_false_iff_not]; omega)), (‹ObS w _ _ _ _ _ _ _ _› : ObS w _ 4 x n 0 l s _).2.2.2.2.2.2⟩
theorem may_k4_bad_s (x : Bool) (n : Int) (s : ByteArray) (hd : (s.toList == []) = false) (hd2 : s.toList.isEmpty = false) (hd3 : ¬ s.toList = []) (w : World) :
    Calls Tryz.prog 16 #[obv 4 x n 0 0 s] w fun e w' => e = Ending.returned (.bool false) ∧ Grown w w' := by
  have CB := Lib.hid (fun (W : World) (h : ObS w w.heap.size 4 x n 0 0 s W) => (bare_num 4 x n 0 0 s (by omega) W).mono fun e W' ⟨he, hg⟩ => (⟨he, h.grow hg⟩ : e = Ending.returned (obv 4 false 0 0 0 s) ∧ ObS w w.heap.size 4 x n 0 0 s W'))
  go_enter Tryz.func16, Tryz.ntmps16
  go_wp2_with fail
  go_region_held3 (fun W => W.cell? ⟨w.heap.size, 0, none⟩ = some (.int .i64 4) ∧ W.cell? ⟨w.heap.size, 1, none⟩ = some (.bool x) ∧ W.cell? ⟨w.heap.size, 2, none⟩ = some (.int .i64 n) ∧ W.cell? ⟨w.heap.size, 3, none⟩ = some (.int .i64 0) ∧ W.cell? ⟨w.heap.size, 4, none⟩ = some (.int .i64 0) ∧ W.cell? ⟨w.heap.size, 5, none⟩ = some (.string s) ∧ Grown w W)
    (first | assumption | (refine ⟨by simp [go_sem], by simp [go_sem], by simp [go_sem], by simp [go_sem], by simp [go_sem], by simp [go_sem], ?_⟩; exact Grown.drew ((Grown.refl w).alloc _ _)))
    (first | (go_at_call 30; refine (CB.out _ ?_).mono ?_; (assumption); rintro e w' ⟨rfl, hS⟩))
  generalize hid : w.heap.size = b at *
  go_wp2
  go_ret
  exact ⟨ret_bool (by first | rfl | (rw [decide_eq_true_eq]; omega) | (rw [decide_eq_false_iff_not]; omega)), (‹ObS w _ _ _ _ _ _ _ _› : ObS w _ 4 x n 0 0 s _).2.2.2.2.2.2⟩
theorem may_k7_yes (x : Bool) (n : Int) (h1 : 1 ≤ n) (h2 : n ≤ 200) (w : World) :
    Calls Tryz.prog 16 #[obv 7 x n 0 0 ⟨#[]⟩] w fun e w' => e = Ending.returned (.bool true) ∧ Grown w w' := by
  have CB := Lib.hid (fun (W : World) (h : ObS w w.heap.size 7 x n 0 0 ⟨#[]⟩ W) => (bare_num 7 x n 0 0 ⟨#[]⟩ (by omega) W).mono fun e W' ⟨he, hg⟩ => (⟨he, h.grow hg⟩ : e = Ending.returned (obv 7 false 0 0 0 ⟨#[]⟩) ∧ ObS w w.heap.size 7 x n 0 0 ⟨#[]⟩ W'))
  go_enter Tryz.func16, Tryz.ntmps16
  go_wp2_with fail
  go_region_held3 (fun W => W.cell? ⟨w.heap.size, 0, none⟩ = some (.int .i64 7) ∧ W.cell? ⟨w.heap.size, 1, none⟩ = some (.bool x) ∧ W.cell? ⟨w.heap.size, 2, none⟩ = some (.int .i64 n) ∧ W.cell? ⟨w.heap.size, 3, none⟩ = some (.int .i64 0) ∧ W.cell? ⟨w.heap.size, 4, none⟩ = some (.int .i64 0) ∧ W.cell? ⟨w.heap.size, 5, none⟩ = some (.string ⟨#[]⟩) ∧ Grown w W)
    (first | assumption | (refine ⟨by simp [go_sem], by simp [go_sem], by simp [go_sem], by simp [go_sem], by simp [go_sem], by simp [go_sem], ?_⟩; exact Grown.drew ((Grown.refl w).alloc _ _)))
    (first | (go_at_call 30; refine (CB.out _ ?_).mono ?_; (assumption); rintro e w' ⟨rfl, hS⟩))
  generalize hid : w.heap.size = b at *
  go_wp2
  go_ret
  exact ⟨ret_bool (by first | rfl | (rw [decide_eq_true_eq]; omega) | (rw [decide_eq_false_iff_not]; omega)), (‹ObS w _ _ _ _ _ _ _ _› : ObS w _ 7 x n 0 0 ⟨#[]⟩ _).2.2.2.2.2.2⟩
theorem may_k7_low (x : Bool) (n : Int) (h1 : n < 1) (w : World) :
    Calls Tryz.prog 16 #[obv 7 x n 0 0 ⟨#[]⟩] w fun e w' => e = Ending.returned (.bool false) ∧ Grown w w' := by
  have CB := Lib.hid (fun (W : World) (h : ObS w w.heap.size 7 x n 0 0 ⟨#[]⟩ W) => (bare_num 7 x n 0 0 ⟨#[]⟩ (by omega) W).mono fun e W' ⟨he, hg⟩ => (⟨he, h.grow hg⟩ : e = Ending.returned (obv 7 false 0 0 0 ⟨#[]⟩) ∧ ObS w w.heap.size 7 x n 0 0 ⟨#[]⟩ W'))
  go_enter Tryz.func16, Tryz.ntmps16
  go_wp2_with fail
  go_region_held3 (fun W => W.cell? ⟨w.heap.size, 0, none⟩ = some (.int .i64 7) ∧ W.cell? ⟨w.heap.size, 1, none⟩ = some (.bool x) ∧ W.cell? ⟨w.heap.size, 2, none⟩ = some (.int .i64 n) ∧ W.cell? ⟨w.heap.size, 3, none⟩ = some (.int .i64 0) ∧ W.cell? ⟨w.heap.size, 4, none⟩ = some (.int .i64 0) ∧ W.cell? ⟨w.heap.size, 5, none⟩ = some (.string ⟨#[]⟩) ∧ Grown w W)
    (first | assumption | (refine ⟨by simp [go_sem], by simp [go_sem], by simp [go_sem], by simp [go_sem], by simp [go_sem], by simp [go_sem], ?_⟩; exact Grown.drew ((Grown.refl w).alloc _ _)))
    (first | (go_at_call 30; refine (CB.out _ ?_).mono ?_; (assumption); rintro e w' ⟨rfl, hS⟩))
  generalize hid : w.heap.size = b at *
  go_wp2
  go_ret
  exact ⟨ret_bool (by first | rfl | (rw [decide_eq_true_eq]; omega) | (rw [decide_eq_false_iff_not]; omega)), (‹ObS w _ _ _ _ _ _ _ _› : ObS w _ 7 x n 0 0 ⟨#[]⟩ _).2.2.2.2.2.2⟩
theorem may_k7_high (x : Bool) (n : Int) (h1 : 1 ≤ n) (h2 : 200 < n) (w : World) :
    Calls Tryz.prog 16 #[obv 7 x n 0 0 ⟨#[]⟩] w fun e w' => e = Ending.returned (.bool false) ∧ Grown w w' := by
  have CB := Lib.hid (fun (W : World) (h : ObS w w.heap.size 7 x n 0 0 ⟨#[]⟩ W) => (bare_num 7 x n 0 0 ⟨#[]⟩ (by omega) W).mono fun e W' ⟨he, hg⟩ => (⟨he, h.grow hg⟩ : e = Ending.returned (obv 7 false 0 0 0 ⟨#[]⟩) ∧ ObS w w.heap.size 7 x n 0 0 ⟨#[]⟩ W'))
  go_enter Tryz.func16, Tryz.ntmps16
  go_wp2_with fail
  go_region_held3 (fun W => W.cell? ⟨w.heap.size, 0, none⟩ = some (.int .i64 7) ∧ W.cell? ⟨w.heap.size, 1, none⟩ = some (.bool x) ∧ W.cell? ⟨w.heap.size, 2, none⟩ = some (.int .i64 n) ∧ W.cell? ⟨w.heap.size, 3, none⟩ = some (.int .i64 0) ∧ W.cell? ⟨w.heap.size, 4, none⟩ = some (.int .i64 0) ∧ W.cell? ⟨w.heap.size, 5, none⟩ = some (.string ⟨#[]⟩) ∧ Grown w W)
    (first | assumption | (refine ⟨by simp [go_sem], by simp [go_sem], by simp [go_sem], by simp [go_sem], by simp [go_sem], by simp [go_sem], ?_⟩; exact Grown.drew ((Grown.refl w).alloc _ _)))
    (first | (go_at_call 30; refine (CB.out _ ?_).mono ?_; (assumption); rintro e w' ⟨rfl, hS⟩))
  generalize hid : w.heap.size = b at *
  go_wp2
  go_ret
  exact ⟨ret_bool (by first | rfl | (rw [decide_eq_true_eq]; omega) | (rw [decide_eq_false_iff_not]; omega)), (‹ObS w _ _ _ _ _ _ _ _› : ObS w _ 7 x n 0 0 ⟨#[]⟩ _).2.2.2.2.2.2⟩
theorem may_k7_bad_a (x : Bool) (n : Int) (a : Int) (l : Int) (s : ByteArray) (hd : (a == 0) = false) (w : World) :
    Calls Tryz.prog 16 #[obv 7 x n a l s] w fun e w' => e = Ending.returned (.bool false) ∧ Grown w w' := by
  have CB := Lib.hid (fun (W : World) (h : ObS w w.heap.size 7 x n a l s W) => (bare_num 7 x n a l s (by omega) W).mono fun e W' ⟨he, hg⟩ => (⟨he, h.grow hg⟩ : e = Ending.returned (obv 7 false 0 a l s) ∧ ObS w w.heap.size 7 x n a l s W'))
  go_enter Tryz.func16, Tryz.ntmps16
  go_wp2_with fail
  go_region_held3 (fun W => W.cell? ⟨w.heap.size, 0, none⟩ = some (.int .i64 7) ∧ W.cell? ⟨w.heap.size, 1, none⟩ = some (.bool x) ∧ W.cell? ⟨w.heap.size, 2, none⟩ = some (.int .i64 n) ∧ W.cell? ⟨w.heap.size, 3, none⟩ = some (.int .i64 a) ∧ W.cell? ⟨w.heap.size, 4, none⟩ = some (.int .i64 l) ∧ W.cell? ⟨w.heap.size, 5, none⟩ = some (.string s) ∧ Grown w W)
    (first | assumption | (refine ⟨by simp [go_sem], by simp [go_sem], by simp [go_sem], by simp [go_sem], by simp [go_sem], by simp [go_sem], ?_⟩; exact Grown.drew ((Grown.refl w).alloc _ _)))
    (first | (go_at_call 30; refine (CB.out _ ?_).mono ?_; (assumption); rintro e w' ⟨rfl, hS⟩))
  generalize hid : w.heap.size = b at *
  go_wp2
  go_ret
  exact ⟨ret_bool (by first | rfl | (rw [decide_eq_true_eq]; omega) | (rw [decide_eq_false_iff_not]; omega)), (‹ObS w _ _ _ _ _ _ _ _› : ObS w _ 7 x n a l s _).2.2.2.2.2.2⟩
theorem may_k7_bad_l (x : Bool) (n : Int) (l : Int) (s : ByteArray) (hd : (l == 0) = false) (w : World) :
    Calls Tryz.prog 16 #[obv 7 x n 0 l s] w fun e w' => e = Ending.returned (.bool false) ∧ Grown w w' := by
  have CB := Lib.hid (fun (W : World) (h : ObS w w.heap.size 7 x n 0 l s W) => (bare_num 7 x n 0 l s (by omega) W).mono fun e W' ⟨he, hg⟩ => (⟨he, h.grow hg⟩ : e = Ending.returned (obv 7 false 0 0 l s) ∧ ObS w w.heap.size 7 x n 0 l s W'))
  go_enter Tryz.func16, Tryz.ntmps16
  go_wp2_with fail
  go_region_held3 (fun W => W.cell? ⟨w.heap.size, 0, none⟩ = some (.int .i64 7) ∧ W.cell? ⟨w.heap.size, 1, none⟩ = some (.bool x) ∧ W.cell? ⟨w.heap.size, 2, none⟩ = some (.int .i64 n) ∧ W.cell? ⟨w.heap.size, 3, none⟩ = some (.int .i64 0) ∧ W.cell? ⟨w.heap.size, 4, none⟩ = some (.int .i64 l) ∧ W.cell? ⟨w.heap.size, 5, none⟩ = some (.string s) ∧ Grown w W)
    (first | assumption | (refine ⟨by simp [go_sem], by simp [go_sem], by simp [go_sem], by simp [go_sem], by simp [go_sem], by simp [go_sem], ?_⟩; exact Grown.drew ((Grown.refl w).alloc _ _)))
    (first | (go_at_call 30; refine (CB.out _ ?_).mono ?_; (assumption); rintro e w' ⟨rfl, hS⟩))
  generalize hid : w.heap.size = b at *
  go_wp2
  go_ret
  exact ⟨ret_bool (by first | rfl | (rw [decide_eq_true_eq]; omega) | (rw [decide_eq_false_iff_not]; omega)), (‹ObS w _ _ _ _ _ _ _ _› : ObS w _ 7 x n 0 l s _).2.2.2.2.2.2⟩
theorem may_k7_bad_s (x : Bool) (n : Int) (s : ByteArray) (hd : (s.toList == []) = false) (hd2 : s.toList.isEmpty = false) (hd3 : ¬ s.toList = []) (w : World) :
    Calls Tryz.prog 16 #[obv 7 x n 0 0 s] w fun e w' => e = Ending.returned (.bool false) ∧ Grown w w' := by
  have CB := Lib.hid (fun (W : World) (h : ObS w w.heap.size 7 x n 0 0 s W) => (bare_num 7 x n 0 0 s (by omega) W).mono fun e W' ⟨he, hg⟩ => (⟨he, h.grow hg⟩ : e = Ending.returned (obv 7 false 0 0 0 s) ∧ ObS w w.heap.size 7 x n 0 0 s W'))
  go_enter Tryz.func16, Tryz.ntmps16
  go_wp2_with fail
  go_region_held3 (fun W => W.cell? ⟨w.heap.size, 0, none⟩ = some (.int .i64 7) ∧ W.cell? ⟨w.heap.size, 1, none⟩ = some (.bool x) ∧ W.cell? ⟨w.heap.size, 2, none⟩ = some (.int .i64 n) ∧ W.cell? ⟨w.heap.size, 3, none⟩ = some (.int .i64 0) ∧ W.cell? ⟨w.heap.size, 4, none⟩ = some (.int .i64 0) ∧ W.cell? ⟨w.heap.size, 5, none⟩ = some (.string s) ∧ Grown w W)
    (first | assumption | (refine ⟨by simp [go_sem], by simp [go_sem], by simp [go_sem], by simp [go_sem], by simp [go_sem], by simp [go_sem], ?_⟩; exact Grown.drew ((Grown.refl w).alloc _ _)))
    (first | (go_at_call 30; refine (CB.out _ ?_).mono ?_; (assumption); rintro e w' ⟨rfl, hS⟩))
  generalize hid : w.heap.size = b at *
  go_wp2
  go_ret
  exact ⟨ret_bool (by first | rfl | (rw [decide_eq_true_eq]; omega) | (rw [decide_eq_false_iff_not]; omega)), (‹ObS w _ _ _ _ _ _ _ _› : ObS w _ 7 x n 0 0 s _).2.2.2.2.2.2⟩
end Go.Proofs.YtfmmomdmemcbbaaGreat
