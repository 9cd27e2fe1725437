/- The walks of obj.May, kind by kind (printed by wip/gen_may.p -/
import Derived.Test.YtfmmomdmemcbbaaGreatM1
namespace Go.Proofs.YtfmmomdmemcbbaaGreat
set_option linter.unusedVariables false
open Go.RowKit
theorem may_k1_yes (x : Bool)  (w : World) :
    Calls Tryz.prog 16 #[obv 1 x 0 0 0 ⟨#[]⟩] w fun e w' => e = Ending.returned (.bool true) ∧ Grown w w' := by
  have CB := Lib.hid (fun (W : World) (h : ObS w w.heap.size 1 x 0 0 0 ⟨#[]⟩ W) => (bare_else 1 x 0 0 0 ⟨#[]⟩ (by omega) W).mono fun e W' ⟨he, hg⟩ => (⟨he, h.grow hg⟩ : e = Ending.returned (obv 1 false 0 0 0 ⟨#[]⟩) ∧ ObS w w.heap.size 1 x 0 0 0 ⟨#[]⟩ W'))
  go_enter Tryz.func16, Tryz.ntmps16
  go_wp2_with fail
  go_region_held3 (fun W => W.cell? ⟨w.heap.size, 0, none⟩ = some (.int .i64 1) ∧ W.cell? ⟨w.heap.size, 1, none⟩ = some (.bool x) ∧ W.cell? ⟨w.heap.size, 2, none⟩ = some (.int .i64 0) ∧ W.cell? ⟨w.heap.size, 3, none⟩ = some (.int .i64 0) ∧ W.cell? ⟨w.heap.size, 4, none⟩ = some (.int .i64 0) ∧ W.cell? ⟨w.heap.size, 5, none⟩ = some (.string ⟨#[]⟩) ∧ Grown w W)
    (first | assumption | (refine ⟨by simp [go_sem], by simp [go_sem], by simp [go_sem], by simp [go_sem], by simp [go_sem], by simp [go_sem], ?_⟩; exact Grown.drew ((Grown.refl w).alloc _ _)))
    (first | (go_at_call 30; refine (CB.out _ ?_).mono ?_; (assumption); rintro e w' ⟨rfl, hS⟩))
  generalize hid : w.heap.size = b at *
  go_wp2
  go_ret
  exact ⟨ret_bool (by first | rfl | (rw [decide_eq_true_eq]; omega) | (rw [decide_eq_false_iff_not]; omega)), (‹ObS w _ _ _ _ _ _ _ _› : ObS w _ 1 x 0 0 0 ⟨#[]⟩ _).2.2.2.2.2.2⟩
theorem may_k1_bad_n (x : Bool) (n : Int) (a : Int) (l : Int) (s : ByteArray) (hd : (n == 0) = false) (w : World) :
    Calls Tryz.prog 16 #[obv 1 x n a l s] w fun e w' => e = Ending.returned (.bool false) ∧ Grown w w' := by
  have CB := Lib.hid (fun (W : World) (h : ObS w w.heap.size 1 x n a l s W) => (bare_else 1 x n a l s (by omega) W).mono fun e W' ⟨he, hg⟩ => (⟨he, h.grow hg⟩ : e = Ending.returned (obv 1 false n a l s) ∧ ObS w w.heap.size 1 x n a l s W'))
  go_enter Tryz.func16, Tryz.ntmps16
  go_wp2_with fail
  go_region_held3 (fun W => W.cell? ⟨w.heap.size, 0, none⟩ = some (.int .i64 1) ∧ W.cell? ⟨w.heap.size, 1, none⟩ = some (.bool x) ∧ W.cell? ⟨w.heap.size, 2, none⟩ = some (.int .i64 n) ∧ W.cell? ⟨w.heap.size, 3, none⟩ = some (.int .i64 a) ∧ W.cell? ⟨w.heap.size, 4, none⟩ = some (.int .i64 l) ∧ W.cell? ⟨w.heap.size, 5, none⟩ = some (.string s) ∧ Grown w W)
    (first | assumption | (refine ⟨by simp [go_sem], by simp [go_sem], by simp [go_sem], by simp [go_sem], by simp [go_sem], by simp [go_sem], ?_⟩; exact Grown.drew ((Grown.refl w).alloc _ _)))
    (first | (go_at_call 30; refine (CB.out _ ?_).mono ?_; (assumption); rintro e w' ⟨rfl, hS⟩))
  generalize hid : w.heap.size = b at *
  go_wp2
  go_ret
  exact ⟨ret_bool (by first | rfl | (rw [decide_eq_true_eq]; omega) | (rw [decide_eq_false_iff_not]; omega)), (‹ObS w _ _ _ _ _ _ _ _› : ObS w _ 1 x n a l s _).2.2.2.2.2.2⟩
theorem may_k1_bad_a (x : Bool) (a : Int) (l : Int) (s : ByteArray) (hd : (a == 0) = false) (w : World) :
    Calls Tryz.prog 16 #[obv 1 x 0 a l s] w fun e w' => e = Ending.returned (.bool false) ∧ Grown w w' := by
  have CB := Lib.hid (fun (W : World) (h : ObS w w.heap.size 1 x 0 a l s W) => (bare_else 1 x 0 a l s (by omega) W).mono fun e W' ⟨he, hg⟩ => (⟨he, h.grow hg⟩ : e = Ending.returned (obv 1 false 0 a l s) ∧ ObS w w.heap.size 1 x 0 a l s W'))
  go_enter Tryz.func16, Tryz.ntmps16
  go_wp2_with fail
  go_region_held3 (fun W => W.cell? ⟨w.heap.size, 0, none⟩ = some (.int .i64 1) ∧ W.cell? ⟨w.heap.size, 1, none⟩ = some (.bool x) ∧ W.cell? ⟨w.heap.size, 2, none⟩ = some (.int .i64 0) ∧ W.cell? ⟨w.heap.size, 3, none⟩ = some (.int .i64 a) ∧ W.cell? ⟨w.heap.size, 4, none⟩ = some (.int .i64 l) ∧ W.cell? ⟨w.heap.size, 5, none⟩ = some (.string s) ∧ Grown w W)
    (first | assumption | (refine ⟨by simp [go_sem], by simp [go_sem], by simp [go_sem], by simp [go_sem], by simp [go_sem], by simp [go_sem], ?_⟩; exact Grown.drew ((Grown.refl w).alloc _ _)))
    (first | (go_at_call 30; refine (CB.out _ ?_).mono ?_; (assumption); rintro e w' ⟨rfl, hS⟩))
  generalize hid : w.heap.size = b at *
  go_wp2
  go_ret
  exact ⟨ret_bool (by first | rfl | (rw [decide_eq_true_eq]; omega) | (rw [decide_eq_false_iff_not]; omega)), (‹ObS w _ _ _ _ _ _ _ _› : ObS w _ 1 x 0 a l s _).2.2.2.2.2.2⟩
theorem may_k1_bad_l (x : Bool) (l : Int) (s : ByteArray) (hd : (l == 0) = false) (w : World) :
    Calls Tryz.prog 16 #[obv 1 x 0 0 l s] w fun e w' => e = Ending.returned (.bool false) ∧ Grown w w' := by
  have CB := Lib.hid (fun (W : World) (h : ObS w w.heap.size 1 x 0 0 l s W) => (bare_else 1 x 0 0 l s (by omega) W).mono fun e W' ⟨he, hg⟩ => (⟨he, h.grow hg⟩ : e = Ending.returned (obv 1 false 0 0 l s) ∧ ObS w w.heap.size 1 x 0 0 l s W'))
  go_enter Tryz.func16, Tryz.ntmps16
  go_wp2_with fail
  go_region_held3 (fun W => W.cell? ⟨w.heap.size, 0, none⟩ = some (.int .i64 1) ∧ W.cell? ⟨w.heap.size, 1, none⟩ = some (.bool x) ∧ W.cell? ⟨w.heap.size, 2, none⟩ = some (.int .i64 0) ∧ W.cell? ⟨w.heap.size, 3, none⟩ = some (.int .i64 0) ∧ W.cell? ⟨w.heap.size, 4, none⟩ = some (.int .i64 l) ∧ W.cell? ⟨w.heap.size, 5, none⟩ = some (.string s) ∧ Grown w W)
    (first | assumption | (refine ⟨by simp [go_sem], by simp [go_sem], by simp [go_sem], by simp [go_sem], by simp [go_sem], by simp [go_sem], ?_⟩; exact Grown.drew ((Grown.refl w).alloc _ _)))
    (first | (go_at_call 30; refine (CB.out _ ?_).mono ?_; (assumption); rintro e w' ⟨rfl, hS⟩))
  generalize hid : w.heap.size = b at *
  go_wp2
  go_ret
  exact ⟨ret_bool (by first | rfl | (rw [decide_eq_true_eq]; omega) | (rw [decide_eq_false_iff_not]; omega)), (‹ObS w _ _ _ _ _ _ _ _› : ObS w _ 1 x 0 0 l s _).2.2.2.2.2.2⟩
theorem may_k1_bad_s (x : Bool) (s : ByteArray) (hd : (s.toList == []) = false) (hd2 : s.toList.isEmpty = false) (hd3 : ¬ s.toList = []) (w : World) :
    Calls Tryz.prog 16 #[obv 1 x 0 0 0 s] w fun e w' => e = Ending.returned (.bool false) ∧ Grown w w' := by
  have CB := Lib.hid (fun (W : World) (h : ObS w w.heap.size 1 x 0 0 0 s W) => (bare_else 1 x 0 0 0 s (by omega) W).mono fun e W' ⟨he, hg⟩ => (⟨he, h.grow hg⟩ : e = Ending.returned (obv 1 false 0 0 0 s) ∧ ObS w w.heap.size 1 x 0 0 0 s W'))
  go_enter Tryz.func16, Tryz.ntmps16
  go_wp2_with fail
  go_region_held3 (fun W => W.cell? ⟨w.heap.size, 0, none⟩ = some (.int .i64 1) ∧ W.cell? ⟨w.heap.size, 1, none⟩ = some (.bool x) ∧ W.cell? ⟨w.heap.size, 2, none⟩ = some (.int .i64 0) ∧ W.cell? ⟨w.heap.size, 3, none⟩ = some (.int .i64 0) ∧ W.cell? ⟨w.heap.size, 4, none⟩ = some (.int .i64 0) ∧ W.cell? ⟨w.heap.size, 5, none⟩ = some (.string s) ∧ Grown w W)
    (first | assumption | (refine ⟨by simp [go_sem], by simp [go_sem], by simp [go_sem], by simp [go_sem], by simp [go_sem], by simp [go_sem], ?_⟩; exact Grown.drew ((Grown.refl w).alloc _ _)))
    (first | (go_at_call 30; refine (CB.out _ ?_).mono ?_; (assumption); rintro e w' ⟨rfl, hS⟩))
  generalize hid : w.heap.size = b at *
  go_wp2
  go_ret
  exact ⟨ret_bool (by first | rfl | (rw [decide_eq_true_eq]; omega) | (rw [decide_eq_false_iff_not]; omega)), (‹ObS w _ _ _ _ _ _ _ _› : ObS w _ 1 x 0 0 0 s _).2.2.2.2.2.2⟩
theorem may_k6_yes (x : Bool)  (w : World) :
    Calls Tryz.prog 16 #[obv 6 x 0 0 0 ⟨#[]⟩] w fun e w' => e = Ending.returned (.bool true) ∧ Grown w w' := by
  have CB := Lib.hid (fun (W : World) (h : ObS w w.heap.size 6 x 0 0 0 ⟨#[]⟩ W) => (bare_else 6 x 0 0 0 ⟨#[]⟩ (by omega) W).mono fun e W' ⟨he, hg⟩ => (⟨he, h.grow hg⟩ : e = Ending.returned (obv 6 false 0 0 0 ⟨#[]⟩) ∧ ObS w w.heap.size 6 x 0 0 0 ⟨#[]⟩ W'))
  go_enter Tryz.func16, Tryz.ntmps16
  go_wp2_with fail
  go_region_held3 (fun W => W.cell? ⟨w.heap.size, 0, none⟩ = some (.int .i64 6) ∧ W.cell? ⟨w.heap.size, 1, none⟩ = some (.bool x) ∧ W.cell? ⟨w.heap.size, 2, none⟩ = some (.int .i64 0) ∧ W.cell? ⟨w.heap.size, 3, none⟩ = some (.int .i64 0) ∧ W.cell? ⟨w.heap.size, 4, none⟩ = some (.int .i64 0) ∧ W.cell? ⟨w.heap.size, 5, none⟩ = some (.string ⟨#[]⟩) ∧ Grown w W)
    (first | assumption | (refine ⟨by simp [go_sem], by simp [go_sem], by simp [go_sem], by simp [go_sem], by simp [go_sem], by simp [go_sem], ?_⟩; exact Grown.drew ((Grown.refl w).alloc _ _)))
    (first | (go_at_call 30; refine (CB.out _ ?_).mono ?_; (assumption); rintro e w' ⟨rfl, hS⟩))
  generalize hid : w.heap.size = b at *
  go_wp2
  go_ret
  exact ⟨ret_bool (by first | rfl | (rw [decide_eq_true_eq]; omega) | (rw [decide_eq_false_iff_not]; omega)), (‹ObS w _ _ _ _ _ _ _ _› : ObS w _ 6 x 0 0 0 ⟨#[]⟩ _).2.2.2.2.2.2⟩
theorem may_k6_bad_n (x : Bool) (n : Int) (a : Int) (l : Int) (s : ByteArray) (hd : (n == 0) = false) (w : World) :
    Calls Tryz.prog 16 #[obv 6 x n a l s] w fun e w' => e = Ending.returned (.bool false) ∧ Grown w w' := by
  have CB := Lib.hid (fun (W : World) (h : ObS w w.heap.size 6 x n a l s W) => (bare_else 6 x n a l s (by omega) W).mono fun e W' ⟨he, hg⟩ => (⟨he, h.grow hg⟩ : e = Ending.returned (obv 6 false n a l s) ∧ ObS w w.heap.size 6 x n a l s W'))
  go_enter Tryz.func16, Tryz.ntmps16
  go_wp2_with fail
  go_region_held3 (fun W => W.cell? ⟨w.heap.size, 0, none⟩ = some (.int .i64 6) ∧ W.cell? ⟨w.heap.size, 1, none⟩ = some (.bool x) ∧ W.cell? ⟨w.heap.size, 2, none⟩ = some (.int .i64 n) ∧ W.cell? ⟨w.heap.size, 3, none⟩ = some (.int .i64 a) ∧ W.cell? ⟨w.heap.size, 4, none⟩ = some (.int .i64 l) ∧ W.cell? ⟨w.heap.size, 5, none⟩ = some (.string s) ∧ Grown w W)
    (first | assumption | (refine ⟨by simp [go_sem], by simp [go_sem], by simp [go_sem], by simp [go_sem], by simp [go_sem], by simp [go_sem], ?_⟩; exact Grown.drew ((Grown.refl w).alloc _ _)))
    (first | (go_at_call 30; refine (CB.out _ ?_).mono ?_; (assumption); rintro e w' ⟨rfl, hS⟩))
  generalize hid : w.heap.size = b at *
  go_wp2
  go_ret
  exact ⟨ret_bool (by first | rfl | (rw [decide_eq_true_eq]; omega) | (rw [decide_eq_false_iff_not]; omega)), (‹ObS w _ _ _ _ _ _ _ _› : ObS w _ 6 x n a l s _).2.2.2.2.2.2⟩
theorem may_k6_bad_a (x : Bool) (a : Int) (l : Int) (s : ByteArray) (hd : (a == 0) = false) (w : World) :
    Calls Tryz.prog 16 #[obv 6 x 0 a l s] w fun e w' => e = Ending.returned (.bool false) ∧ Grown w w' := by
  have CB := Lib.hid (fun (W : World) (h : ObS w w.heap.size 6 x 0 a l s W) => (bare_else 6 x 0 a l s (by omega) W).mono fun e W' ⟨he, hg⟩ => (⟨he, h.grow hg⟩ : e = Ending.returned (obv 6 false 0 a l s) ∧ ObS w w.heap.size 6 x 0 a l s W'))
  go_enter Tryz.func16, Tryz.ntmps16
  go_wp2_with fail
  go_region_held3 (fun W => W.cell? ⟨w.heap.size, 0, none⟩ = some (.int .i64 6) ∧ W.cell? ⟨w.heap.size, 1, none⟩ = some (.bool x) ∧ W.cell? ⟨w.heap.size, 2, none⟩ = some (.int .i64 0) ∧ W.cell? ⟨w.heap.size, 3, none⟩ = some (.int .i64 a) ∧ W.cell? ⟨w.heap.size, 4, none⟩ = some (.int .i64 l) ∧ W.cell? ⟨w.heap.size, 5, none⟩ = some (.string s) ∧ Grown w W)
    (first | assumption | (refine ⟨by simp [go_sem], by simp [go_sem], by simp [go_sem], by simp [go_sem], by simp [go_sem], by simp [go_sem], ?_⟩; exact Grown.drew ((Grown.refl w).alloc _ _)))
    (first | (go_at_call 30; refine (CB.out _ ?_).mono ?_; (assumption); rintro e w' ⟨rfl, hS⟩))
  generalize hid : w.heap.size = b at *
  go_wp2
  go_ret
  exact ⟨ret_bool (by first | rfl | (rw [decide_eq_true_eq]; omega) | (rw [decide_eq_false_iff_not]; omega)), (‹ObS w _ _ _ _ _ _ _ _› : ObS w _ 6 x 0 a l s _).2.2.2.2.2.2⟩
theorem may_k6_bad_l (x : Bool) (l : Int) (s : ByteArray) (hd : (l == 0) = false) (w : World) :
    Calls Tryz.prog 16 #[obv 6 x 0 0 l s] w fun e w' => e = Ending.returned (.bool false) ∧ Grown w w' := by
  have CB := Lib.hid (fun (W : World) (h : ObS w w.heap.size 6 x 0 0 l s W) => (bare_else 6 x 0 0 l s (by omega) W).mono fun e W' ⟨he, hg⟩ => (⟨he, h.grow hg⟩ : e = Ending.returned (obv 6 false 0 0 l s) ∧ ObS w w.heap.size 6 x 0 0 l s W'))
  go_enter Tryz.func16, Tryz.ntmps16
  go_wp2_with fail
  go_region_held3 (fun W => W.cell? ⟨w.heap.size, 0, none⟩ = some (.int .i64 6) ∧ W.cell? ⟨w.heap.size, 1, none⟩ = some (.bool x) ∧ W.cell? ⟨w.heap.size, 2, none⟩ = some (.int .i64 0) ∧ W.cell? ⟨w.heap.size, 3, none⟩ = some (.int .i64 0) ∧ W.cell? ⟨w.heap.size, 4, none⟩ = some (.int .i64 l) ∧ W.cell? ⟨w.heap.size, 5, none⟩ = some (.string s) ∧ Grown w W)
    (first | assumption | (refine ⟨by simp [go_sem], by simp [go_sem], by simp [go_sem], by simp [go_sem], by simp [go_sem], by simp [go_sem], ?_⟩; exact Grown.drew ((Grown.refl w).alloc _ _)))
    (first | (go_at_call 30; refine (CB.out _ ?_).mono ?_; (assumption); rintro e w' ⟨rfl, hS⟩))
  generalize hid : w.heap.size = b at *
  go_wp2
  go_ret
  exact ⟨ret_bool (by first | rfl | (rw [decide_eq_true_eq]; omega) | (rw [decide_eq_false_iff_not]; omega)), (‹ObS w _ _ _ _ _ _ _ _› : ObS w _ 6 x 0 0 l s _).2.2.2.2.2.2⟩
theorem may_k6_bad_s (x : Bool) (s : ByteArray) (hd : (s.toList == []) = false) (hd2 : s.toList.isEmpty = false) (hd3 : ¬ s.toList = []) (w : World) :
    Calls Tryz.prog 16 #[obv 6 x 0 0 0 s] w fun e w' => e = Ending.returned (.bool false) ∧ Grown w w' := by
  have CB := Lib.hid (fun (W : World) (h : ObS w w.heap.size 6 x 0 0 0 s W) => (bare_else 6 x 0 0 0 s (by omega) W).mono fun e W' ⟨he, hg⟩ => (⟨he, h.grow hg⟩ : e = Ending.returned (obv 6 false 0 0 0 s) ∧ ObS w w.heap.size 6 x 0 0 0 s W'))
  go_enter Tryz.func16, Tryz.ntmps16
  go_wp2_with fail
  go_region_held3 (fun W => W.cell? ⟨w.heap.size, 0, none⟩ = some (.int .i64 6) ∧ W.cell? ⟨w.heap.size, 1, none⟩ = some (.bool x) ∧ W.cell? ⟨w.heap.size, 2, none⟩ = some (.int .i64 0) ∧ W.cell? ⟨w.heap.size, 3, none⟩ = some (.int .i64 0) ∧ W.cell? ⟨w.heap.size, 4, none⟩ = some (.int .i64 0) ∧ W.cell? ⟨w.heap.size, 5, none⟩ = some (.string s) ∧ Grown w W)
    (first | assumption | (refine ⟨by simp [go_sem], by simp [go_sem], by simp [go_sem], by simp [go_sem], by simp [go_sem], by simp [go_sem], ?_⟩; exact Grown.drew ((Grown.refl w).alloc _ _)))
    (first | (go_at_call 30; refine (CB.out _ ?_).mono ?_; (assumption); rintro e w' ⟨rfl, hS⟩))
  generalize hid : w.heap.size = b at *
  go_wp2
  go_ret
  exact ⟨ret_bool (by first | rfl | (rw [decide_eq_true_eq]; omega) | (rw [decide_eq_false_iff_not]; omega)), (‹ObS w _ _ _ _ _ _ _ _› : ObS w _ 6 x 0 0 0 s _).2.2.2.2.2.2⟩
theorem may_k5_yes (x : Bool) (s : ByteArray) (h1 : (s.size : Int) ≤ 100) (w : World) :
    Calls Tryz.prog 16 #[obv 5 x 0 0 0 s] w fun e w' => e = Ending.returned (.bool true) ∧ Grown w w' := by
  have CB := Lib.hid (fun (W : World) (h : ObS w w.heap.size 5 x 0 0 0 s W) => (bare_name x 0 0 0 s W).mono fun e W' ⟨he, hg⟩ => (⟨he, h.grow hg⟩ : e = Ending.returned (obv 5 false 0 0 0 ⟨#[]⟩) ∧ ObS w w.heap.size 5 x 0 0 0 s W'))
  go_enter Tryz.func16, Tryz.ntmps16
  go_wp2_with fail
  go_region_held3 (fun W => W.cell? ⟨w.heap.size, 0, none⟩ = some (.int .i64 5) ∧ W.cell? ⟨w.heap.size, 1, none⟩ = some (.bool x) ∧ W.cell? ⟨w.heap.size, 2, none⟩ = some (.int .i64 0) ∧ W.cell? ⟨w.heap.size, 3, none⟩ = some (.int .i64 0) ∧ W.cell? ⟨w.heap.size, 4, none⟩ = some (.int .i64 0) ∧ W.cell? ⟨w.heap.size, 5, none⟩ = some (.string s) ∧ Grown w W)
    (first | assumption | (refine ⟨by simp [go_sem], by simp [go_sem], by simp [go_sem], by simp [go_sem], by simp [go_sem], by simp [go_sem], ?_⟩; exact Grown.drew ((Grown.refl w).alloc _ _)))
    (first | (go_at_call 30; refine (CB.out _ ?_).mono ?_; (assumption); rintro e w' ⟨rfl, hS⟩))
  generalize hid : w.heap.size = b at *
  go_wp2
  go_ret
  exact ⟨ret_bool (by first | rfl | (rw [decide_eq_true_eq]; omega) | (rw [decide_eq_false_iff_not]; omega)), (‹ObS w _ _ _ _ _ _ _ _› : ObS w _ 5 x 0 0 0 s _).2.2.2.2.2.2⟩
theorem may_k5_high (x : Bool) (s : ByteArray) (h1 : 100 < (s.size : Int)) (w : World) :
    Calls Tryz.prog 16 #[obv 5 x 0 0 0 s] w fun e w' => e = Ending.returned (.bool false) ∧ Grown w w' := by
  have CB := Lib.hid (fun (W : World) (h : ObS w w.heap.size 5 x 0 0 0 s W) => (bare_name x 0 0 0 s W).mono fun e W' ⟨he, hg⟩ => (⟨he, h.grow hg⟩ : e = Ending.returned (obv 5 false 0 0 0 ⟨#[]⟩) ∧ ObS w w.heap.size 5 x 0 0 0 s W'))
  go_enter Tryz.func16, Tryz.ntmps16
  go_wp2_with fail
  go_region_held3 (fun W => W.cell? ⟨w.heap.size, 0, none⟩ = some (.int .i64 5) ∧ W.cell? ⟨w.heap.size, 1, none⟩ = some (.bool x) ∧ W.cell? ⟨w.heap.size, 2, none⟩ = some (.int .i64 0) ∧ W.cell? ⟨w.heap.size, 3, none⟩ = some (.int .i64 0) ∧ W.cell? ⟨w.heap.size, 4, none⟩ = some (.int .i64 0) ∧ W.cell? ⟨w.heap.size, 5, none⟩ = some (.string s) ∧ Grown w W)
    (first | assumption | (refine ⟨by simp [go_sem], by simp [go_sem], by simp [go_sem], by simp [go_sem], by simp [go_sem], by simp [go_sem], ?_⟩; exact Grown.drew ((Grown.refl w).alloc _ _)))
    (first | (go_at_call 30; refine (CB.out _ ?_).mono ?_; (assumption); rintro e w' ⟨rfl, hS⟩))
  generalize hid : w.heap.size = b at *
  go_wp2
  go_ret
  exact ⟨ret_bool (by first | rfl | (rw [decide_eq_true_eq]; omega) | (rw [decide_eq_false_iff_not]; omega)), (‹ObS w _ _ _ _ _ _ _ _› : ObS w _ 5 x 0 0 0 s _).2.2.2.2.2.2⟩
theorem may_k5_bad_n (x : Bool) (n : Int) (a : Int) (l : Int) (s : ByteArray) (hd : (n == 0) = false) (w : World) :
    Calls Tryz.prog 16 #[obv 5 x n a l s] w fun e w' => e = Ending.returned (.bool false) ∧ Grown w w' := by
  have CB := Lib.hid (fun (W : World) (h : ObS w w.heap.size 5 x n a l s W) => (bare_name x n a l s W).mono fun e W' ⟨he, hg⟩ => (⟨he, h.grow hg⟩ : e = Ending.returned (obv 5 false n a l ⟨#[]⟩) ∧ ObS w w.heap.size 5 x n a l s W'))
  go_enter Tryz.func16, Tryz.ntmps16
  go_wp2_with fail
  go_region_held3 (fun W => W.cell? ⟨w.heap.size, 0, none⟩ = some (.int .i64 5) ∧ W.cell? ⟨w.heap.size, 1, none⟩ = some (.bool x) ∧ W.cell? ⟨w.heap.size, 2, none⟩ = some (.int .i64 n) ∧ W.cell? ⟨w.heap.size, 3, none⟩ = some (.int .i64 a) ∧ W.cell? ⟨w.heap.size, 4, none⟩ = some (.int .i64 l) ∧ W.cell? ⟨w.heap.size, 5, none⟩ = some (.string s) ∧ Grown w W)
    (first | assumption | (refine ⟨by simp [go_sem], by simp [go_sem], by simp [go_sem], by simp [go_sem], by simp [go_sem], by simp [go_sem], ?_⟩; exact Grown.drew ((Grown.refl w).alloc _ _)))
    (first | (go_at_call 30; refine (CB.out _ ?_).mono ?_; (assumption); rintro e w' ⟨rfl, hS⟩))
  generalize hid : w.heap.size = b at *
  go_wp2
  go_ret
  exact ⟨ret_bool (by first | rfl | (rw [decide_eq_true_eq]; omega) | (rw [decide_eq_false_iff_not]; omega)), (‹ObS w _ _ _ _ _ _ _ _› : ObS w _ 5 x n a l s _).2.2.2.2.2.2⟩
theorem may_k5_bad_a (x : Bool) (a : Int) (l : Int) (s : ByteArray) (hd : (a == 0) = false) (w : World) :
    Calls Tryz.prog 16 #[obv 5 x 0 a l s] w fun e w' => e = Ending.returned (.bool false) ∧ Grown w w' := by
  have CB := Lib.hid (fun (W : World) (h : ObS w w.heap.size 5 x 0 a l s W) => (bare_name x 0 a l s W).mono fun e W' ⟨he, hg⟩ => (⟨he, h.grow hg⟩ : e = Ending.returned (obv 5 false 0 a l ⟨#[]⟩) ∧ ObS w w.heap.size 5 x 0 a l s W'))
  go_enter Tryz.func16, Tryz.ntmps16
  go_wp2_with fail
  go_region_held3 (fun W => W.cell? ⟨w.heap.size, 0, none⟩ = some (.int .i64 5) ∧ W.cell? ⟨w.heap.size, 1, none⟩ = some (.bool x) ∧ W.cell? ⟨w.heap.size, 2, none⟩ = some (.int .i64 0) ∧ W.cell? ⟨w.heap.size, 3, none⟩ = some (.int .i64 a) ∧ W.cell? ⟨w.heap.size, 4, none⟩ = some (.int .i64 l) ∧ W.cell? ⟨w.heap.size, 5, none⟩ = some (.string s) ∧ Grown w W)
    (first | assumption | (refine ⟨by simp [go_sem], by simp [go_sem], by simp [go_sem], by simp [go_sem], by simp [go_sem], by simp [go_sem], ?_⟩; exact Grown.drew ((Grown.refl w).alloc _ _)))
    (first | (go_at_call 30; refine (CB.out _ ?_).mono ?_; (assumption); rintro e w' ⟨rfl, hS⟩))
  generalize hid : w.heap.size = b at *
  go_wp2
  go_ret
  exact ⟨ret_bool (by first | rfl | (rw [decide_eq_true_eq]; omega) | (rw [decide_eq_false_iff_not]; omega)), (‹ObS w _ _ _ _ _ _ _ _› : ObS w _ 5 x 0 a l s _).2.2.2.2.2.2⟩
theorem may_k5_bad_l (x : Bool) (l : Int) (s : ByteArray) (hd : (l == 0) = false) (w : World) :
    Calls Tryz.prog 16 #[obv 5 x 0 0 l s] w fun e w' => e = Ending.returned (.bool false) ∧ Grown w w' := by
  have CB := Lib.hid (fun (W : World) (h : ObS w w.heap.size 5 x 0 0 l s W) => (bare_name x 0 0 l s W).mono fun e W' ⟨he, hg⟩ => (⟨he, h.grow hg⟩ : e = Ending.returned (obv 5 false 0 0 l ⟨#[]⟩) ∧ ObS w w.heap.size 5 x 0 0 l s W'))
  go_enter Tryz.func16, Tryz.ntmps16
  go_wp2_with fail
  go_region_held3 (fun W => W.cell? ⟨w.heap.size, 0, none⟩ = some (.int .i64 5) ∧ W.cell? ⟨w.heap.size, 1, none⟩ = some (.bool x) ∧ W.cell? ⟨w.heap.size, 2, none⟩ = some (.int .i64 0) ∧ W.cell? ⟨w.heap.size, 3, none⟩ = some (.int .i64 0) ∧ W.cell? ⟨w.heap.size, 4, none⟩ = some (.int .i64 l) ∧ W.cell? ⟨w.heap.size, 5, none⟩ = some (.string s) ∧ Grown w W)
    (first | assumption | (refine ⟨by simp [go_sem], by simp [go_sem], by simp [go_sem], by simp [go_sem], by simp [go_sem], by simp [go_sem], ?_⟩; exact Grown.drew ((Grown.refl w).alloc _ _)))
    (first | (go_at_call 30; refine (CB.out _ ?_).mono ?_; (assumption); rintro e w' ⟨rfl, hS⟩))
  generalize hid : w.heap.size = b at *
  go_wp2
  go_ret
  exact ⟨ret_bool (by first | rfl | (rw [decide_eq_true_eq]; omega) | (rw [decide_eq_false_iff_not]; omega)), (‹ObS w _ _ _ _ _ _ _ _› : ObS w _ 5 x 0 0 l s _).2.2.2.2.2.2⟩
theorem may_else_no (x : Bool) (k : Int) (hk : ¬ (k = 1 ∨ k = 2 ∨ k = 3 ∨ k = 4 ∨ k = 5 ∨ k = 6 ∨ k = 7 ∨ k = 8 ∨ k = 9 ∨ k = 10 ∨ k = 11)) (k1 : (k == 1) = false) (k2 : (k == 2) = false) (k3 : (k == 3) = false) (k4 : (k == 4) = false) (k5 : (k == 5) = false) (k6 : (k == 6) = false) (k7 : (k == 7) = false) (k8 : (k == 8) = false) (k9 : (k == 9) = false) (k10 : (k == 10) = false) (k11 : (k == 11) = false)  (w : World) :
    Calls Tryz.prog 16 #[obv k x 0 0 0 ⟨#[]⟩] w fun e w' => e = Ending.returned (.bool false) ∧ Grown w w' := by
  have CB := Lib.hid (fun (W : World) (h : ObS w w.heap.size k x 0 0 0 ⟨#[]⟩ W) => (bare_else k x 0 0 0 ⟨#[]⟩ (by omega) W).mono fun e W' ⟨he, hg⟩ => (⟨he, h.grow hg⟩ : e = Ending.returned (obv k false 0 0 0 ⟨#[]⟩) ∧ ObS w w.heap.size k x 0 0 0 ⟨#[]⟩ W'))
  go_enter Tryz.func16, Tryz.ntmps16
  go_wp2_with fail
  go_region_held3 (fun W => W.cell? ⟨w.heap.size, 0, none⟩ = some (.int .i64 k) ∧ W.cell? ⟨w.heap.size, 1, none⟩ = some (.bool x) ∧ W.cell? ⟨w.heap.size, 2, none⟩ = some (.int .i64 0) ∧ W.cell? ⟨w.heap.size, 3, none⟩ = some (.int .i64 0) ∧ W.cell? ⟨w.heap.size, 4, none⟩ = some (.int .i64 0) ∧ W.cell? ⟨w.heap.size, 5, none⟩ = some (.string ⟨#[]⟩) ∧ Grown w W)
    (first | assumption | (refine ⟨by simp [go_sem], by simp [go_sem], by simp [go_sem], by simp [go_sem], by simp [go_sem], by simp [go_sem], ?_⟩; exact Grown.drew ((Grown.refl w).alloc _ _)))
    (first | (go_at_call 30; refine (CB.out _ ?_).mono ?_; (assumption); rintro e w' ⟨rfl, hS⟩))
  generalize hid : w.heap.size = b at *
  go_wp2
  go_ret
  exact ⟨ret_bool (by first | rfl | (rw [decide_eq_true_eq]; omega) | (rw [decide_eq_false_iff_not]; omega)), (‹ObS w _ _ _ _ _ _ _ _› : ObS w _ k x 0 0 0 ⟨#[]⟩ _).2.2.2.2.2.2⟩
theorem may_else_bad_n (x : Bool) (n : Int) (a : Int) (l : Int) (s : ByteArray) (k : Int) (hk : ¬ (k = 1 ∨ k = 2 ∨ k = 3 ∨ k = 4 ∨ k = 5 ∨ k = 6 ∨ k = 7 ∨ k = 8 ∨ k = 9 ∨ k = 10 ∨ k = 11)) (k1 : (k == 1) = false) (k2 : (k == 2) = false) (k3 : (k == 3) = false) (k4 : (k == 4) = false) (k5 : (k == 5) = false) (k6 : (k == 6) = false) (k7 : (k == 7) = false) (k8 : (k == 8) = false) (k9 : (k == 9) = false) (k10 : (k == 10) = false) (k11 : (k == 11) = false) (hd : (n == 0) = false) (w : World) :
    Calls Tryz.prog 16 #[obv k x n a l s] w fun e w' => e = Ending.returned (.bool false) ∧ Grown w w' := by
  have CB := Lib.hid (fun (W : World) (h : ObS w w.heap.size k x n a l s W) => (bare_else k x n a l s (by omega) W).mono fun e W' ⟨he, hg⟩ => (⟨he, h.grow hg⟩ : e = Ending.returned (obv k false n a l s) ∧ ObS w w.heap.size k x n a l s W'))
  go_enter Tryz.func16, Tryz.ntmps16
  go_wp2_with fail
  go_region_held3 (fun W => W.cell? ⟨w.heap.size, 0, none⟩ = some (.int .i64 k) ∧ W.cell? ⟨w.heap.size, 1, none⟩ = some (.bool x) ∧ W.cell? ⟨w.heap.size, 2, none⟩ = some (.int .i64 n) ∧ W.cell? ⟨w.heap.size, 3, none⟩ = some (.int .i64 a) ∧ W.cell? ⟨w.heap.size, 4, none⟩ = some (.int .i64 l) ∧ W.cell? ⟨w.heap.size, 5, none⟩ = some (.string s) ∧ Grown w W)
    (first | assumption | (refine ⟨by simp [go_sem], by simp [go_sem], by simp [go_sem], by simp [go_sem], by simp [go_sem], by simp [go_sem], ?_⟩; exact Grown.drew ((Grown.refl w).alloc _ _)))
    (first | (go_at_call 30; refine (CB.out _ ?_).mono ?_; (assumption); rintro e w' ⟨rfl, hS⟩))
  generalize hid : w.heap.size = b at *
  go_wp2
  go_ret
  exact ⟨ret_bool (by first | rfl | (rw [decide_eq_true_eq]; omega) | (rw [decide_eq_false_iff_not]; omega)), (‹ObS w _ _ _ _ _ _ _ _› : ObS w _ k x n a l s _).2.2.2.2.2.2⟩
theorem may_else_bad_a (x : Bool) (a : Int) (l : Int) (s : ByteArray) (k : Int) (hk : ¬ (k = 1 ∨ k = 2 ∨ k = 3 ∨ k = 4 ∨ k = 5 ∨ k = 6 ∨ k = 7 ∨ k = 8 ∨ k = 9 ∨ k = 10 ∨ k = 11)) (k1 : (k == 1) = false) (k2 : (k == 2) = false) (k3 : (k == 3) = false) (k4 : (k == 4) = false) (k5 : (k == 5) = false) (k6 : (k == 6) = false) (k7 : (k == 7) = false) (k8 : (k == 8) = false) (k9 : (k == 9) = false) (k10 : (k == 10) = false) (k11 : (k == 11) = false) (hd : (a == 0) = false) (w : World) :
    Calls Tryz.prog 16 #[obv k x 0 a l s] w fun e w' => e = Ending.returned (.bool false) ∧ Grown w w' := by
  have CB := Lib.hid (fun (W : World) (h : ObS w w.heap.size k x 0 a l s W) => (bare_else k x 0 a l s (by omega) W).mono fun e W' ⟨he, hg⟩ => (⟨he, h.grow hg⟩ : e = Ending.returned (obv k false 0 a l s) ∧ ObS w w.heap.size k x 0 a l s W'))
  go_enter Tryz.func16, Tryz.ntmps16
  go_wp2_with fail
  go_region_held3 (fun W => W.cell? ⟨w.heap.size, 0, none⟩ = some (.int .i64 k) ∧ W.cell? ⟨w.heap.size, 1, none⟩ = some (.bool x) ∧ W.cell? ⟨w.heap.size, 2, none⟩ = some (.int .i64 0) ∧ W.cell? ⟨w.heap.size, 3, none⟩ = some (.int .i64 a) ∧ W.cell? ⟨w.heap.size, 4, none⟩ = some (.int .i64 l) ∧ W.cell? ⟨w.heap.size, 5, none⟩ = some (.string s) ∧ Grown w W)
    (first | assumption | (refine ⟨by simp [go_sem], by simp [go_sem], by simp [go_sem], by simp [go_sem], by simp [go_sem], by simp [go_sem], ?_⟩; exact Grown.drew ((Grown.refl w).alloc _ _)))
    (first | (go_at_call 30; refine (CB.out _ ?_).mono ?_; (assumption); rintro e w' ⟨rfl, hS⟩))
  generalize hid : w.heap.size = b at *
  go_wp2
  go_ret
  exact ⟨ret_bool (by first | rfl | (rw [decide_eq_true_eq]; omega) | (rw [decide_eq_false_iff_not]; omega)), (‹ObS w _ _ _ _ _ _ _ _› : ObS w _ k x 0 a l s _).2.2.2.2.2.2⟩
theorem may_else_bad_l (x : Bool) (l : Int) (s : ByteArray) (k : Int) (hk : ¬ (k = 1 ∨ k = 2 ∨ k = 3 ∨ k = 4 ∨ k = 5 ∨ k = 6 ∨ k = 7 ∨ k = 8 ∨ k = 9 ∨ k = 10 ∨ k = 11)) (k1 : (k == 1) = false) (k2 : (k == 2) = false) (k3 : (k == 3) = false) (k4 : (k == 4) = false) (k5 : (k == 5) = false) (k6 : (k == 6) = false) (k7 : (k == 7) = false) (k8 : (k == 8) = false) (k9 : (k == 9) = false) (k10 : (k == 10) = false) (k11 : (k == 11) = false) (hd : (l == 0) = false) (w : World) :
    Calls Tryz.prog 16 #[obv k x 0 0 l s] w fun e w' => e = Ending.returned (.bool false) ∧ Grown w w' := by
  have CB := Lib.hid (fun (W : World) (h : ObS w w.heap.size k x 0 0 l s W) => (bare_else k x 0 0 l s (by omega) W).mono fun e W' ⟨he, hg⟩ => (⟨he, h.grow hg⟩ : e = Ending.returned (obv k false 0 0 l s) ∧ ObS w w.heap.size k x 0 0 l s W'))
  go_enter Tryz.func16, Tryz.ntmps16
  go_wp2_with fail
  go_region_held3 (fun W => W.cell? ⟨w.heap.size, 0, none⟩ = some (.int .i64 k) ∧ W.cell? ⟨w.heap.size, 1, none⟩ = some (.bool x) ∧ W.cell? ⟨w.heap.size, 2, none⟩ = some (.int .i64 0) ∧ W.cell? ⟨w.heap.size, 3, none⟩ = some (.int .i64 0) ∧ W.cell? ⟨w.heap.size, 4, none⟩ = some (.int .i64 l) ∧ W.cell? ⟨w.heap.size, 5, none⟩ = some (.string s) ∧ Grown w W)
    (first | assumption | (refine ⟨by simp [go_sem], by simp [go_sem], by simp [go_sem], by simp [go_sem], by simp [go_sem], by simp [go_sem], ?_⟩; exact Grown.drew ((Grown.refl w).alloc _ _)))
    (first | (go_at_call 30; refine (CB.out _ ?_).mono ?_; (assumption); rintro e w' ⟨rfl, hS⟩))
  generalize hid : w.heap.size = b at *
  go_wp2
  go_ret
  exact ⟨ret_bool (by first | rfl | (rw [decide_eq_true_eq]; omega) | (rw [decide_eq_false_iff_not]; omega)), (‹ObS w _ _ _ _ _ _ _ _› : ObS w _ k x 0 0 l s _).2.2.2.2.2.2⟩
theorem may_else_bad_s (x : Bool) (s : ByteArray) (k : Int) (hk : ¬ (k = 1 ∨ k = 2 ∨ k = 3 ∨ k = 4 ∨ k = 5 ∨ k = 6 ∨ k = 7 ∨ k = 8 ∨ k = 9 ∨ k = 10 ∨ k = 11)) (k1 : (k == 1) = false) (k2 : (k == 2) = false) (k3 : (k == 3) = false) (k4 : (k == 4) = false) (k5 : (k == 5) = false) (k6 : (k == 6) = false) (k7 : (k == 7) = false) (k8 : (k == 8) = false) (k9 : (k == 9) = false) (k10 : (k == 10) = false) (k11 : (k == 11) = false) (hd : (s.toList == []) = false) (hd2 : s.toList.isEmpty = false) (hd3 : ¬ s.toList = []) (w : World) :
    Calls Tryz.prog 16 #[obv k x 0 0 0 s] w fun e w' => e = Ending.returned (.bool false) ∧ Grown w w' := by
  have CB := Lib.hid (fun (W : World) (h : ObS w w.heap.size k x 0 0 0 s W) => (bare_else k x 0 0 0 s (by omega) W).mono fun e W' ⟨he, hg⟩ => (⟨he, h.grow hg⟩ : e = Ending.returned (obv k false 0 0 0 s) ∧ ObS w w.heap.size k x 0 0 0 s W'))
  go_enter Tryz.func16, Tryz.ntmps16
  go_wp2_with fail
  go_region_held3 (fun W => W.cell? ⟨w.heap.size, 0, none⟩ = some (.int .i64 k) ∧ W.cell? ⟨w.heap.size, 1, none⟩ = some (.bool x) ∧ W.cell? ⟨w.heap.size, 2, none⟩ = some (.int .i64 0) ∧ W.cell? ⟨w.heap.size, 3, none⟩ = some (.int .i64 0) ∧ W.cell? ⟨w.heap.size, 4, none⟩ = some (.int .i64 0) ∧ W.cell? ⟨w.heap.size, 5, none⟩ = some (.string s) ∧ Grown w W)
    (first | assumption | (refine ⟨by simp [go_sem], by simp [go_sem], by simp [go_sem], by simp [go_sem], by simp [go_sem], by simp [go_sem], ?_⟩; exact Grown.drew ((Grown.refl w).alloc _ _)))
    (first | (go_at_call 30; refine (CB.out _ ?_).mono ?_; (assumption); rintro e w' ⟨rfl, hS⟩))
  generalize hid : w.heap.size = b at *
  go_wp2
  go_ret
  exact ⟨ret_bool (by first | rfl | (rw [decide_eq_true_eq]; omega) | (rw [decide_eq_false_iff_not]; omega)), (‹ObS w _ _ _ _ _ _ _ _› : ObS w _ k x 0 0 0 s _).2.2.2.2.2.2⟩
end Go.Proofs.YtfmmomdmemcbbaaGreat
