/- The walk of tympanref10.May, whatever the object (printed by wip/gen_rmay.py). -/
import Derived.Test.YtenmbkngkabonaaO5
import Derived.Test.YtenmbkngkabonaaO7
namespace Go.Proofs.Ytenmbkngkabonaa
set_option linter.unusedVariables false
open Go.RowKit

theorem Pl.toList_nil {s : ByteArray} : s.toList = [] ↔ s = ⟨#[]⟩ := ⟨fun h => Classical.byContradiction fun e => Pl.bytes_ne e h, fun h => by rw [h]; simp [ByteArray.toList_eq]⟩
theorem Pl.cut_ne {s : ByteArray} (h : 100 < (s.size : Int)) : ¬ s.toList = (s.extract 0 100).toList := fun e => by
  have e := congrArg List.length e
  simp [ByteArray.toList_eq] at e
  omega

theorem rmay_2 (x : Bool) (n a l : Int) (s : ByteArray) (m : Bool) (hm : m = true ↔ (a = 0 ∧ l = 0 ∧ s.toList = [] ∧ 0 ≤ n ∧ n ≤ 1)) (w : World) :
    Calls Try.prog 47 #[obv 2 x n a l s] w fun e w' => e = Ending.returned (.bool m) ∧ Grown w w' := by
  go_enter Try.func47, Try.ntmps47
  go_wp2
  all_goals
    go_ret
    refine ⟨ret_bool ?_, by (repeat (first | exact Grown.refl _ | assumption | apply Grown.drew | apply Grown.alloc | (refine Grown.setCell ?_ (by simp) _)))⟩
    first | exact (hm.2 (by refine ⟨?_, ?_, ?_, ?_, ?_⟩ <;> first | assumption | omega)).symm | (symm; rw [Bool.eq_false_iff]; intro h; have h := hm.1 h; first | omega | exact absurd h.2.2.1 (by assumption))

theorem rmay_3 (x : Bool) (n a l : Int) (s : ByteArray) (m : Bool) (hm : m = true ↔ (a = 0 ∧ l = 0 ∧ s.toList = [] ∧ -2147483647 ≤ n ∧ n ≤ 2147483647)) (w : World) :
    Calls Try.prog 47 #[obv 3 x n a l s] w fun e w' => e = Ending.returned (.bool m) ∧ Grown w w' := by
  go_enter Try.func47, Try.ntmps47
  go_wp2
  all_goals
    go_ret
    refine ⟨ret_bool ?_, by (repeat (first | exact Grown.refl _ | assumption | apply Grown.drew | apply Grown.alloc | (refine Grown.setCell ?_ (by simp) _)))⟩
    first | exact (hm.2 (by refine ⟨?_, ?_, ?_, ?_, ?_⟩ <;> first | assumption | omega)).symm | (symm; rw [Bool.eq_false_iff]; intro h; have h := hm.1 h; first | omega | exact absurd h.2.2.1 (by assumption))

theorem rmay_4 (x : Bool) (n a l : Int) (s : ByteArray) (m : Bool) (hm : m = true ↔ (a = 0 ∧ l = 0 ∧ s.toList = [] ∧ -1073741823 ≤ n ∧ n ≤ 1073741823)) (w : World) :
    Calls Try.prog 47 #[obv 4 x n a l s] w fun e w' => e = Ending.returned (.bool m) ∧ Grown w w' := by
  go_enter Try.func47, Try.ntmps47
  go_wp2
  all_goals
    go_ret
    refine ⟨ret_bool ?_, by (repeat (first | exact Grown.refl _ | assumption | apply Grown.drew | apply Grown.alloc | (refine Grown.setCell ?_ (by simp) _)))⟩
    first | exact (hm.2 (by refine ⟨?_, ?_, ?_, ?_, ?_⟩ <;> first | assumption | omega)).symm | (symm; rw [Bool.eq_false_iff]; intro h; have h := hm.1 h; first | omega | exact absurd h.2.2.1 (by assumption))

theorem rmay_7 (x : Bool) (n a l : Int) (s : ByteArray) (m : Bool) (hm : m = true ↔ (a = 0 ∧ l = 0 ∧ s.toList = [] ∧ 1 ≤ n ∧ n ≤ 200)) (w : World) :
    Calls Try.prog 47 #[obv 7 x n a l s] w fun e w' => e = Ending.returned (.bool m) ∧ Grown w w' := by
  go_enter Try.func47, Try.ntmps47
  go_wp2
  all_goals
    go_ret
    refine ⟨ret_bool ?_, by (repeat (first | exact Grown.refl _ | assumption | apply Grown.drew | apply Grown.alloc | (refine Grown.setCell ?_ (by simp) _)))⟩
    first | exact (hm.2 (by refine ⟨?_, ?_, ?_, ?_, ?_⟩ <;> first | assumption | omega)).symm | (symm; rw [Bool.eq_false_iff]; intro h; have h := hm.1 h; first | omega | exact absurd h.2.2.1 (by assumption))

theorem rmay_10 (x : Bool) (n a l : Int) (s : ByteArray) (m : Bool) (hm : m = true ↔ (a = 0 ∧ l = 0 ∧ s.toList = [] ∧ 0 ≤ n ∧ n ≤ 40000)) (w : World) :
    Calls Try.prog 47 #[obv 10 x n a l s] w fun e w' => e = Ending.returned (.bool m) ∧ Grown w w' := by
  go_enter Try.func47, Try.ntmps47
  go_wp2
  all_goals
    go_ret
    refine ⟨ret_bool ?_, by (repeat (first | exact Grown.refl _ | assumption | apply Grown.drew | apply Grown.alloc | (refine Grown.setCell ?_ (by simp) _)))⟩
    first | exact (hm.2 (by refine ⟨?_, ?_, ?_, ?_, ?_⟩ <;> first | assumption | omega)).symm | (symm; rw [Bool.eq_false_iff]; intro h; have h := hm.1 h; first | omega | exact absurd h.2.2.1 (by assumption))

theorem rmay_11 (x : Bool) (n a l : Int) (s : ByteArray) (m : Bool) (hm : m = true ↔ (a = 0 ∧ l = 0 ∧ s.toList = [] ∧ 1 ≤ n ∧ n ≤ 2147483647)) (w : World) :
    Calls Try.prog 47 #[obv 11 x n a l s] w fun e w' => e = Ending.returned (.bool m) ∧ Grown w w' := by
  go_enter Try.func47, Try.ntmps47
  go_wp2
  all_goals
    go_ret
    refine ⟨ret_bool ?_, by (repeat (first | exact Grown.refl _ | assumption | apply Grown.drew | apply Grown.alloc | (refine Grown.setCell ?_ (by simp) _)))⟩
    first | exact (hm.2 (by refine ⟨?_, ?_, ?_, ?_, ?_⟩ <;> first | assumption | omega)).symm | (symm; rw [Bool.eq_false_iff]; intro h; have h := hm.1 h; first | omega | exact absurd h.2.2.1 (by assumption))

theorem rmay_1 (x : Bool) (n a l : Int) (s : ByteArray) (m : Bool) (hm : m = true ↔ (a = 0 ∧ l = 0 ∧ s.toList = [] ∧ n = 0 ∧ n = 0)) (w : World) :
    Calls Try.prog 47 #[obv 1 x n a l s] w fun e w' => e = Ending.returned (.bool m) ∧ Grown w w' := by
  go_enter Try.func47, Try.ntmps47
  go_wp2
  all_goals
    go_ret
    refine ⟨ret_bool ?_, by (repeat (first | exact Grown.refl _ | assumption | apply Grown.drew | apply Grown.alloc | (refine Grown.setCell ?_ (by simp) _)))⟩
    first | exact (hm.2 (by refine ⟨?_, ?_, ?_, ?_, ?_⟩ <;> first | assumption | omega)).symm | (symm; rw [Bool.eq_false_iff]; intro h; have h := hm.1 h; first | omega | exact absurd h.2.2.1 (by assumption))

theorem rmay_6 (x : Bool) (n a l : Int) (s : ByteArray) (m : Bool) (hm : m = true ↔ (a = 0 ∧ l = 0 ∧ s.toList = [] ∧ n = 0 ∧ n = 0)) (w : World) :
    Calls Try.prog 47 #[obv 6 x n a l s] w fun e w' => e = Ending.returned (.bool m) ∧ Grown w w' := by
  go_enter Try.func47, Try.ntmps47
  go_wp2
  all_goals
    go_ret
    refine ⟨ret_bool ?_, by (repeat (first | exact Grown.refl _ | assumption | apply Grown.drew | apply Grown.alloc | (refine Grown.setCell ?_ (by simp) _)))⟩
    first | exact (hm.2 (by refine ⟨?_, ?_, ?_, ?_, ?_⟩ <;> first | assumption | omega)).symm | (symm; rw [Bool.eq_false_iff]; intro h; have h := hm.1 h; first | omega | exact absurd h.2.2.1 (by assumption))

theorem rmay_5 (x : Bool) (n a l : Int) (s : ByteArray) (m : Bool) (hm : m = true ↔ (a = 0 ∧ l = 0 ∧ n = 0 ∧ (s.size : Int) ≤ 100)) (w : World) :
    Calls Try.prog 47 #[obv 5 x n a l s] w fun e w' => e = Ending.returned (.bool m) ∧ Grown w w' := by
  go_enter Try.func47, Try.ntmps47
  go_wp2
  all_goals
    go_ret
    refine ⟨ret_bool ?_, by (repeat (first | exact Grown.refl _ | assumption | apply Grown.drew | apply Grown.alloc | (refine Grown.setCell ?_ (by simp) _)))⟩
    first | (exact absurd (‹s.toList = (s.extract 0 100).toList› : s.toList = (s.extract 0 100).toList) (Pl.cut_ne (by assumption))) | exact (hm.2 (by refine ⟨?_, ?_, ?_, ?_⟩ <;> first | assumption | omega)).symm | (symm; rw [Bool.eq_false_iff]; intro h; have h := hm.1 h; omega)

theorem rmay_else (k : Int) (hk : ¬ (k = 1 ∨ k = 2 ∨ k = 3 ∨ k = 4 ∨ k = 5 ∨ k = 6 ∨ k = 7 ∨ k = 8 ∨ k = 9 ∨ k = 10 ∨ k = 11)) (x : Bool) (n a l : Int) (s : ByteArray) (w : World) :
    Calls Try.prog 47 #[obv k x n a l s] w fun e w' => e = Ending.returned (.bool false) ∧ Grown w w' := by
  have k1 : (k == 1) = false := Pl.nek (fun e => hk (by simp [e]))
  have k2 : (k == 2) = false := Pl.nek (fun e => hk (by simp [e]))
  have k3 : (k == 3) = false := Pl.nek (fun e => hk (by simp [e]))
  have k4 : (k == 4) = false := Pl.nek (fun e => hk (by simp [e]))
  have k5 : (k == 5) = false := Pl.nek (fun e => hk (by simp [e]))
  have k6 : (k == 6) = false := Pl.nek (fun e => hk (by simp [e]))
  have k7 : (k == 7) = false := Pl.nek (fun e => hk (by simp [e]))
  have k8 : (k == 8) = false := Pl.nek (fun e => hk (by simp [e]))
  have k9 : (k == 9) = false := Pl.nek (fun e => hk (by simp [e]))
  have k10 : (k == 10) = false := Pl.nek (fun e => hk (by simp [e]))
  have k11 : (k == 11) = false := Pl.nek (fun e => hk (by simp [e]))
  clear hk
  go_enter Try.func47, Try.ntmps47
  go_wp2
  go_ret
  exact ⟨rfl, by (repeat (first | exact Grown.refl _ | assumption | apply Grown.drew | apply Grown.alloc | (refine Grown.setCell ?_ (by simp) _)))⟩

theorem rin_any (v a b : Int) (m : Bool) (hm : m = true ↔ (a ≤ v ∧ v ≤ b)) (w : World) :
    Calls Try.prog 75 #[.int .i64 v, .int .i64 a, .int .i64 b] w fun e w' => e = Ending.returned (.bool m) ∧ w = w' := by
  go_enter Try.func75, Try.ntmps75
  go_wp2
  all_goals
    go_ret
    refine ⟨ret_bool ?_, rfl⟩
    first | exact (hm.2 (by refine ⟨?_, ?_⟩ <;> omega)).symm | (symm; rw [Bool.eq_iff_iff, hm, decide_eq_true_eq]; omega) | (symm; rw [Bool.eq_false_iff]; intro h; have h := hm.1 h; omega)
end Go.Proofs.Ytenmbkngkabonaa
