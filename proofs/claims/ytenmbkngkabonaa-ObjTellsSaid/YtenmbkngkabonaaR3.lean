/- The walks of tympanref10.Number, size, Num and of tympanref3.May, From. -/
import Derived.Test.YtenmbkngkabonaaR2
namespace Go.Proofs.Ytenmbkngkabonaa
set_option linter.unusedVariables false
open Go.RowKit

theorem r3may_any (v : Int) (m : Bool) (hm : m = true ↔ (-1073741823 ≤ v ∧ v ≤ 1073741823)) (W : World) :
    Calls Try.prog 73 #[.int .i64 v] W fun e w' => e = Ending.returned (.bool m) ∧ W = w' := by
  go_enter Try.func73, Try.ntmps73
  go_wp2
  all_goals
    go_ret
    refine ⟨ret_bool ?_, rfl⟩
    first | exact (hm.2 (by refine ⟨?_, ?_⟩ <;> omega)).symm | (symm; rw [Bool.eq_iff_iff, hm, decide_eq_true_eq]; omega) | (symm; rw [Bool.eq_false_iff]; intro h; have h := hm.1 h; omega)

theorem r3held_ok (v : Int) (h : -1073741823 ≤ v ∧ v ≤ 1073741823) (W : World) :
    Calls Try.prog 79 #[.int .i64 v, .bool true] W fun e w' => e = Ending.returned (.tuple #[.int .i64 v, .bool true]) ∧ W = w' := by
  go_enter Try.func79, Try.ntmps79
  go_wp2_with fail
  refine (r3may_any v true ⟨fun _ => h, fun _ => rfl⟩ _).mono ?_
  rintro e w1 ⟨rfl, rfl⟩
  go_wp2
  go_ret2
  exact ⟨rfl, rfl⟩
theorem r3held_no (v : Int) (h : ¬ (-1073741823 ≤ v ∧ v ≤ 1073741823)) (W : World) :
    Calls Try.prog 79 #[.int .i64 v, .bool true] W fun e w' => e = Ending.returned (.tuple #[.int .i64 0, .bool false]) ∧ W = w' := by
  go_enter Try.func79, Try.ntmps79
  go_wp2_with fail
  refine (r3may_any v false ⟨fun h => absurd h (by decide), fun h' => absurd h' h⟩ _).mono ?_
  rintro e w1 ⟨rfl, rfl⟩
  go_wp2
  go_ret2
  exact ⟨rfl, rfl⟩
theorem r3from_ok (v : Int) (h : -16383 ≤ v ∧ v ≤ 16383) (W : World) :
    Calls Try.prog 74 #[.int .i64 v] W fun e w' => e = Ending.returned (.tuple #[.int .i64 (v * 65536), .bool true]) ∧ W = w' := by
  obtain ⟨h1, h2⟩ := h
  have H := Lib.hid (r3held_ok (v * 65536) ⟨by omega, by omega⟩)
  go_enter Try.func74, Try.ntmps74
  go_wp2_with fail
  refine (r3may_any v true ⟨fun _ => ⟨by omega, by omega⟩, fun _ => rfl⟩ _).mono ?_
  rintro e w1 ⟨rfl, rfl⟩
  go_wp2_with fail
  refine (H.out _).mono ?_
  rintro e w1 ⟨rfl, rfl⟩
  go_wp2
  go_ret2
  exact ⟨rfl, rfl⟩
theorem r3from_no (v : Int) (h : ¬ (-16383 ≤ v ∧ v ≤ 16383)) (W : World) :
    Calls Try.prog 74 #[.int .i64 v] W fun e w' => e = Ending.returned (.tuple #[.int .i64 0, .bool false]) ∧ W = w' := by
  by_cases hv : -1073741823 ≤ v ∧ v ≤ 1073741823
  · have H := Lib.hid (r3held_no (v * 65536) (by omega))
    obtain ⟨h1, h2⟩ := hv
    clear h
    go_enter Try.func74, Try.ntmps74
    go_wp2_with fail
    refine (r3may_any v true ⟨fun _ => ⟨by omega, by omega⟩, fun _ => rfl⟩ _).mono ?_
    rintro e w1 ⟨rfl, rfl⟩
    go_wp2_with fail
    refine (H.out _).mono ?_
    rintro e w1 ⟨rfl, rfl⟩
    go_wp2
    go_ret2
    exact ⟨rfl, rfl⟩
  · have H := Lib.hid hv
    clear hv h
    go_enter Try.func74, Try.ntmps74
    go_wp2_with fail
    refine (r3may_any v false ⟨fun h => absurd h (by decide), fun h' => absurd h' H.out⟩ _).mono ?_
    rintro e w1 ⟨rfl, rfl⟩
    go_wp2
    go_ret2
    exact ⟨rfl, rfl⟩

theorem rnumber_34 (k : Int) (hk : k = 3 ∨ k = 4) (x : Bool) (n a l : Int) (s : ByteArray) (m : Bool) (hm : m = true ↔ Pl.may k n a l s) (W : World) :
    Calls Try.prog 69 #[obv k x n a l s] W fun e w' => e = Ending.returned (.bool m) ∧ Grown W w' := by
  have H := Lib.hid (fun W => rmay_any k x n a l s m hm W)
  clear hm
  rcases hk with rfl | rfl
  all_goals
    go_enter Try.func69, Try.ntmps69
    go_wp2_with fail
    refine (H.out _).mono ?_
    rintro e w1 ⟨rfl, g1⟩
    go_wp2
    go_ret
    exact ⟨rfl, grown_trans (by (repeat (first | exact Grown.refl _ | assumption | apply Grown.drew | apply Grown.alloc | (refine Grown.setCell ?_ (by simp) _) | (refine Grown.setCell ?_ (by omega) _)))) g1⟩
theorem rnumber_else (k : Int) (k3 : (k == 3) = false) (k4 : (k == 4) = false) (x : Bool) (n a l : Int) (s : ByteArray) (W : World) :
    Calls Try.prog 69 #[obv k x n a l s] W fun e w' => e = Ending.returned (.bool false) ∧ Grown W w' := by
  go_enter Try.func69, Try.ntmps69
  go_wp2
  go_ret
  exact ⟨rfl, (by (repeat (first | exact Grown.refl _ | assumption | apply Grown.drew | apply Grown.alloc | (refine Grown.setCell ?_ (by simp) _) | (refine Grown.setCell ?_ (by omega) _))))⟩
theorem rnumber_any (k : Int) (x : Bool) (n a l : Int) (s : ByteArray) (m : Bool) (hm : m = true ↔ Pl.num k n a l s) (W : World) :
    Calls Try.prog 69 #[obv k x n a l s] W fun e w' => e = Ending.returned (.bool m) ∧ Grown W w' := by
  by_cases hk : k = 3 ∨ k = 4
  · exact rnumber_34 k hk x n a l s m (hm.trans ⟨fun h => Pl.num_may h, fun h => Pl.may_num h hk⟩) W
  · obtain rfl : m = false := Bool.eq_false_iff.2 fun h => hk (by have := (hm.1 h).1; unfold Pl.isn at this; omega)
    exact rnumber_else k (Pl.nek fun e => hk (.inl e)) (Pl.nek fun e => hk (.inr e)) x n a l s W

theorem rsize_num (k : Int) (x : Bool) (n a l : Int) (s : ByteArray) (h : Pl.isn k n) (W : World) :
    Calls Try.prog 70 #[obv k x n a l s] W fun e w' => e = Ending.returned (.int .i64 (Pl.sz k n)) ∧ Grown W w' := by
  unfold Pl.isn at h
  rcases h with ⟨rfl, h1, h2⟩ | ⟨rfl, h1, h2⟩
  all_goals
    go_enter Try.func70, Try.ntmps70
    go_wp2
    go_ret
    exact ⟨by simp [Pl.sz], (by (repeat (first | exact Grown.refl _ | assumption | apply Grown.drew | apply Grown.alloc | (refine Grown.setCell ?_ (by simp) _) | (refine Grown.setCell ?_ (by omega) _))))⟩
theorem rnum_3 (x : Bool) (n a l : Int) (s : ByteArray) (v : Int) (ok : Bool) (H : Hid (∀ W, Calls Try.prog 74 #[.int .i64 n] W fun e w' => e = Ending.returned (.tuple #[.int .i64 v, .bool ok]) ∧ W = w')) (W : World) :
    Calls Try.prog 46 #[obv 3 x n a l s] W fun e w' => e = Ending.returned (.tuple #[.int .i64 v, .bool ok]) ∧ Grown W w' := by
  go_enter Try.func46, Try.ntmps46
  go_wp2_with fail
  refine (H.out _).mono ?_
  rintro e w1 ⟨rfl, rfl⟩
  go_wp2
  go_ret2
  exact ⟨rfl, (by (repeat (first | exact Grown.refl _ | assumption | apply Grown.drew | apply Grown.alloc | (refine Grown.setCell ?_ (by simp) _) | (refine Grown.setCell ?_ (by omega) _))))⟩
theorem rnum_4 (x : Bool) (n a l : Int) (s : ByteArray) (h : -1073741823 ≤ n ∧ n ≤ 1073741823) (W : World) :
    Calls Try.prog 46 #[obv 4 x n a l s] W fun e w' => e = Ending.returned (.tuple #[.int .i64 n, .bool true]) ∧ Grown W w' := by
  go_enter Try.func46, Try.ntmps46
  go_wp2_with fail
  refine (r3may_any n true ⟨fun _ => h, fun _ => rfl⟩ _).mono ?_
  rintro e w1 ⟨rfl, rfl⟩
  go_wp2
  go_ret2
  exact ⟨rfl, (by (repeat (first | exact Grown.refl _ | assumption | apply Grown.drew | apply Grown.alloc | (refine Grown.setCell ?_ (by simp) _) | (refine Grown.setCell ?_ (by omega) _))))⟩
theorem rnum_4no (x : Bool) (n a l : Int) (s : ByteArray) (h : ¬ (-1073741823 ≤ n ∧ n ≤ 1073741823)) (W : World) :
    Calls Try.prog 46 #[obv 4 x n a l s] W fun e w' => e = Ending.returned (.tuple #[.int .i64 0, .bool false]) ∧ Grown W w' := by
  go_enter Try.func46, Try.ntmps46
  go_wp2_with fail
  refine (r3may_any n false ⟨fun h => absurd h (by decide), fun h' => absurd h' h⟩ _).mono ?_
  rintro e w1 ⟨rfl, rfl⟩
  go_wp2
  go_ret2
  exact ⟨rfl, (by (repeat (first | exact Grown.refl _ | assumption | apply Grown.drew | apply Grown.alloc | (refine Grown.setCell ?_ (by simp) _) | (refine Grown.setCell ?_ (by omega) _))))⟩
theorem rnum_else (k : Int) (k3 : (k == 3) = false) (k4 : (k == 4) = false) (x : Bool) (n a l : Int) (s : ByteArray) (W : World) :
    Calls Try.prog 46 #[obv k x n a l s] W fun e w' => e = Ending.returned (.tuple #[.int .i64 0, .bool false]) ∧ Grown W w' := by
  go_enter Try.func46, Try.ntmps46
  go_wp2
  go_ret2
  exact ⟨rfl, (by (repeat (first | exact Grown.refl _ | assumption | apply Grown.drew | apply Grown.alloc | (refine Grown.setCell ?_ (by simp) _) | (refine Grown.setCell ?_ (by omega) _))))⟩
end Go.Proofs.Ytenmbkngkabonaa
