/- The walks of package obj at numbers: size, numbers, Less, Same, Num, Type. -/
import Derived.Test.YtenmbkngkabonaaO2
import Derived.Test.YtenmbkngkabonaaF1
namespace Go.Proofs.Ytenmbkngkabonaa
set_option linter.unusedVariables false
open Go.RowKit

/-- a number that may be, and what it stands for -/
def Pl.isn (k n : Int) : Prop := (k = 3 ∧ -2147483647 ≤ n ∧ n ≤ 2147483647) ∨ (k = 4 ∧ -1073741823 ≤ n ∧ n ≤ 1073741823)
def Pl.sz (k n : Int) : Int := if k = 3 then n * 65536 else n
theorem Pl.sz_bd {k n : Int} (h : Pl.isn k n) : -140737488289792 ≤ Pl.sz k n ∧ Pl.sz k n ≤ 140737488289792 := by
  unfold Pl.isn at h; unfold Pl.sz; split <;> omega


theorem size_num (k : Int) (x : Bool) (n : Int) (h : Pl.isn k n) (w : World) :
    Calls Try.prog 76 #[obv k x n 0 0 ⟨#[]⟩] w fun e w' => e = Ending.returned (.tuple #[.int .i64 (Pl.sz k n), .bool true]) ∧ Grown w w' := by
  have hs : Hid (Pl.sz k n = if k = 3 then n * 65536 else n) := Lib.hid rfl
  generalize Pl.sz k n = z at *
  rcases h with ⟨rfl, h1, h2⟩ | ⟨rfl, h1, h2⟩
  · have hs := hs.out
    rw [if_pos rfl] at hs
    subst hs
    go_enter Try.func76, Try.ntmps76
    go_wp2_with fail
    refine (may_int_yes x n h1 h2 _).mono ?_
    rintro e w1 ⟨rfl, g1⟩
    obtain ⟨c0, c1, c2, c3, c4, c5, gw⟩ : ObS w w.heap.size 3 x n 0 0 ⟨#[]⟩ w1 := ObS.grow (by exact ⟨by simp [go_sem], by simp [go_sem], by simp [go_sem], by simp [go_sem], by simp [go_sem], by simp [go_sem], by (repeat (first | exact Grown.refl _ | assumption | apply Grown.drew | apply Grown.alloc))⟩) g1
    clear g1
    go_wp2
    go_ret2
    exact ⟨rfl, gw⟩
  · have hs := hs.out
    rw [if_neg (by omega)] at hs
    subst hs
    go_enter Try.func76, Try.ntmps76
    go_wp2_with fail
    refine (may_fix_yes x z h1 h2 _).mono ?_
    rintro e w1 ⟨rfl, g1⟩
    obtain ⟨c0, c1, c2, c3, c4, c5, gw⟩ : ObS w w.heap.size 4 x z 0 0 ⟨#[]⟩ w1 := ObS.grow (by exact ⟨by simp [go_sem], by simp [go_sem], by simp [go_sem], by simp [go_sem], by simp [go_sem], by simp [go_sem], by (repeat (first | exact Grown.refl _ | assumption | apply Grown.drew | apply Grown.alloc))⟩) g1
    clear g1
    go_wp2
    go_ret2
    exact ⟨rfl, gw⟩

theorem numbers_num (k : Int) (x : Bool) (n : Int) (h : Pl.isn k n) (k' : Int) (x' : Bool) (n' : Int) (h' : Pl.isn k' n') (w : World) :
    Calls Try.prog 66 #[obv k x n 0 0 ⟨#[]⟩, obv k' x' n' 0 0 ⟨#[]⟩] w fun e w' => e = Ending.returned (.tuple #[.int .i64 (Pl.sz k n), .int .i64 (Pl.sz k' n'), .bool true]) ∧ Grown w w' := by
  go_enter Try.func66, Try.ntmps66
  go_wp2_with fail
  refine (size_num k x n h _).mono ?_
  rintro e w1 ⟨rfl, g1⟩
  obtain ⟨c0, c1, c2, c3, c4, c5, gw⟩ : ObS w (w.heap.size + 1) k' x' n' 0 0 ⟨#[]⟩ w1 := ObS.grow (by exact ⟨by simp [go_sem], by simp [go_sem], by simp [go_sem], by simp [go_sem], by simp [go_sem], by simp [go_sem], by (repeat (first | exact Grown.refl _ | assumption | apply Grown.drew | apply Grown.alloc))⟩) g1
  clear g1
  go_wp2_with fail
  refine (size_num k' x' n' h' _).mono ?_
  rintro e w2 ⟨rfl, g2⟩
  go_wp2
  exact bodyPost_ret (v := .tuple #[.int .i64 (Pl.sz k n), .int .i64 (Pl.sz k' n'), .bool true]) (by simp [results, Try.results66, go_sem]) rfl ⟨rfl, grown_trans gw g2⟩

theorem less_num (k : Int) (x : Bool) (n : Int) (h : Pl.isn k n) (k' : Int) (x' : Bool) (n' : Int) (h' : Pl.isn k' n') (w : World) :
    Calls Try.prog 33 #[obv k x n 0 0 ⟨#[]⟩, obv k' x' n' 0 0 ⟨#[]⟩] w fun e w' => e = Ending.returned (.tuple #[.bool (decide (Pl.sz k n < Pl.sz k' n')), .bool true]) ∧ Grown w w' := by
  go_enter Try.func33, Try.ntmps33
  go_wp2_with fail
  refine (numbers_num k x n h k' x' n' h' _).mono ?_
  rintro e w1 ⟨rfl, g1⟩
  go_wp2
  go_ret2
  exact ⟨rfl, grown_trans (by (repeat (first | exact Grown.refl _ | assumption | apply Grown.drew | apply Grown.alloc))) g1⟩

theorem same_num (k : Int) (x : Bool) (n : Int) (h : Pl.isn k n) (k' : Int) (x' : Bool) (n' : Int) (h' : Pl.isn k' n') (w : World) :
    Calls Try.prog 34 #[obv k x n 0 0 ⟨#[]⟩, obv k' x' n' 0 0 ⟨#[]⟩] w fun e w' => e = Ending.returned (.bool (Pl.sz k n == Pl.sz k' n')) ∧ Grown w w' := by
  go_enter Try.func34, Try.ntmps34
  go_wp2_with fail
  refine (numbers_num k x n h k' x' n' h' _).mono ?_
  rintro e w1 ⟨rfl, g1⟩
  go_wp2
  go_ret
  exact ⟨rfl, grown_trans (by (repeat (first | exact Grown.refl _ | assumption | apply Grown.drew | apply Grown.alloc))) g1⟩

theorem num_int (x : Bool) (n : Int) (h : -16383 ≤ n ∧ n ≤ 16383) (w : World) :
    Calls Try.prog 45 #[obv 3 x n 0 0 ⟨#[]⟩] w fun e w' => e = Ending.returned (.tuple #[.int .i64 (n * 65536), .bool true]) ∧ Grown w w' := by
  go_enter Try.func45, Try.ntmps45
  go_wp2_with fail
  refine (ffrom_ok n h _).mono ?_
  rintro e w1 ⟨rfl, rfl⟩
  go_wp2
  go_ret2
  exact ⟨rfl, by (repeat (first | exact Grown.refl _ | assumption | apply Grown.drew | apply Grown.alloc))⟩
theorem num_fix (x : Bool) (n : Int) (h : Pl.fx n) (w : World) :
    Calls Try.prog 45 #[obv 4 x n 0 0 ⟨#[]⟩] w fun e w' => e = Ending.returned (.tuple #[.int .i64 n, .bool true]) ∧ Grown w w' := by
  have hc := Lib.hid (fun W => fadd_ok n 0 h (by unfold Pl.fx; omega) (by rw [Int.add_zero]; exact h) W)
  rw [Int.add_zero] at hc
  go_enter Try.func45, Try.ntmps45
  go_wp2_with fail
  refine (hc.out _).mono ?_
  rintro e w1 ⟨rfl, g1⟩
  go_wp2
  go_ret2
  exact ⟨rfl, grown_trans (by (repeat (first | exact Grown.refl _ | assumption | apply Grown.drew | apply Grown.alloc))) g1⟩
theorem type_fix (x : Bool) (n a l : Int) (s : ByteArray) (w : World) :
    Calls Try.prog 36 #[obv 4 x n a l s] w fun e w' => e = Ending.returned (.string ⟨#[102, 105, 120, 116, 121, 112, 101]⟩) ∧ Grown w w' := by
  go_enter Try.func36, Try.ntmps36
  go_wp2
  go_ret
  exact ⟨rfl, by (repeat (first | exact Grown.refl _ | assumption | apply Grown.drew | apply Grown.alloc))⟩
theorem known_yes (w : World) : Calls Try.prog 31 #[] w fun e w' => e = Ending.returned (.bool true) ∧ Grown w w' := by
  have CL := Lib.hid (fun W => less_num 3 false 1 (by unfold Pl.isn; omega) 4 false 65537 (by unfold Pl.isn; omega) W)
  rw [show decide (Pl.sz 3 1 < Pl.sz 4 65537) = true from by decide] at CL
  have CS := Lib.hid (fun W => same_num 3 false 1 (by unfold Pl.isn; omega) 4 false 65536 (by unfold Pl.isn; omega) W)
  rw [show (Pl.sz 3 1 == Pl.sz 4 65536) = true from by decide] at CS
  go_enter Try.func31, Try.ntmps31
  go_wp2_with fail
  refine (CL.out _).mono ?_
  rintro e w1 ⟨rfl, g1⟩
  have hA : ObS w w.heap.size 3 false 1 0 0 ⟨#[]⟩ w1 := ObS.grow (by exact ⟨by simp [go_sem], by simp [go_sem], by simp [go_sem], by simp [go_sem], by simp [go_sem], by simp [go_sem], by (repeat (first | exact Grown.refl _ | assumption | apply Grown.drew | apply Grown.alloc))⟩) g1
  have hB : ObS w (w.heap.size + 1) 4 false 65536 0 0 ⟨#[]⟩ w1 := ObS.grow (by exact ⟨by simp [go_sem], by simp [go_sem], by simp [go_sem], by simp [go_sem], by simp [go_sem], by simp [go_sem], by (repeat (first | exact Grown.refl _ | assumption | apply Grown.drew | apply Grown.alloc))⟩) g1
  clear g1
  obtain ⟨a0, a1, a2, a3, a4, a5, ga⟩ := id hA
  obtain ⟨b0, b1, b2, b3, b4, b5, gb⟩ := id hB
  go_wp2_with fail
  refine (CS.out _).mono ?_
  rintro e w2 ⟨rfl, g2⟩
  clear a0 a1 a2 a3 a4 a5 ga b0 b1 b2 b3 b4 b5 gb
  replace hA := hA.grow g2
  replace hB := hB.grow g2
  obtain ⟨a0, a1, a2, a3, a4, a5, ga⟩ := id hA
  obtain ⟨b0, b1, b2, b3, b4, b5, gb⟩ := id hB
  go_wp2_with fail
  refine (may_int_yes false 1 (by omega) (by omega) _).mono ?_
  rintro e w3 ⟨rfl, g3⟩
  clear a0 a1 a2 a3 a4 a5 ga b0 b1 b2 b3 b4 b5 gb
  replace hB := hB.grow g3
  obtain ⟨b0, b1, b2, b3, b4, b5, gb⟩ := id hB
  go_wp2_with fail
  refine (type_fix false 65536 0 0 ⟨#[]⟩ _).mono ?_
  rintro e w4 ⟨rfl, g4⟩
  go_wp2
  go_ret
  exact ⟨ret_bool (by first | rfl | decide), grown_trans hB.2.2.2.2.2.2 g4⟩
end Go.Proofs.Ytenmbkngkabonaa
