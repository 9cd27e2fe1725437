/- tympanref10.May, whatever the object (printed by wip/gen_rmay2.py). -/
import Derived.Test.YtenmbkngkabonaaR1
namespace Go.Proofs.Ytenmbkngkabonaa
set_option linter.unusedVariables false
open Go.RowKit

theorem rmay_8_s (x : Bool) (n a l : Int) (s : ByteArray) (h1 : (s.toList == []) = false) (h2 : s.toList.isEmpty = false) (h3 : ¬ s.toList = []) (w : World) :
    Calls Try.prog 47 #[obv 8 x n a l s] w fun e w' => e = Ending.returned (.bool false) ∧ Grown w w' := by
  go_enter Try.func47, Try.ntmps47
  go_wp2_with fail
  go_region
  go_wp2_with fail
  go_ret
  exact ⟨rfl, by (repeat (first | exact Grown.refl _ | assumption | apply Grown.drew | apply Grown.alloc | (refine Grown.setCell ?_ (by simp) _)))⟩

theorem rmay_8_n (x : Bool) (n a l : Int) (s : ByteArray) (h1 : (s.toList == []) = true) (h2 : s.toList.isEmpty = true) (h3 : s.toList = []) (pn : ¬ (0 ≤ n ∧ n ≤ 40000)) (w : World) :
    Calls Try.prog 47 #[obv 8 x n a l s] w fun e w' => e = Ending.returned (.bool false) ∧ Grown w w' := by
  go_enter Try.func47, Try.ntmps47
  go_wp2_with fail
  go_region
  go_wp2_with fail
  refine (rin_any n 0 40000 false ⟨fun h => absurd h (by decide), fun h => absurd h pn⟩ _).mono ?_
  rintro e wn ⟨rfl, rfl⟩
  go_wp2_with fail
  go_ret
  exact ⟨rfl, by (repeat (first | exact Grown.refl _ | assumption | apply Grown.drew | apply Grown.alloc | (refine Grown.setCell ?_ (by simp) _)))⟩

theorem rmay_8_a (x : Bool) (n a l : Int) (s : ByteArray) (h1 : (s.toList == []) = true) (h2 : s.toList.isEmpty = true) (h3 : s.toList = []) (pn : 0 ≤ n ∧ n ≤ 40000) (pa : ¬ (0 ≤ a ∧ a ≤ 40000)) (w : World) :
    Calls Try.prog 47 #[obv 8 x n a l s] w fun e w' => e = Ending.returned (.bool false) ∧ Grown w w' := by
  go_enter Try.func47, Try.ntmps47
  go_wp2_with fail
  go_region
  go_wp2_with fail
  refine (rin_any n 0 40000 true ⟨fun _ => pn, fun _ => rfl⟩ _).mono ?_
  rintro e wn ⟨rfl, rfl⟩
  go_wp2_with fail
  refine (rin_any a 0 40000 false ⟨fun h => absurd h (by decide), fun h => absurd h pa⟩ _).mono ?_
  rintro e wa ⟨rfl, rfl⟩
  go_wp2_with fail
  go_ret
  exact ⟨rfl, by (repeat (first | exact Grown.refl _ | assumption | apply Grown.drew | apply Grown.alloc | (refine Grown.setCell ?_ (by simp) _)))⟩

theorem rmay_8_l (x : Bool) (n a l : Int) (s : ByteArray) (h1 : (s.toList == []) = true) (h2 : s.toList.isEmpty = true) (h3 : s.toList = []) (pn : 0 ≤ n ∧ n ≤ 40000) (pa : 0 ≤ a ∧ a ≤ 40000) (pl : ¬ (0 ≤ l ∧ l ≤ 40000)) (w : World) :
    Calls Try.prog 47 #[obv 8 x n a l s] w fun e w' => e = Ending.returned (.bool false) ∧ Grown w w' := by
  go_enter Try.func47, Try.ntmps47
  go_wp2_with fail
  go_region
  go_wp2_with fail
  refine (rin_any n 0 40000 true ⟨fun _ => pn, fun _ => rfl⟩ _).mono ?_
  rintro e wn ⟨rfl, rfl⟩
  go_wp2_with fail
  refine (rin_any a 0 40000 true ⟨fun _ => pa, fun _ => rfl⟩ _).mono ?_
  rintro e wa ⟨rfl, rfl⟩
  go_wp2_with fail
  refine (rin_any l 0 40000 false ⟨fun h => absurd h (by decide), fun h => absurd h pl⟩ _).mono ?_
  rintro e wl ⟨rfl, rfl⟩
  go_wp2_with fail
  go_ret
  exact ⟨rfl, by (repeat (first | exact Grown.refl _ | assumption | apply Grown.drew | apply Grown.alloc | (refine Grown.setCell ?_ (by simp) _)))⟩

theorem rmay_8_yes (x : Bool) (n a l : Int) (s : ByteArray) (h1 : (s.toList == []) = true) (h2 : s.toList.isEmpty = true) (h3 : s.toList = []) (pn : 0 ≤ n ∧ n ≤ 40000) (pa : 0 ≤ a ∧ a ≤ 40000) (pl : 0 ≤ l ∧ l ≤ 40000) (w : World) :
    Calls Try.prog 47 #[obv 8 x n a l s] w fun e w' => e = Ending.returned (.bool true) ∧ Grown w w' := by
  go_enter Try.func47, Try.ntmps47
  go_wp2_with fail
  go_region
  go_wp2_with fail
  refine (rin_any n 0 40000 true ⟨fun _ => pn, fun _ => rfl⟩ _).mono ?_
  rintro e wn ⟨rfl, rfl⟩
  go_wp2_with fail
  refine (rin_any a 0 40000 true ⟨fun _ => pa, fun _ => rfl⟩ _).mono ?_
  rintro e wa ⟨rfl, rfl⟩
  go_wp2_with fail
  refine (rin_any l 0 40000 true ⟨fun _ => pl, fun _ => rfl⟩ _).mono ?_
  rintro e wl ⟨rfl, rfl⟩
  go_wp2_with fail
  go_ret
  exact ⟨rfl, by (repeat (first | exact Grown.refl _ | assumption | apply Grown.drew | apply Grown.alloc | (refine Grown.setCell ?_ (by simp) _)))⟩

theorem rmay_8 (x : Bool) (n a l : Int) (s : ByteArray) (m : Bool) (hm : m = true ↔ (s.toList = [] ∧ (0 ≤ n ∧ n ≤ 40000) ∧ (0 ≤ a ∧ a ≤ 40000) ∧ 0 ≤ l ∧ l ≤ 40000)) (w : World) :
    Calls Try.prog 47 #[obv 8 x n a l s] w fun e w' => e = Ending.returned (.bool m) ∧ Grown w w' := by
  by_cases hs : s = ⟨#[]⟩
  case neg =>
    obtain rfl : m = false := Bool.eq_false_iff.2 fun h => Pl.bytes_ne hs (hm.1 h).1
    exact rmay_8_s x n a l s (Pl.bytes_ne1 hs) (Pl.bytes_ne2 hs) (Pl.bytes_ne hs) w
  have e := Pl.toList_nil.2 hs
  have e1 : (s.toList == []) = true := by rw [e]; rfl
  have e2 : s.toList.isEmpty = true := by rw [e]; rfl
  by_cases pn : 0 ≤ n ∧ n ≤ 40000
  case neg =>
    obtain rfl : m = false := Bool.eq_false_iff.2 fun h => pn (hm.1 h).2.1
    exact rmay_8_n x n a l s e1 e2 e pn w
  by_cases pa : 0 ≤ a ∧ a ≤ 40000
  case neg =>
    obtain rfl : m = false := Bool.eq_false_iff.2 fun h => pa (hm.1 h).2.2.1
    exact rmay_8_a x n a l s e1 e2 e pn pa w
  by_cases pl : 0 ≤ l ∧ l ≤ 40000
  case neg =>
    obtain rfl : m = false := Bool.eq_false_iff.2 fun h => pl (hm.1 h).2.2.2
    exact rmay_8_l x n a l s e1 e2 e pn pa pl w
  obtain rfl : m = true := hm.2 ⟨e, pn, pa, pl⟩
  exact rmay_8_yes x n a l s e1 e2 e pn pa pl w

theorem rmay_9_s (x : Bool) (n a l : Int) (s : ByteArray) (h1 : (s.toList == []) = false) (h2 : s.toList.isEmpty = false) (h3 : ¬ s.toList = []) (w : World) :
    Calls Try.prog 47 #[obv 9 x n a l s] w fun e w' => e = Ending.returned (.bool false) ∧ Grown w w' := by
  go_enter Try.func47, Try.ntmps47
  go_wp2_with fail
  go_region
  go_wp2_with fail
  go_ret
  exact ⟨rfl, by (repeat (first | exact Grown.refl _ | assumption | apply Grown.drew | apply Grown.alloc | (refine Grown.setCell ?_ (by simp) _)))⟩

theorem rmay_9_n (x : Bool) (n a l : Int) (s : ByteArray) (h1 : (s.toList == []) = true) (h2 : s.toList.isEmpty = true) (h3 : s.toList = []) (pn : ¬ (0 ≤ n ∧ n ≤ 40000)) (w : World) :
    Calls Try.prog 47 #[obv 9 x n a l s] w fun e w' => e = Ending.returned (.bool false) ∧ Grown w w' := by
  go_enter Try.func47, Try.ntmps47
  go_wp2_with fail
  go_region
  go_wp2_with fail
  refine (rin_any n 0 40000 false ⟨fun h => absurd h (by decide), fun h => absurd h pn⟩ _).mono ?_
  rintro e wn ⟨rfl, rfl⟩
  go_wp2_with fail
  go_ret
  exact ⟨rfl, by (repeat (first | exact Grown.refl _ | assumption | apply Grown.drew | apply Grown.alloc | (refine Grown.setCell ?_ (by simp) _)))⟩

theorem rmay_9_a (x : Bool) (n a l : Int) (s : ByteArray) (h1 : (s.toList == []) = true) (h2 : s.toList.isEmpty = true) (h3 : s.toList = []) (pn : 0 ≤ n ∧ n ≤ 40000) (pa : ¬ (0 ≤ a ∧ a ≤ 40000)) (w : World) :
    Calls Try.prog 47 #[obv 9 x n a l s] w fun e w' => e = Ending.returned (.bool false) ∧ Grown w w' := by
  go_enter Try.func47, Try.ntmps47
  go_wp2_with fail
  go_region
  go_wp2_with fail
  refine (rin_any n 0 40000 true ⟨fun _ => pn, fun _ => rfl⟩ _).mono ?_
  rintro e wn ⟨rfl, rfl⟩
  go_wp2_with fail
  refine (rin_any a 0 40000 false ⟨fun h => absurd h (by decide), fun h => absurd h pa⟩ _).mono ?_
  rintro e wa ⟨rfl, rfl⟩
  go_wp2_with fail
  go_ret
  exact ⟨rfl, by (repeat (first | exact Grown.refl _ | assumption | apply Grown.drew | apply Grown.alloc | (refine Grown.setCell ?_ (by simp) _)))⟩

theorem rmay_9_l (x : Bool) (n a l : Int) (s : ByteArray) (h1 : (s.toList == []) = true) (h2 : s.toList.isEmpty = true) (h3 : s.toList = []) (pn : 0 ≤ n ∧ n ≤ 40000) (pa : 0 ≤ a ∧ a ≤ 40000) (pl : ¬ (0 ≤ l ∧ l ≤ 40000)) (w : World) :
    Calls Try.prog 47 #[obv 9 x n a l s] w fun e w' => e = Ending.returned (.bool false) ∧ Grown w w' := by
  go_enter Try.func47, Try.ntmps47
  go_wp2_with fail
  go_region
  go_wp2_with fail
  refine (rin_any n 0 40000 true ⟨fun _ => pn, fun _ => rfl⟩ _).mono ?_
  rintro e wn ⟨rfl, rfl⟩
  go_wp2_with fail
  refine (rin_any a 0 40000 true ⟨fun _ => pa, fun _ => rfl⟩ _).mono ?_
  rintro e wa ⟨rfl, rfl⟩
  go_wp2_with fail
  refine (rin_any l 0 40000 false ⟨fun h => absurd h (by decide), fun h => absurd h pl⟩ _).mono ?_
  rintro e wl ⟨rfl, rfl⟩
  go_wp2_with fail
  go_ret
  exact ⟨rfl, by (repeat (first | exact Grown.refl _ | assumption | apply Grown.drew | apply Grown.alloc | (refine Grown.setCell ?_ (by simp) _)))⟩

theorem rmay_9_yes (x : Bool) (n a l : Int) (s : ByteArray) (h1 : (s.toList == []) = true) (h2 : s.toList.isEmpty = true) (h3 : s.toList = []) (pn : 0 ≤ n ∧ n ≤ 40000) (pa : 0 ≤ a ∧ a ≤ 40000) (pl : 0 ≤ l ∧ l ≤ 40000) (w : World) :
    Calls Try.prog 47 #[obv 9 x n a l s] w fun e w' => e = Ending.returned (.bool true) ∧ Grown w w' := by
  go_enter Try.func47, Try.ntmps47
  go_wp2_with fail
  go_region
  go_wp2_with fail
  refine (rin_any n 0 40000 true ⟨fun _ => pn, fun _ => rfl⟩ _).mono ?_
  rintro e wn ⟨rfl, rfl⟩
  go_wp2_with fail
  refine (rin_any a 0 40000 true ⟨fun _ => pa, fun _ => rfl⟩ _).mono ?_
  rintro e wa ⟨rfl, rfl⟩
  go_wp2_with fail
  refine (rin_any l 0 40000 true ⟨fun _ => pl, fun _ => rfl⟩ _).mono ?_
  rintro e wl ⟨rfl, rfl⟩
  go_wp2_with fail
  go_ret
  exact ⟨rfl, by (repeat (first | exact Grown.refl _ | assumption | apply Grown.drew | apply Grown.alloc | (refine Grown.setCell ?_ (by simp) _)))⟩

theorem rmay_9 (x : Bool) (n a l : Int) (s : ByteArray) (m : Bool) (hm : m = true ↔ (s.toList = [] ∧ (0 ≤ n ∧ n ≤ 40000) ∧ (0 ≤ a ∧ a ≤ 40000) ∧ 0 ≤ l ∧ l ≤ 40000)) (w : World) :
    Calls Try.prog 47 #[obv 9 x n a l s] w fun e w' => e = Ending.returned (.bool m) ∧ Grown w w' := by
  by_cases hs : s = ⟨#[]⟩
  case neg =>
    obtain rfl : m = false := Bool.eq_false_iff.2 fun h => Pl.bytes_ne hs (hm.1 h).1
    exact rmay_9_s x n a l s (Pl.bytes_ne1 hs) (Pl.bytes_ne2 hs) (Pl.bytes_ne hs) w
  have e := Pl.toList_nil.2 hs
  have e1 : (s.toList == []) = true := by rw [e]; rfl
  have e2 : s.toList.isEmpty = true := by rw [e]; rfl
  by_cases pn : 0 ≤ n ∧ n ≤ 40000
  case neg =>
    obtain rfl : m = false := Bool.eq_false_iff.2 fun h => pn (hm.1 h).2.1
    exact rmay_9_n x n a l s e1 e2 e pn w
  by_cases pa : 0 ≤ a ∧ a ≤ 40000
  case neg =>
    obtain rfl : m = false := Bool.eq_false_iff.2 fun h => pa (hm.1 h).2.2.1
    exact rmay_9_a x n a l s e1 e2 e pn pa w
  by_cases pl : 0 ≤ l ∧ l ≤ 40000
  case neg =>
    obtain rfl : m = false := Bool.eq_false_iff.2 fun h => pl (hm.1 h).2.2.2
    exact rmay_9_l x n a l s e1 e2 e pn pa pl w
  obtain rfl : m = true := hm.2 ⟨e, pn, pa, pl⟩
  exact rmay_9_yes x n a l s e1 e2 e pn pa pl w

theorem rmay_any (k : Int) (x : Bool) (n a l : Int) (s : ByteArray) (m : Bool) (hm : m = true ↔ Pl.may k n a l s) (w : World) :
    Calls Try.prog 47 #[obv k x n a l s] w fun e w' => e = Ending.returned (.bool m) ∧ Grown w w' := by
  have tu : s = ⟨#[]⟩ ↔ (s.size : Int) = 0 := ⟨fun h => by rw [h]; rfl, fun h => by
    obtain ⟨d⟩ := s
    have h : d.size = 0 := by simpa [ByteArray.size] using h
    rw [Array.eq_empty_of_size_eq_zero h]⟩
  have ts := Pl.toList_nil.trans tu
  unfold Pl.may Pl.bare at hm
  rw [tu] at hm
  generalize hz : (s.size : Int) = z at *
  by_cases hk : k = 1 ∨ k = 2 ∨ k = 3 ∨ k = 4 ∨ k = 5 ∨ k = 6 ∨ k = 7 ∨ k = 8 ∨ k = 9 ∨ k = 10 ∨ k = 11
  · rcases hk with rfl | rfl | rfl | rfl | rfl | rfl | rfl | rfl | rfl | rfl | rfl
    · exact rmay_1 x n a l s m (by rw [ts]; exact hm.trans ⟨fun h => by omega, fun h => by omega⟩) w
    · exact rmay_2 x n a l s m (by rw [ts]; exact hm.trans ⟨fun h => by omega, fun h => by omega⟩) w
    · exact rmay_3 x n a l s m (by rw [ts]; exact hm.trans ⟨fun h => by omega, fun h => by omega⟩) w
    · exact rmay_4 x n a l s m (by rw [ts]; exact hm.trans ⟨fun h => by omega, fun h => by omega⟩) w
    · exact rmay_5 x n a l s m (by rw [hz]; exact hm.trans ⟨fun h => by omega, fun h => by omega⟩) w
    · exact rmay_6 x n a l s m (by rw [ts]; exact hm.trans ⟨fun h => by omega, fun h => by omega⟩) w
    · exact rmay_7 x n a l s m (by rw [ts]; exact hm.trans ⟨fun h => by omega, fun h => by omega⟩) w
    · exact rmay_8 x n a l s m (by rw [ts]; exact hm.trans ⟨fun h => by omega, fun h => by omega⟩) w
    · exact rmay_9 x n a l s m (by rw [ts]; exact hm.trans ⟨fun h => by omega, fun h => by omega⟩) w
    · exact rmay_10 x n a l s m (by rw [ts]; exact hm.trans ⟨fun h => by omega, fun h => by omega⟩) w
    · exact rmay_11 x n a l s m (by rw [ts]; exact hm.trans ⟨fun h => by omega, fun h => by omega⟩) w
  · obtain rfl : m = false := Bool.eq_false_iff.2 fun h => by have := hm.1 h; omega
    exact rmay_else k hk x n a l s w
end Go.Proofs.Ytenmbkngkabonaa
