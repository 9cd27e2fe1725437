/- Plain facts on lists that go round. -/
import Derived.Test.YtenmbkngkabonaaT17
namespace Go.Proofs.Ytenmbkngkabonaa
set_option linter.unusedVariables false
open Go.RowKit

theorem Pl.rot_split (A D : List Pl.Ob) (k : Nat) (hD : D.length = k) (j : Int) : Pl.rot (A ++ D) k j = A ++ (D.drop (k - (j % (k : Int)).toNat) ++ D.take (k - (j % (k : Int)).toNat)) := by
  have hl : (A ++ D).length - k = A.length := by rw [List.length_append]; omega
  rw [Pl.rot, hl, List.take_left, List.drop_left]
/-- there and back -/
theorem Pl.rot_back (L : List Pl.Ob) (k : Nat) (hk : k ≤ L.length) (j : Int) : Pl.rot (Pl.rot L k j) k (-j) = L := by
  obtain ⟨A, D, rfl, hD⟩ : ∃ A D, L = A ++ D ∧ D.length = k := ⟨L.take (L.length - k), L.drop (L.length - k), (List.take_append_drop _ _).symm, by rw [List.length_drop]; omega⟩
  rcases Nat.eq_zero_or_pos k with rfl | hpos
  · rw [Pl.rot_zero, Pl.rot_zero]
  have hr0 := Int.emod_nonneg j (show (k : Int) ≠ 0 by omega)
  have hr1 := Int.emod_lt_of_pos j (show (0 : Int) < k by omega)
  obtain ⟨r, hr⟩ : ∃ r : Nat, j % (k : Int) = (r : Int) := ⟨(j % (k : Int)).toNat, by omega⟩
  have hrk : r < k := by omega
  rw [Pl.rot_split A D k hD j, hr, Int.toNat_natCast, Pl.rot_split _ _ k (by simp [hD])]
  congr 1
  have hn : (-j) % (k : Int) = ((if r = 0 then 0 else k - r : Nat) : Int) := by
    have h1 : (-j) % (k : Int) = (-(r : Int)) % (k : Int) := by
      rw [← hr]
      conv => lhs; rw [← Int.emod_add_mul_ediv j k]
      rw [Int.neg_add, ← Int.mul_neg, Int.add_mul_emod_self_left]
    rw [h1]
    by_cases h0 : r = 0
    · subst h0; simp
    · rw [if_neg h0, ← Int.add_emod_right, Int.emod_eq_of_lt (by omega) (by omega)]
      omega
  rw [hn, Int.toNat_natCast]
  by_cases h0 : r = 0
  · subst h0
    simp [← hD]
  · have h2 : k - (k - r) = r := by omega
    rw [if_neg h0, h2, List.drop_left' (by rw [List.length_drop]; omega), List.take_left' (by rw [List.length_drop]; omega), List.take_append_drop]
/-- all the way round -/
theorem Pl.rot_whole (L : List Pl.Ob) (k : Nat) (hk : k ≤ L.length) (c : Int) : Pl.rot L k (c * (k : Int)) = L := by
  obtain ⟨A, D, rfl, hD⟩ : ∃ A D, L = A ++ D ∧ D.length = k := ⟨L.take (L.length - k), L.drop (L.length - k), (List.take_append_drop _ _).symm, by rw [List.length_drop]; omega⟩
  rw [Pl.rot_split A D k hD, Int.mul_emod_left]
  simp [← hD]
theorem Pl.nums_at (b : Int) (k i : Nat) (hi : i < k) : (Pl.nums b k)[i]? = some (Pl.io (b + (i : Int))) := by
  rw [Pl.nums, List.getElem?_map, List.getElem?_range hi]
  rfl
theorem Pl.app_at (A D : List Pl.Ob) (x : Nat) : (A ++ D)[A.length + x]? = D[x]? := by
  rw [List.getElem?_append_right (by omega), Nat.add_sub_cancel_left]
/-- each goes by so many places -/
theorem Pl.rot_at (L : List Pl.Ob) (k : Nat) (hk : k ≤ L.length) (j : Int) (i : Nat) (hi : i < L.length) :
    (Pl.rot L k j)[i]? = L[if i < L.length - k then i else L.length - k + (((i : Int) - ((L.length - k : Nat) : Int) - j) % (k : Int)).toNat]? := by
  obtain ⟨A, D, rfl, hD⟩ : ∃ A D, L = A ++ D ∧ D.length = k := ⟨L.take (L.length - k), L.drop (L.length - k), (List.take_append_drop _ _).symm, by rw [List.length_drop]; omega⟩
  have hl : (A ++ D).length - k = A.length := by rw [List.length_append]; omega
  rw [Pl.rot_split A D k hD, hl]
  by_cases h : i < A.length
  · rw [if_pos h, List.getElem?_append_left h, List.getElem?_append_left h]
  · rw [if_neg h]
    rw [List.length_append] at hi
    obtain ⟨i', rfl⟩ : ∃ i', i = A.length + i' := ⟨i - A.length, by omega⟩
    rw [Pl.app_at, Pl.app_at]
    have hr0 := Int.emod_nonneg j (show (k : Int) ≠ 0 by omega)
    have hr1 := Int.emod_lt_of_pos j (show (0 : Int) < k by omega)
    obtain ⟨r, hr⟩ : ∃ r : Nat, j % (k : Int) = (r : Int) := ⟨(j % (k : Int)).toNat, by omega⟩
    have hrk : r < k := by omega
    have hm : (((A.length + i' : Nat) : Int) - (A.length : Int) - j) % (k : Int) = ((if i' < r then i' + k - r else i' - r : Nat) : Int) := by
      have h1 : (((A.length + i' : Nat) : Int) - (A.length : Int) - j) % (k : Int) = ((i' : Int) - (r : Int)) % (k : Int) := by
        have e1 : (((A.length + i' : Nat) : Int) - (A.length : Int) - j) = ((i' : Int) - (r : Int)) + (k : Int) * (-(j / (k : Int))) := by
          have := Int.emod_add_mul_ediv j k
          rw [Int.mul_neg, ← hr]
          omega
        rw [e1, Int.add_mul_emod_self_left]
      rw [h1]
      by_cases h0 : i' < r
      · rw [if_pos h0, ← Int.add_emod_right, Int.emod_eq_of_lt (by omega) (by omega)]
        omega
      · rw [if_neg h0, Int.emod_eq_of_lt (by omega) (by omega)]
        omega
    rw [hm, hr, Int.toNat_natCast, Int.toNat_natCast]
    by_cases h0 : i' < r
    · rw [if_pos h0, List.getElem?_append_left (by rw [List.length_drop]; omega), List.getElem?_drop]
      congr 1; omega
    · rw [if_neg h0, List.getElem?_append_right (by rw [List.length_drop]; omega), List.length_drop, List.getElem?_take_of_lt (by omega)]
      congr 1; omega
end Go.Proofs.Ytenmbkngkabonaa
