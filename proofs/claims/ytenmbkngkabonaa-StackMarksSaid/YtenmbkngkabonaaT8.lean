/- Roll of any number within; Items, Clear, Pop, tympanhelp.Same of rows of objects. -/
import Derived.Test.YtenmbkngkabonaaT7
namespace Go.Proofs.Ytenmbkngkabonaa
set_option linter.unusedVariables false
open Go.RowKit

/-- the top n go round by j -/
def Pl.rot (L : List Pl.Ob) (n : Nat) (j : Int) : List Pl.Ob :=
  L.take (L.length - n) ++ ((L.drop (L.length - n)).drop (n - (j % (n : Int)).toNat) ++ (L.drop (L.length - n)).take (n - (j % (n : Int)).toNat))
theorem Pl.rot_zero (L : List Pl.Ob) (j : Int) : Pl.rot L 0 j = L := by
  simp [Pl.rot]
theorem Pl.rot_len (L : List Pl.Ob) (n : Nat) (j : Int) (hn : n ≤ L.length) : (Pl.rot L n j).length = L.length := by
  simp [Pl.rot]; omega

set_option maxRecDepth 100000 in
theorem roll_none (base p : Nat) (v : Value) (L : List Pl.Ob) (hlen : L.length ≤ 300) (j : Int) (W : World) (hS : StkV base p v L W) :
    Calls Try.prog 27 #[.pointer (some ⟨p, 0, none⟩), .int .i64 0, .int .i64 j] W fun e w' => e = .returned (.int .i64 0) ∧ Grown W w' := by
  have CT := Lib.hid (top_zero base p v L hlen W hS)
  clear hS
  go_enter Try.func27, Try.ntmps27
  go_wp2_with fail
  refine CT.out.mono ?_
  rintro e w1 ⟨⟨ao, rfl⟩, g1⟩
  go_wp2_with fail
  go_ret
  exact ⟨rfl, g1⟩
set_option maxRecDepth 100000 in
theorem roll_low (base p : Nat) (v : Value) (L : List Pl.Ob) (n : Int) (hn : n < 0) (j : Int) (W : World) (hS : StkV base p v L W) :
    Calls Try.prog 27 #[.pointer (some ⟨p, 0, none⟩), .int .i64 n, .int .i64 j] W fun e w' => e = .returned (.int .i64 2) ∧ Grown W w' := by
  have CT := Lib.hid (top_low base p v L n hn W hS)
  clear hS
  go_enter Try.func27, Try.ntmps27
  go_wp2_with fail
  refine CT.out.mono ?_
  rintro e w1 ⟨rfl, g1⟩
  go_wp2_with fail
  go_ret
  exact ⟨rfl, g1⟩
set_option maxRecDepth 100000 in
theorem roll_under (base p : Nat) (v : Value) (L : List Pl.Ob) (n : Int) (hn : (L.length : Int) < n) (j : Int) (W : World) (hS : StkV base p v L W) :
    Calls Try.prog 27 #[.pointer (some ⟨p, 0, none⟩), .int .i64 n, .int .i64 j] W fun e w' => e = .returned (.int .i64 7) ∧ Grown W w' := by
  have CT := Lib.hid (top_under base p v L n hn W hS)
  clear hS
  go_enter Try.func27, Try.ntmps27
  go_wp2_with fail
  refine CT.out.mono ?_
  rintro e w1 ⟨rfl, g1⟩
  go_wp2_with fail
  go_ret
  exact ⟨rfl, g1⟩

theorem roll_ok (base p : Nat) (v : Value) (L : List Pl.Ob) (n : Nat) (j : Int) (hn : n ≤ L.length) (hlen : L.length ≤ 300) (W : World) (hS : StkV base p v L W) :
    Calls Try.prog 27 #[.pointer (some ⟨p, 0, none⟩), .int .i64 (n : Int), .int .i64 j] W fun e w' => e = .returned (.int .i64 0) ∧ StkV base p v (Pl.rot L n j) w' ∧ Fr (fun c => v.ownBlock = some c) W w' := by
  rcases Nat.eq_zero_or_pos n with rfl | hpos
  · refine (roll_none base p v L hlen j W hS).mono ?_
    rintro e w' ⟨rfl, g⟩
    rw [Pl.rot_zero]
    exact ⟨rfl, hS.fr (P := fun _ => False) (Fr.of_grown _ g) (fun f => f) (fun _ _ f => f), Fr.of_grown _ g⟩
  · obtain ⟨o, ho⟩ : ∃ o, L[0]? = some o := ⟨_, List.getElem?_eq_getElem (by omega)⟩
    obtain ⟨g, cap, rfl, hcap, _⟩ := hS.at 0 o ho
    have hA : (L.take (L.length - n)).length = L.length - n := by simp
    have hR : (L.drop (L.length - n)).length = n := by simp; omega
    have hk0 := Int.emod_nonneg j (show (n : Int) ≠ 0 by omega)
    have hk1 := Int.emod_lt_of_pos j (show (0 : Int) < n by omega)
    have hte : (0 ≤ j.tmod n ∧ j.tmod n = j % n) ∨ (j.tmod n < 0 ∧ j.tmod n + n = j % n ∧ 0 < j % n) := by
      rcases Int.lt_or_le j 0 with hj | hj
      · have e1 : j.tmod n = -((-j) % n) := by
          have := Int.neg_tmod (-j) n
          rw [Int.neg_neg] at this
          rw [this, Int.tmod_eq_emod_of_nonneg (by omega)]
        have h0 := Int.emod_nonneg (-j) (show (n : Int) ≠ 0 by omega)
        have h1 := Int.emod_lt_of_pos (-j) (show (0 : Int) < n by omega)
        by_cases hz : (-j) % n = 0
        · left
          refine ⟨by omega, ?_⟩
          rw [e1, hz]
          have : (n : Int) ∣ j := by
            have := Int.dvd_of_emod_eq_zero hz
            exact Int.dvd_neg.1 this
          rw [Int.emod_eq_zero_of_dvd this]; rfl
        · right
          refine ⟨by omega, ?_⟩
          suffices j.tmod n + n = j % n by omega
          obtain ⟨q, hq⟩ : ∃ q : Int, j = -((-j) % n) + n * q := ⟨-((-j) / n), by
            have h3 := Int.emod_add_mul_ediv (-j) n
            have h4 : (n : Int) * (-((-j) / n)) = -(n * ((-j) / n)) := Int.mul_neg _ _
            omega⟩
          rw [e1]
          generalize (-j) % (n : Int) = r at *
          rw [hq, Int.add_mul_emod_self_left, ← Int.add_emod_right, Int.emod_eq_of_lt (by omega) (by omega)]
      · left
        rw [Int.tmod_eq_emod_of_nonneg hj]
        exact ⟨hk0, rfl⟩
    have hLs : L = L.take (L.length - n) ++ L.drop (L.length - n) := (List.take_append_drop _ _).symm
    by_cases hz : j % (n : Int) = 0
    · have hS' : StkV base p (.slice (some ⟨g, 0, none⟩) L.length cap) (L.take (L.length - n) ++ L.drop (L.length - n)) W := by rw [← hLs]; exact hS
      refine (roll_whole base p g cap _ _ (L.length - n) n L.length j hA hR hpos (by omega) hlen (by omega) W hS').mono ?_
      rintro e w' ⟨rfl, h2, h3⟩
      have hr : Pl.rot L n j = L.take (L.length - n) ++ L.drop (L.length - n) := by
        unfold Pl.rot
        rw [hz, Int.toNat_zero, Nat.sub_zero, List.drop_of_length_le (Nat.le_of_eq hR), List.take_of_length_le (Nat.le_of_eq hR), List.nil_append]
      rw [hr]
      exact ⟨rfl, h2, ⟨h3.1, h3.2.1, h3.2.2.1, fun c hc hp => h3.2.2.2 c hc (fun q => hp (by rw [q]; rfl))⟩⟩
    · have hRs : L.drop (L.length - n) = (L.drop (L.length - n)).take (n - (j % (n : Int)).toNat) ++ (L.drop (L.length - n)).drop (n - (j % (n : Int)).toNat) := (List.take_append_drop _ _).symm
      have hS' : StkV base p (.slice (some ⟨g, 0, none⟩) L.length cap) (L.take (L.length - n) ++ ((L.drop (L.length - n)).take (n - (j % (n : Int)).toNat) ++ (L.drop (L.length - n)).drop (n - (j % (n : Int)).toNat))) W := by rw [← hRs, ← hLs]; exact hS
      refine (roll_core base p g cap _ _ _ (L.length - n) (n - (j % (n : Int)).toNat) (j % (n : Int)).toNat n L.length j hA (by rw [List.length_take, hR]; omega) (by rw [List.length_drop, hR]; omega) (by omega) (by omega) (by omega) (by omega) hlen (by omega) (by omega) W hS').mono ?_
      rintro e w' ⟨rfl, h2, h3⟩
      exact ⟨rfl, h2, ⟨h3.1, h3.2.1, h3.2.2.1, fun c hc hp => h3.2.2.2 c hc (fun q => hp (by rw [q]; rfl))⟩⟩
end Go.Proofs.Ytenmbkngkabonaa
