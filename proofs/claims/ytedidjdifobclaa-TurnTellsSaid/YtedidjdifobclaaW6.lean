/- The walks of package root: Floor, Ceil, sign, may, Sign. -/
import Derived.Test.YtedidjdifobclaaW1
import Derived.Test.YtedidjdifobclaaPlRoot
namespace Go.Proofs.Ytedidjdifobclaa
set_option linter.unusedVariables false
open Go.RowKit

theorem root_floor (n : Int) (hn : 0 ≤ n ∧ n ≤ 18446744073709551615) (w : World) :
    Calls Try.prog 38 #[.int .u64 n] w fun e w' => e = .returned (.int .u64 (Pl.root n)) ∧ w = w' := by
  go_enter Try.func38, Try.ntmps38
  go_wp2
  go_loop [3, 6] (fun r i => ∃ k : Nat, k ≤ 32 ∧ i = .int .i64 (k : Int) ∧ r = .int .u64 (Pl.rootTo n k)) (fun _ i => (32 - intOf i).toNat)
  case atStart => exact ⟨0, by omega, rfl, rfl⟩
  case round =>
    obtain ⟨k, hk, rfl, rfl⟩ := hrel
    by_cases hlt : k < 32
    · have hb := Pl.rootTo_bd n hn.1 (by omega) k (by omega)
      have hw := Pl.pow_lt64 (31 - k) (by omega)
      have he : (31 - (k : Int)).toNat = 31 - k := by omega
      have hor : bits .or .u64 (Pl.rootTo n k) (2 ^ (31 - k)) = Pl.rootTo n k + 2 ^ (31 - k) := by
        obtain ⟨R, e, r0, r1, _, _⟩ := Pl.rootTo_spec n hn.1 (by omega) k (by omega)
        have ep : (2 : Int) ^ (32 - k) = 2 * 2 ^ (31 - k) := by rw [show 32 - k = (31 - k) + 1 by omega, Int.pow_succ]; omega
        rw [e] at hb ⊢
        exact Pl.or_shifted_u64 (32 - k) R _ (by omega) (by omega) r0 (by omega)
      have hs : Pl.rootTo n (k + 1) = if (Pl.rootTo n k + 2 ^ (31 - k)) * (Pl.rootTo n k + 2 ^ (31 - k)) ≤ n then Pl.rootTo n k + 2 ^ (31 - k) else Pl.rootTo n k := rfl
      have HS := Lib.hid hs; clear hs
      by_cases c : (Pl.rootTo n k + 2 ^ (31 - k)) * (Pl.rootTo n k + 2 ^ (31 - k)) ≤ n
      · go_wp2
        go_round
        case rel => exact ⟨k + 1, by omega, by go_num, by rw [HS.out, if_pos (by assumption)]⟩
        case measure => simp [intOf] <;> omega
      · go_wp2
        go_round
        case rel => exact ⟨k + 1, by omega, by go_num, by rw [HS.out, if_neg (by omega)]⟩
        case measure => simp [intOf] <;> omega
    · obtain rfl : k = 32 := by omega
      go_wp2
      go_ret
      exact ⟨rfl, rfl⟩

theorem root_ceil (n : Int) (hn : 0 ≤ n ∧ n ≤ 18446744073709551615) (w : World) :
    Calls Try.prog 39 #[.int .u64 n] w fun e w' => e = .returned (.int .u64 (Pl.ceilr n)) ∧ w = w' := by
  have hr := Pl.root_spec n hn.1 (by omega)
  have hq := Pl.sq_le32 _ hr.1 hr.2.1
  have hc : Pl.ceilr n = if Pl.root n * Pl.root n < n then Pl.root n + 1 else Pl.root n := rfl
  have HC := Lib.hid hc; clear hc hr
  by_cases c : Pl.root n * Pl.root n < n
  · go_enter Try.func39, Try.ntmps39
    go_wp2_with fail
    refine (root_floor n hn _).mono ?_
    rintro e w1 ⟨rfl, rfl⟩
    go_wp2
    go_ret
    exact ⟨ret_int (by rw [HC.out, if_pos (by assumption), IntKind.wrap_u64]; have := Pl.root_spec n hn.1 (by omega); omega), rfl⟩
  · go_enter Try.func39, Try.ntmps39
    go_wp2_with fail
    refine (root_floor n hn _).mono ?_
    rintro e w1 ⟨rfl, rfl⟩
    go_wp2
    go_ret
    exact ⟨ret_int (by rw [HC.out, if_neg (by omega)]), rfl⟩

theorem sign_any (v : Int) (w : World) : Calls Try.prog 84 #[.int .i64 v] w fun e w' => e = .returned (.int .i64 (Pl.sg v)) ∧ w = w' := by
  have hs : Pl.sg v = if v < 0 then -1 else if 0 < v then 1 else 0 := rfl
  have HS := Lib.hid hs; clear hs
  by_cases h1 : v < 0
  · go_enter Try.func84, Try.ntmps84
    go_wp2
    go_ret
    exact ⟨ret_int (by rw [HS.out, if_pos (by assumption)]), rfl⟩
  · by_cases h2 : 0 < v
    · go_enter Try.func84, Try.ntmps84
      go_wp2
      go_ret
      exact ⟨ret_int (by rw [HS.out, if_neg (by omega), if_pos (by assumption)]), rfl⟩
    · go_enter Try.func84, Try.ntmps84
      go_wp2
      go_ret
      exact ⟨ret_int (by rw [HS.out, if_neg (by omega), if_neg (by omega)]), rfl⟩

theorem rmay_yes (q d : Int) (h : Pl.okq q d) (w : World) : Calls Try.prog 83 #[.int .i64 q, .int .i64 d] w fun e w' => e = .returned (.bool true) ∧ w = w' := by
  obtain ⟨h1, h2, h3, h4⟩ := h
  go_enter Try.func83, Try.ntmps83
  go_wp2
  go_ret
  exact ⟨rfl, rfl⟩
theorem rmay_no (q d : Int) (h : ¬ Pl.okq q d) (w : World) : Calls Try.prog 83 #[.int .i64 q, .int .i64 d] w fun e w' => e = .returned (.bool false) ∧ w = w' := by
  have hc : q < -2147483648 ∨ (-2147483648 ≤ q ∧ 2147483648 < q) ∨ (-2147483648 ≤ q ∧ q ≤ 2147483648 ∧ d < 0) ∨ (-2147483648 ≤ q ∧ q ≤ 2147483648 ∧ 0 ≤ d ∧ 2147483648 < d) := by
    unfold Pl.okq at h; omega
  clear h
  rcases hc with h1 | ⟨h1, h2⟩ | ⟨h1, h2, h3⟩ | ⟨h1, h2, h3, h4⟩
  all_goals
    go_enter Try.func83, Try.ntmps83
    go_wp2
    go_ret
    exact ⟨ret_bool (by first | rfl | (rw [decide_eq_false_iff_not]; omega)), rfl⟩

theorem rsign_ok (p q d : Int) (hp : -4611686018427387904 ≤ p ∧ p ≤ 4611686018427387904) (h : Pl.okq q d) (w : World) :
    Calls Try.prog 40 #[.int .i64 p, .int .i64 q, .int .i64 d] w fun e w' => e = .returned (.tuple #[.int .i64 (Pl.rsign p q d), .bool true]) ∧ Grown w w' := by
  have hb1 := Pl.sg_bd p
  have hb2 := Pl.sg_mul_bd q d
  have hb3 := Pl.sg_cmp_bd p (p * p) (q * q * d)
  have hq := Pl.sq_le31 q ⟨h.1, h.2.1⟩
  have hd : -9223372036854775808 ≤ d ∧ d ≤ 9223372036854775807 := by have := h.2.2; omega
  by_cases c1 : Pl.sg p = 0 ∨ Pl.sg p = Pl.sg q * Pl.sg d
  · have hv := Lib.hid (Pl.rsign_same p q d c1)
    have hc : (Pl.sg p == 0) = true ∨ ((Pl.sg p == 0) = false ∧ (Pl.sg p == Pl.sg q * Pl.sg d) = true) := by
      by_cases c : Pl.sg p = 0
      · exact .inl (beq_iff_eq.2 c)
      · exact .inr ⟨beq_eq_false_iff_ne.2 c, beq_iff_eq.2 (c1.resolve_left c)⟩
    clear c1
    rcases hc with c1 | ⟨c1, c2⟩
    all_goals
      go_enter Try.func40, Try.ntmps40
      go_wp2_with fail
      refine (rmay_yes q d h _).mono ?_
      rintro e w1 ⟨rfl, rfl⟩
      go_wp2_with fail
      refine (sign_any p _).mono ?_
      rintro e w1 ⟨rfl, rfl⟩
      go_wp2_with fail
      refine (sign_any q _).mono ?_
      rintro e w1 ⟨rfl, rfl⟩
      go_wp2_with fail
      refine (sign_any d _).mono ?_
      rintro e w1 ⟨rfl, rfl⟩
      go_wp2
      go_ret2
      exact ⟨ret_ib (by rw [hv.out]) rfl, Grown.refl _⟩
  · have n0 : (Pl.sg p == 0) = false := beq_eq_false_iff_ne.2 (fun e => c1 (.inl e))
    have n1 : (Pl.sg p == Pl.sg q * Pl.sg d) = false := beq_eq_false_iff_ne.2 (fun e => c1 (.inr e))
    by_cases c2 : Pl.sg q * Pl.sg d = 0
    · have hv := Lib.hid (Pl.rsign_none p q d c2)
      have c2' : (Pl.sg q * Pl.sg d == 0) = true := beq_iff_eq.2 c2
      clear c1 c2
      go_enter Try.func40, Try.ntmps40
      go_wp2_with fail
      refine (rmay_yes q d h _).mono ?_
      rintro e w1 ⟨rfl, rfl⟩
      go_wp2_with fail
      refine (sign_any p _).mono ?_
      rintro e w1 ⟨rfl, rfl⟩
      go_wp2_with fail
      refine (sign_any q _).mono ?_
      rintro e w1 ⟨rfl, rfl⟩
      go_wp2_with fail
      refine (sign_any d _).mono ?_
      rintro e w1 ⟨rfl, rfl⟩
      go_wp2
      go_ret2
      exact ⟨ret_ib (by rw [hv.out]) rfl, Grown.refl _⟩
    · have hv := Lib.hid (Pl.rsign_apart p q d h.2.2.1 (fun e => c1 (.inl e)) (fun e => c1 (.inr e)) c2)
      have c2' : (Pl.sg q * Pl.sg d == 0) = false := beq_eq_false_iff_ne.2 c2
      clear c1 c2
      go_enter Try.func40, Try.ntmps40
      go_wp2_with fail
      refine (rmay_yes q d h _).mono ?_
      rintro e w1 ⟨rfl, rfl⟩
      go_wp2_with fail
      refine (sign_any p _).mono ?_
      rintro e w1 ⟨rfl, rfl⟩
      go_wp2_with fail
      refine (sign_any q _).mono ?_
      rintro e w1 ⟨rfl, rfl⟩
      go_wp2_with fail
      refine (sign_any d _).mono ?_
      rintro e w1 ⟨rfl, rfl⟩
      go_wp2_with fail
      refine (cmp_any p p (q * q) d (by omega) (by omega) (by omega) hd _).mono ?_
      rintro e w2 ⟨rfl, g2⟩
      go_wp2
      go_ret2
      exact ⟨ret_ib (by rw [hv.out]) rfl, g2⟩

theorem rsign_no (p q d : Int) (h : ¬ (Pl.okq q d ∧ -4611686018427387904 ≤ p ∧ p ≤ 4611686018427387904)) (w : World) :
    Calls Try.prog 40 #[.int .i64 p, .int .i64 q, .int .i64 d] w fun e w' => e = .returned (.tuple #[.int .i64 0, .bool false]) ∧ Grown w w' := by
  by_cases hq : Pl.okq q d
  · have hc : p < -4611686018427387904 ∨ (-4611686018427387904 ≤ p ∧ 4611686018427387904 < p) := by
      have : ¬ (-4611686018427387904 ≤ p ∧ p ≤ 4611686018427387904) := fun e => h ⟨hq, e⟩
      omega
    clear h
    rcases hc with h1 | ⟨h1, h2⟩
    all_goals
      go_enter Try.func40, Try.ntmps40
      go_wp2_with fail
      refine (rmay_yes q d hq _).mono ?_
      rintro e w1 ⟨rfl, rfl⟩
      go_wp2
      go_ret2
      exact ⟨rfl, Grown.refl _⟩
  · clear h
    go_enter Try.func40, Try.ntmps40
    go_wp2_with fail
    refine (rmay_no q d hq _).mono ?_
    rintro e w1 ⟨rfl, rfl⟩
    go_wp2
    go_ret2
    exact ⟨rfl, Grown.refl _⟩
end Go.Proofs.Ytedidjdifobclaa
