/- The walks of the references of layers 1 and 2: Mag, Mul64, Mul, Cmp, Floor, Ceil, sign, in, Sign. -/
import Derived.Test.YtedidjdifobclaaW7
import Derived.Test.YtedidjdifobclaaPlLaw1
namespace Go.Proofs.Ytedidjdifobclaa
set_option linter.unusedVariables false
open Go.RowKit

theorem mag1_any (v : Int) (hv : -9223372036854775808 ≤ v ∧ v ≤ 9223372036854775807) (w : World) :
    Calls Try.prog 90 #[.int .i64 v] w fun e w' => e = .returned (.int .u64 (Pl.mag v)) ∧ w = w' := by
  by_cases h : v < 0
  · go_enter Try.func90, Try.ntmps90
    go_wp2
    go_ret
    exact ⟨ret_int (by unfold Pl.mag; rw [if_pos h]; omega), rfl⟩
  · go_enter Try.func90, Try.ntmps90
    go_wp2
    go_ret
    exact ⟨ret_int (by unfold Pl.mag; rw [if_neg (by omega)]), rfl⟩

theorem Pl.mul64_parts (a b w1 w2 : Int) (h1 : w1 = (a / 4294967296) * (b % 4294967296) + (a % 4294967296) * (b % 4294967296) / 4294967296)
    (h2 : w2 = w1 % 4294967296 + (a % 4294967296) * (b / 4294967296)) :
    (a / 4294967296) * (b / 4294967296) + w1 / 4294967296 + w2 / 4294967296 = a * b / 18446744073709551616 := by
  have := (Pl.prod_parts a b _ rfl).1
  rw [← this]
  generalize (a / 4294967296) * (b / 4294967296) = p3 at *
  generalize (a / 4294967296) * (b % 4294967296) = p1 at *
  generalize (a % 4294967296) * (b / 4294967296) = p2 at *
  generalize (a % 4294967296) * (b % 4294967296) = p0 at *
  omega

theorem mul64_any (a b : Int) (ha : 0 ≤ a ∧ a ≤ 18446744073709551615) (hb : 0 ≤ b ∧ b ≤ 18446744073709551615) (w : World) :
    Calls Try.prog 95 #[.int .u64 a, .int .u64 b] w fun e w' => e = .returned (.tuple #[.int .u64 (a * b / 18446744073709551616), .int .u64 (a * b % 18446744073709551616)]) ∧ w = w' := by
  have p0 := Pl.mul_lt32 (a % 4294967296) (b % 4294967296) (by omega) (by omega) (by omega) (by omega)
  have p1 := Pl.mul_lt32 (a / 4294967296) (b % 4294967296) (by omega) (by omega) (by omega) (by omega)
  have p2 := Pl.mul_lt32 (a % 4294967296) (b / 4294967296) (by omega) (by omega) (by omega) (by omega)
  have p3 := Pl.mul_lt32 (a / 4294967296) (b / 4294967296) (by omega) (by omega) (by omega) (by omega)
  go_enter Try.func95, Try.ntmps95
  go_wp2
  go_ret2
  refine ⟨ret2_int ?_ ?_, rfl⟩
  · exact Pl.mul64_parts a b _ _ rfl rfl
  · rw [IntKind.wrap_u64]

theorem mul1r_any (a b : Int) (ha : -9223372036854775808 ≤ a ∧ a ≤ 9223372036854775807) (hb : -9223372036854775808 ≤ b ∧ b ≤ 9223372036854775807) (w : World) :
    Calls Try.prog 53 #[.int .i64 a, .int .i64 b] w fun e w' => e = .returned (.tuple #[.int .i64 (a * b / 18446744073709551616), .int .u64 (a * b % 18446744073709551616)]) ∧ w = w' := by
  have ma := Pl.mag_nn a
  have mb := Pl.mag_nn b
  have ma' := Pl.mag_le a ha.1 ha.2
  have mb' := Pl.mag_le b hb.1 hb.2
  have hP := Pl.mul_le126 _ _ ma ma' mb mb'
  have key : a * b = if decide (a < 0) = decide (b < 0) then Pl.mag a * Pl.mag b else -(Pl.mag a * Pl.mag b) := by
    by_cases sa : a < 0 <;> by_cases sb : b < 0 <;> simp only [sa, sb, decide_true, decide_false, if_true, reduceCtorEq, if_false] <;>
      first
      | rw [Pl.mag_neg sa, Pl.mag_neg sb, Int.neg_mul_neg]
      | rw [Pl.mag_neg sa, Pl.mag_pos (by omega), Int.neg_mul, Int.neg_neg]
      | rw [Pl.mag_pos (by omega), Pl.mag_neg sb, Int.mul_neg, Int.neg_neg]
      | rw [Pl.mag_pos (by omega), Pl.mag_pos (by omega)]
  have KEY := Lib.hid key; clear key
  have hm2 : Pl.mag a * Pl.mag b % 18446744073709551616 % 18446744073709551616 = Pl.mag a * Pl.mag b % 18446744073709551616 := by omega
  cases hz : (IntKind.u64.wrap (18446744073709551615 - Pl.mag a * Pl.mag b % 18446744073709551616 + 1) == 0) <;> cases sa : decide (a < 0) <;> cases sb : decide (b < 0)
  all_goals
    go_enter Try.func53, Try.ntmps53
    go_wp2_with fail
    refine (mag1_any a ha _).mono ?_
    rintro e w1 ⟨rfl, rfl⟩
    go_wp2_with fail
    refine (mag1_any b hb _).mono ?_
    rintro e w1 ⟨rfl, rfl⟩
    go_wp2_with fail
    refine (mul64_any _ _ (by omega) (by omega) _).mono ?_
    rintro e w1 ⟨rfl, rfl⟩
    go_wp2
    go_ret2
    refine ⟨ret2_int ?_ ?_, rfl⟩ <;> rw [KEY.out, sa, sb] <;> rw [IntKind.wrap_u64] at hz <;> simp only [beq_iff_eq, beq_eq_false_iff_ne] at hz <;> generalize Pl.mag a * Pl.mag b = P at * <;> simp only [if_true, reduceCtorEq, if_false, IntKind.wrap_u64, wrap64] <;> omega

theorem cmp1r_any (a b c d : Int) (ha : -9223372036854775808 ≤ a ∧ a ≤ 9223372036854775807) (hb : -9223372036854775808 ≤ b ∧ b ≤ 9223372036854775807)
    (hc : -9223372036854775808 ≤ c ∧ c ≤ 9223372036854775807) (hd : -9223372036854775808 ≤ d ∧ d ≤ 9223372036854775807) (w : World) :
    Calls Try.prog 56 #[.int .i64 a, .int .i64 b, .int .i64 c, .int .i64 d] w fun e w' => e = .returned (.int .i64 (Pl.cmp (a * b) (c * d))) ∧ w = w' := by
  go_enter Try.func56, Try.ntmps56
  go_wp2_with fail
  refine (mul1r_any a b ha hb _).mono ?_
  rintro e w1 ⟨rfl, rfl⟩
  go_wp2_with fail
  refine (mul1r_any c d hc hd _).mono ?_
  rintro e w2 ⟨rfl, rfl⟩
  go_wp2
  all_goals
    go_ret
    refine ⟨ret_int ?_, rfl⟩
    try simp only [beq_iff_eq, beq_eq_false_iff_ne, ne_eq] at *
    unfold Pl.cmp
    repeat' split
    all_goals omega

theorem root2_floor (n : Int) (hn : 0 ≤ n ∧ n ≤ 18446744073709551615) (w : World) :
    Calls Try.prog 47 #[.int .u64 n] w fun e w' => e = .returned (.int .u64 (Pl.root n)) ∧ w = w' := by
  go_enter Try.func47, Try.ntmps47
  go_wp2
  go_loop [3, 4] (fun r i => ∃ k : Nat, k ≤ 32 ∧ i = .int .i64 (31 - (k : Int)) ∧ r = .int .u64 (Pl.rootTo n k)) (fun _ i => (intOf i + 1).toNat)
  case atStart => exact ⟨0, by omega, rfl, rfl⟩
  case round =>
    obtain ⟨k, hk, rfl, rfl⟩ := hrel
    by_cases hlt : k < 32
    · have hb := Pl.rootTo_bd n hn.1 (by omega) k (by omega)
      have hw := Pl.pow_lt64 (31 - k) (by omega)
      obtain ⟨m, hm⟩ : ∃ m : Nat, 31 - k = m := ⟨_, rfl⟩
      have hi : (31 - (k : Int)) = (m : Int) := by omega
      have hor : bits .or .u64 (Pl.rootTo n k) (2 ^ (31 - k)) = Pl.rootTo n k + 2 ^ (31 - k) := by
        obtain ⟨R, e, r0, r1, _, _⟩ := Pl.rootTo_spec n hn.1 (by omega) k (by omega)
        have ep : (2 : Int) ^ (32 - k) = 2 * 2 ^ (31 - k) := by rw [show 32 - k = (31 - k) + 1 by omega, Int.pow_succ]; omega
        rw [e] at hb ⊢
        exact Pl.or_shifted_u64 (32 - k) R _ (by omega) (by omega) r0 (by omega)
      have hs : Pl.rootTo n (k + 1) = if (Pl.rootTo n k + 2 ^ (31 - k)) * (Pl.rootTo n k + 2 ^ (31 - k)) ≤ n then Pl.rootTo n k + 2 ^ (31 - k) else Pl.rootTo n k := rfl
      rw [hm] at hb hw hor hs
      rw [hi]
      have hmb : m ≤ 31 := by omega
      have HI := Lib.hid hi; clear hi
      have HM := Lib.hid hm; clear hm
      have HS := Lib.hid hs; clear hs
      by_cases c : (Pl.rootTo n k + 2 ^ m) * (Pl.rootTo n k + 2 ^ m) ≤ n
      · go_wp2
        go_round
        case rel => exact ⟨k + 1, by omega, congrArg (Value.int .i64) (by have := HI.out; omega), by rw [HS.out, if_pos (by assumption)]⟩
        case measure => simp [intOf] <;> omega
      · go_wp2
        go_round
        case rel => exact ⟨k + 1, by omega, congrArg (Value.int .i64) (by have := HI.out; omega), by rw [HS.out, if_neg (by omega)]⟩
        case measure => simp [intOf] <;> omega
    · obtain rfl : k = 32 := by omega
      go_wp2
      go_ret
      exact ⟨rfl, rfl⟩

theorem root2_ceil (n : Int) (hn : 0 ≤ n ∧ n ≤ 18446744073709551615) (w : World) :
    Calls Try.prog 48 #[.int .u64 n] w fun e w' => e = .returned (.int .u64 (Pl.ceilr n)) ∧ w = w' := by
  have hr := Pl.root_spec n hn.1 (by omega)
  have hq := Pl.sq_le32 _ hr.1 hr.2.1
  have hc : Pl.ceilr n = if Pl.root n * Pl.root n < n then Pl.root n + 1 else Pl.root n := rfl
  have HC := Lib.hid hc; clear hc hr
  by_cases c : Pl.root n * Pl.root n < n
  · go_enter Try.func48, Try.ntmps48
    go_wp2_with fail
    refine (root2_floor n hn _).mono ?_
    rintro e w1 ⟨rfl, rfl⟩
    go_wp2
    go_ret
    exact ⟨ret_int (by rw [HC.out, if_pos (by assumption), IntKind.wrap_u64]; have := Pl.root_spec n hn.1 (by omega); omega), rfl⟩
  · go_enter Try.func48, Try.ntmps48
    go_wp2_with fail
    refine (root2_floor n hn _).mono ?_
    rintro e w1 ⟨rfl, rfl⟩
    go_wp2
    go_ret
    exact ⟨ret_int (by rw [HC.out, if_neg (by omega)]), rfl⟩

theorem sign2_any (v : Int) (w : World) : Calls Try.prog 89 #[.int .i64 v] w fun e w' => e = .returned (.int .i64 (Pl.sg v)) ∧ w = w' := by
  have hs : Pl.sg v = if v < 0 then -1 else if 0 < v then 1 else 0 := rfl
  have HS := Lib.hid hs; clear hs
  by_cases h1 : v < 0
  · go_enter Try.func89, Try.ntmps89
    go_wp2
    go_ret
    exact ⟨ret_int (by rw [HS.out, if_pos (by assumption)]), rfl⟩
  · by_cases h2 : 0 < v
    · go_enter Try.func89, Try.ntmps89
      go_wp2
      go_ret
      exact ⟨ret_int (by rw [HS.out, if_neg (by omega), if_pos (by assumption)]), rfl⟩
    · go_enter Try.func89, Try.ntmps89
      go_wp2
      go_ret
      exact ⟨ret_int (by rw [HS.out, if_neg (by omega), if_neg (by omega)]), rfl⟩

theorem in2_yes (v n : Int) (hn : 0 ≤ n ∧ n ≤ 9223372036854775807) (h : -n ≤ v ∧ v ≤ n) (w : World) : Calls Try.prog 88 #[.int .i64 v, .int .i64 n] w fun e w' => e = .returned (.bool true) ∧ w = w' := by
  obtain ⟨h1, h2⟩ := h
  go_enter Try.func88, Try.ntmps88
  go_wp2
  go_ret
  exact ⟨ret_bool (by first | rfl | (rw [decide_eq_true_eq]; omega)), rfl⟩
theorem in2_no (v n : Int) (hn : 0 ≤ n ∧ n ≤ 9223372036854775807) (h : ¬ (-n ≤ v ∧ v ≤ n)) (w : World) : Calls Try.prog 88 #[.int .i64 v, .int .i64 n] w fun e w' => e = .returned (.bool false) ∧ w = w' := by
  have hc : v < -n ∨ (-n ≤ v ∧ n < v) := by omega
  clear h
  rcases hc with h1 | ⟨h1, h2⟩
  all_goals
    go_enter Try.func88, Try.ntmps88
    go_wp2
    go_ret
    exact ⟨ret_bool (by first | rfl | (rw [decide_eq_false_iff_not]; omega)), rfl⟩

/-- P2.2 as the reference has it -/
theorem rsign2_ok (p q d : Int) (hp : -4611686018427387904 ≤ p ∧ p ≤ 4611686018427387904) (h : Pl.okq q d) (w : World) :
    Calls Try.prog 45 #[.int .i64 p, .int .i64 q, .int .i64 d] w fun e w' => e = .returned (.tuple #[.int .i64 (Pl.rsign p q d), .bool true]) ∧ w = w' := by
  obtain ⟨h1, h2, h3, h4⟩ := h
  have hb1 := Pl.sg_bd p
  have hb2 := Pl.sg_bd q
  have hqd : -4611686018427387904 ≤ q * d ∧ q * d ≤ 4611686018427387904 := by
    have := Pl.mul_mag q d
    have a1 : Pl.mag q * Pl.mag d ≤ 2147483648 * Pl.mag d := Int.mul_le_mul_of_nonneg_right (by unfold Pl.mag; split <;> omega) (Pl.mag_nn d)
    have a2 : Pl.mag d ≤ 2147483648 := by unfold Pl.mag; split <;> omega
    omega
  -- b: the sign of q, or 0 if d is 0
  obtain ⟨b, hbdef⟩ : ∃ b, Pl.sg q * Pl.sg d = b := ⟨_, rfl⟩
  have hbb : -1 ≤ b ∧ b ≤ 1 := by have := Pl.sg_mul_bd q d; omega
  have hbd : (d = 0 ∧ b = 0) ∨ (d ≠ 0 ∧ b = Pl.sg q) := by
    rcases Pl.sg_cases d with ⟨g, e⟩ | ⟨g, e⟩ | ⟨g, e⟩ <;> rw [e] at hbdef
    · omega
    · exact .inl ⟨g, by omega⟩
    · exact .inr ⟨by omega, by omega⟩
  have hab : -1 ≤ Pl.sg p * b ∧ Pl.sg p * b ≤ 1 := by
    rcases Pl.sg_cases p with ⟨_, e⟩ | ⟨_, e⟩ | ⟨_, e⟩ <;> rw [e] <;> omega
  by_cases c1 : 0 ≤ Pl.sg p * b
  · have hr : Pl.rsign p q d = Pl.sg (Pl.sg p + b) := by
      by_cases c2 : Pl.sg p = 0 ∨ Pl.sg p = b
      · rw [Pl.rsign_same p q d (by rw [hbdef]; exact c2), hbdef]
        rcases Pl.sg_cases p with ⟨_, e⟩ | ⟨_, e⟩ | ⟨_, e⟩ <;> rw [e] at c1 c2 ⊢ <;> unfold Pl.sg <;> (repeat' split) <;> omega
      · have hb0 : b = 0 := by
          rcases Pl.sg_cases p with ⟨_, e⟩ | ⟨_, e⟩ | ⟨_, e⟩ <;> rw [e] at c1 c2 <;> omega
        rw [Pl.rsign_none p q d (by rw [hbdef]; exact hb0), hb0]
        rcases Pl.sg_cases p with ⟨_, e⟩ | ⟨_, e⟩ | ⟨_, e⟩ <;> rw [e] <;> rfl
    have HR := Lib.hid hr; clear hr hbdef
    rcases hbd with ⟨rfl, rfl⟩ | ⟨n0, rfl⟩
    · clear c1
      go_enter Try.func45, Try.ntmps45
      go_wp2_with fail
      refine (in2_yes p 4611686018427387904 (by omega) hp _).mono ?_
      rintro e w1 ⟨rfl, rfl⟩
      go_wp2_with fail
      refine (in2_yes q 2147483648 (by omega) ⟨h1, h2⟩ _).mono ?_
      rintro e w1 ⟨rfl, rfl⟩
      go_wp2_with fail
      refine (sign2_any p _).mono ?_
      rintro e w1 ⟨rfl, rfl⟩
      go_wp2_with fail
      refine (sign2_any q _).mono ?_
      rintro e w1 ⟨rfl, rfl⟩
      go_wp2_with fail
      refine (sign2_any _ _).mono ?_
      rintro e w1 ⟨rfl, rfl⟩
      go_wp2_with fail
      go_ret2
      exact ⟨ret_ib (by rw [HR.out]; simp) rfl, rfl⟩
    · have n0' : (d == 0) = false := beq_eq_false_iff_ne.2 n0
      clear n0
      go_enter Try.func45, Try.ntmps45
      go_wp2_with fail
      refine (in2_yes p 4611686018427387904 (by omega) hp _).mono ?_
      rintro e w1 ⟨rfl, rfl⟩
      go_wp2_with fail
      refine (in2_yes q 2147483648 (by omega) ⟨h1, h2⟩ _).mono ?_
      rintro e w1 ⟨rfl, rfl⟩
      go_wp2_with fail
      refine (sign2_any p _).mono ?_
      rintro e w1 ⟨rfl, rfl⟩
      go_wp2_with fail
      refine (sign2_any q _).mono ?_
      rintro e w1 ⟨rfl, rfl⟩
      go_wp2_with fail
      refine (sign2_any _ _).mono ?_
      rintro e w1 ⟨rfl, rfl⟩
      go_wp2_with fail
      go_ret2
      exact ⟨ret_ib (by rw [HR.out]) rfl, rfl⟩
  · have hp0 : Pl.sg p ≠ 0 := fun e => by rw [e] at c1; simp at c1
    have hpb : Pl.sg p ≠ b := fun e => c1 (by rw [e]; rcases (show b = -1 ∨ b = 0 ∨ b = 1 by omega) with g | g | g <;> rw [g] <;> decide)
    have hb0 : b ≠ 0 := fun e => by rw [e] at c1; simp at c1
    have hr := Pl.rsign_apart p q d h3 hp0 (by rw [hbdef]; exact hpb) (by rw [hbdef]; exact hb0)
    rw [Int.mul_assoc] at hr
    have hcb := Pl.sg_cmp_bd p (p * p) (q * (q * d))
    have HR := Lib.hid hr; clear hr hbdef hp0 hpb
    rcases hbd with ⟨_, e⟩ | ⟨n0, rfl⟩
    · exact absurd e hb0
    · have n0' : (d == 0) = false := beq_eq_false_iff_ne.2 n0
      clear n0 hb0
      go_enter Try.func45, Try.ntmps45
      go_wp2_with fail
      refine (in2_yes p 4611686018427387904 (by omega) hp _).mono ?_
      rintro e w1 ⟨rfl, rfl⟩
      go_wp2_with fail
      refine (in2_yes q 2147483648 (by omega) ⟨h1, h2⟩ _).mono ?_
      rintro e w1 ⟨rfl, rfl⟩
      go_wp2_with fail
      refine (sign2_any p _).mono ?_
      rintro e w1 ⟨rfl, rfl⟩
      go_wp2_with fail
      refine (sign2_any q _).mono ?_
      rintro e w1 ⟨rfl, rfl⟩
      go_wp2_with fail
      refine (cmp1r_any p p q (q * d) (by omega) (by omega) (by omega) (by omega) _).mono ?_
      rintro e w1 ⟨rfl, rfl⟩
      go_wp2_with fail
      go_ret2
      exact ⟨ret_ib (by rw [HR.out]) rfl, rfl⟩

theorem rsign2_no (p q d : Int) (h : ¬ (Pl.okq q d ∧ -4611686018427387904 ≤ p ∧ p ≤ 4611686018427387904)) (w : World) :
    Calls Try.prog 45 #[.int .i64 p, .int .i64 q, .int .i64 d] w fun e w' => e = .returned (.tuple #[.int .i64 0, .bool false]) ∧ w = w' := by
  by_cases hp : -4611686018427387904 ≤ p ∧ p ≤ 4611686018427387904
  · by_cases hq : -2147483648 ≤ q ∧ q ≤ 2147483648
    · have hc : d < 0 ∨ (0 ≤ d ∧ 2147483648 < d) := by
        have : ¬ Pl.okq q d := fun g => h ⟨g, hp⟩
        unfold Pl.okq at this
        omega
      clear h
      rcases hc with h1 | ⟨h1, h2⟩
      all_goals
        go_enter Try.func45, Try.ntmps45
        go_wp2_with fail
        refine (in2_yes p 4611686018427387904 (by omega) hp _).mono ?_
        rintro e w1 ⟨rfl, rfl⟩
        go_wp2_with fail
        refine (in2_yes q 2147483648 (by omega) hq _).mono ?_
        rintro e w1 ⟨rfl, rfl⟩
        go_wp2_with fail
        go_ret2
        exact ⟨rfl, rfl⟩
    · clear h
      go_enter Try.func45, Try.ntmps45
      go_wp2_with fail
      refine (in2_yes p 4611686018427387904 (by omega) hp _).mono ?_
      rintro e w1 ⟨rfl, rfl⟩
      go_wp2_with fail
      refine (in2_no q 2147483648 (by omega) hq _).mono ?_
      rintro e w1 ⟨rfl, rfl⟩
      go_wp2_with fail
      go_ret2
      exact ⟨rfl, rfl⟩
  · clear h
    go_enter Try.func45, Try.ntmps45
    go_wp2_with fail
    refine (in2_no p 4611686018427387904 (by omega) hp _).mono ?_
    rintro e w1 ⟨rfl, rfl⟩
    go_wp2_with fail
    go_ret2
    exact ⟨rfl, rfl⟩
end Go.Proofs.Ytedidjdifobclaa
