/- The walk of the reference of root.Cut. -/
import Derived.Test.YtedidjdifobclaaW12
namespace Go.Proofs.Ytedidjdifobclaa
set_option linter.unusedVariables false
open Go.RowKit

/-- q times the root of d is no further from 0 than 50000 times q -/
theorem Pl.srt_far (q d : Int) (h : Pl.okq q d) : -(Pl.mag q * 50000) ≤ Pl.srt (Pl.ss q * d) ∧ Pl.srt (Pl.ss q * d) ≤ Pl.mag q * 50000 := by
  have hT := Pl.T_bd q d h
  obtain ⟨s1, s2, _, _⟩ := Pl.srt_spec _ hT.1 hT.2
  obtain ⟨h1, h2, h3, h4⟩ := h
  have hm := Pl.mag_nn q
  have hqq : q * q = Pl.mag q * Pl.mag q := by unfold Pl.mag; split; exact (Int.neg_mul_neg q q).symm; rfl
  have hq0 : 0 ≤ q * q := by rw [hqq]; exact Int.mul_nonneg hm hm
  have hy : 0 ≤ q * q * d ∧ q * q * d ≤ q * q * 2147483648 := ⟨Int.mul_nonneg hq0 h3, Int.mul_le_mul_of_nonneg_left h4 hq0⟩
  have e3 : Pl.ss q * d = Pl.sg q * (q * q * d) := by rw [Pl.ss_sg, Int.mul_assoc]
  have hb : -(q * q * 2147483648) ≤ Pl.ss q * d ∧ Pl.ss q * d ≤ q * q * 2147483648 := by
    rw [e3]
    rcases Pl.sg_cases q with ⟨_, e⟩ | ⟨_, e⟩ | ⟨_, e⟩ <;> rw [e] <;> omega
  have e4 : Pl.ss (Pl.mag q * 50000) = q * q * 2500000000 := by
    rw [Pl.ss_pos (by omega), hqq]
    generalize Pl.mag q = m
    rw [show m * 50000 * (m * 50000) = m * m * (50000 * 50000) by simp only [Int.mul_assoc, Int.mul_comm, Int.mul_left_comm]]
    rfl
  have e5 : Pl.ss (-(Pl.mag q * 50000)) = -(q * q * 2500000000) := by rw [Pl.ss_flip, e4]
  constructor
  · by_cases z : q = 0
    · subst z
      have : Pl.mag 0 = 0 := rfl
      rw [this]
      have k : ¬ Pl.srt (Pl.ss 0 * d) + 1 ≤ 0 := fun hc => by
        have := Pl.ss_le hc
        rw [show Pl.ss 0 = 0 from rfl] at *
        omega
      omega
    · have hqp : 0 < q * q := by
        have : q * q ≠ 0 := fun e => z ((Int.mul_eq_zero.1 e).elim id id)
        omega
      have k : ¬ Pl.srt (Pl.ss q * d) + 1 ≤ -(Pl.mag q * 50000) := fun hc => by
        have := Pl.ss_le hc
        rw [e5] at this
        omega
      omega
  · exact Pl.ss_le_iff.1 (by rw [e4]; omega)

theorem cut2_core (p q d m T V M : Int) (h : Pl.okc p q d m) (hV : Hid ((p + Pl.srt (Pl.ss q * d)) / m = V)) (hM : Hid ((Pl.mag p + Pl.mag q * 50000) / m + 1 = M)) (w : World) :
    Calls Try.prog 46 #[.int .i64 p, .int .i64 q, .int .i64 d, .int .i64 m] w fun e w' => e = .returned (.tuple #[.int .i64 V, .bool true]) ∧ w = w' := by
  obtain ⟨hq, hp0, hp1, hm0, hm1⟩ := h
  have hfar := Pl.srt_far q d hq
  have hqb := hq
  obtain ⟨q1, q2, q3, q4⟩ := hqb
  have mp : 0 ≤ Pl.mag p ∧ Pl.mag p ≤ 1152921504606846976 := by have := Pl.mag_nn p; refine ⟨this, ?_⟩; unfold Pl.mag; split <;> omega
  have mq : 0 ≤ Pl.mag q ∧ Pl.mag q ≤ 2147483648 := by have := Pl.mag_nn q; refine ⟨this, ?_⟩; unfold Pl.mag; split <;> omega
  have hpm : -Pl.mag p ≤ p ∧ p ≤ Pl.mag p := by unfold Pl.mag; split <;> omega
  obtain ⟨S, hS⟩ : ∃ S, Pl.mag p + Pl.mag q * 50000 = S := ⟨_, rfl⟩
  have hSb : 0 ≤ S ∧ S ≤ 1153028878789246976 := by omega
  -- the reference's bound
  have hMS : S / m + 1 = M := by rw [← hS]; exact hM.out
  have hdiv := Pl.ediv_bd S m hm0
  rw [Pl.mag_pos hSb.1] at hdiv
  have hM0 : 1 ≤ M ∧ M ≤ 1153028878789246977 := by
    have := Int.ediv_nonneg hSb.1 (show 0 ≤ m by omega)
    omega
  have hMm : M * m ≤ S + m := by
    have := Int.ediv_mul_le S (show m ≠ 0 by omega)
    rw [← hMS, Int.add_mul]; omega
  -- where the answer lies
  obtain ⟨t, ht⟩ : ∃ t, Pl.srt (Pl.ss q * d) = t := ⟨_, rfl⟩
  have hVt : (p + t) / m = V := by rw [← ht]; exact hV.out
  rw [ht] at hfar
  have hT := Pl.T_bd q d hq
  obtain ⟨s1, s2, _, _⟩ := Pl.srt_spec _ hT.1 hT.2
  rw [ht] at s1 s2
  have hv1 : V * m ≤ p + t ∧ p + t < V * m + m := by
    have a := Int.mul_ediv_add_emod (p + t) m
    have b := Int.emod_nonneg (p + t) (show m ≠ 0 by omega)
    have c := Int.emod_lt_of_pos (p + t) (show 0 < m by omega)
    rw [hVt, Int.mul_comm] at a
    omega
  have hS1 : S < (S / m + 1) * m := by
    have a := Int.mul_ediv_add_emod S m
    have c := Int.emod_lt_of_pos S (show 0 < m by omega)
    rw [Int.mul_comm] at a
    rw [Int.add_mul]; omega
  have hVM : -M ≤ V ∧ V ≤ M := by
    rw [hMS] at hS1
    constructor
    · have : -M * m ≤ p + t := by rw [Int.neg_mul]; omega
      have := (Int.le_ediv_iff_mul_le (show 0 < m by omega)).2 this
      omega
    · have : V * m < (M + 1) * m := by rw [Int.add_mul]; omega
      have := Int.lt_of_mul_lt_mul_right this (by omega)
      omega
  -- the test
  have htest : ∀ v, -M ≤ v → v ≤ M → (-4611686018427387904 ≤ p - v * m ∧ p - v * m ≤ 4611686018427387904) ∧ (-2305843009213693952 ≤ v * m ∧ v * m ≤ 2305843009213693952) ∧ (0 ≤ Pl.rsign (p - v * m) q d ↔ v ≤ V) := by
    intro v hv1' hv2'
    have a1 : v * m ≤ M * m := Int.mul_le_mul_of_nonneg_right hv2' (by omega)
    have a2 : -M * m ≤ v * m := Int.mul_le_mul_of_nonneg_right hv1' (by omega)
    rw [Int.neg_mul] at a2
    refine ⟨by omega, by omega, ?_⟩
    have e : p - v * m = -(v * m - p) := by omega
    rw [e, Pl.cut_iff]
    constructor
    · intro hle
      have : v * m - p < t + 1 := by
        apply Int.not_le.1
        intro hc
        have := Pl.ss_le hc
        omega
      have : v * m < (V + 1) * m := by rw [Int.add_mul]; omega
      have := Int.lt_of_mul_lt_mul_right this (by omega)
      omega
    · intro hle
      have a3 : v * m ≤ V * m := Int.mul_le_mul_of_nonneg_right hle (by omega)
      have := Pl.ss_le (a := v * m - p) (b := t) (by omega)
      omega
  have HT := Lib.hid htest; clear htest
  have hmag50 : 0 ≤ Pl.mag q * 50000 ∧ Pl.mag q * 50000 ≤ 107374182400000 := by omega
  clear hMm hS1 hv1 hdiv s1 s2 hT hfar hVt
  go_enter Try.func46, Try.ntmps46
  go_wp2_with fail
  refine (in2_yes p 1152921504606846976 (by omega) (by omega) _).mono ?_
  rintro e w1 ⟨rfl, rfl⟩
  go_wp2_with fail
  refine (in2_yes q 2147483648 (by omega) (by omega) _).mono ?_
  rintro e w1 ⟨rfl, rfl⟩
  go_wp2_with fail
  refine (mag1_any p (by omega) _).mono ?_
  rintro e w1 ⟨rfl, rfl⟩
  go_wp2_with fail
  refine (mag1_any q (by omega) _).mono ?_
  rintro e w1 ⟨rfl, rfl⟩
  go_wp2_with fail
  go_loop [11, 12] (fun lo hi => ∃ l h : Int, -M ≤ l ∧ l ≤ V ∧ V ≤ h ∧ h ≤ M ∧ lo = .int .i64 l ∧ hi = .int .i64 h) (fun lo hi => (intOf hi - intOf lo).toNat)
  case atStart => exact ⟨-M, M, by omega, by omega, by omega, by omega, rfl, rfl⟩
  case round =>
    obtain ⟨l, h, b1, b2, b3, b4, rfl, rfl⟩ := hrel
    by_cases hlt : l < h
    · obtain ⟨v, hv⟩ : ∃ v, h - (h - l) / 2 = v := ⟨_, rfl⟩
      have hvb : l < v ∧ v ≤ h := by omega
      obtain ⟨t1, t2, t3⟩ := HT.out v (by omega) (by omega)
      have CS := Lib.hid (fun w => rsign2_ok (p - v * m) q d t1 hq w)
      have T3 := Lib.hid t3; clear t3
      by_cases c : 0 ≤ Pl.rsign (p - v * m) q d
      · have hvV := T3.out.1 c
        go_wp2_with fail
        refine (CS.out _).mono ?_
        rintro e w2 ⟨rfl, rfl⟩
        go_wp2_with fail
        go_round
        case rel => exact ⟨v, h, by omega, by omega, by omega, by omega, rfl, rfl⟩
        case measure => simp [intOf] <;> omega
      · have hvV : V < v := by
          apply Int.not_le.1
          intro hc
          exact c (T3.out.2 hc)
        go_wp2_with fail
        refine (CS.out _).mono ?_
        rintro e w2 ⟨rfl, rfl⟩
        go_wp2_with fail
        go_round
        case rel => exact ⟨l, v - 1, by omega, by omega, by omega, by omega, rfl, rfl⟩
        case measure => simp [intOf] <;> omega
    · have hlV : l = V := by omega
      subst hlV
      go_wp2_with fail
      go_ret2
      exact ⟨rfl, rfl⟩

theorem cut2_ok (p q d m : Int) (h : Pl.okc p q d m) (w : World) :
    Calls Try.prog 46 #[.int .i64 p, .int .i64 q, .int .i64 d, .int .i64 m] w fun e w' => e = .returned (.tuple #[.int .i64 ((p + Pl.srt (Pl.ss q * d)) / m), .bool true]) ∧ w = w' :=
  cut2_core p q d m 0 _ _ h (Lib.hid rfl) (Lib.hid rfl) w

theorem cut2_no (p q d m : Int) (h : ¬ Pl.okc p q d m) (w : World) :
    Calls Try.prog 46 #[.int .i64 p, .int .i64 q, .int .i64 d, .int .i64 m] w fun e w' => e = .returned (.tuple #[.int .i64 0, .bool false]) ∧ w = w' := by
  by_cases hp : -1152921504606846976 ≤ p ∧ p ≤ 1152921504606846976
  · by_cases hq : -2147483648 ≤ q ∧ q ≤ 2147483648
    · have hc : d < 0 ∨ (0 ≤ d ∧ 2147483648 < d) ∨ (0 ≤ d ∧ d ≤ 2147483648 ∧ m < 1) ∨ (0 ≤ d ∧ d ≤ 2147483648 ∧ 1 ≤ m ∧ 1099511627776 < m) := by
        unfold Pl.okc Pl.okq at h
        omega
      clear h
      rcases hc with h1 | ⟨h1, h2⟩ | ⟨h1, h2, h3⟩ | ⟨h1, h2, h3, h4⟩
      all_goals
        go_enter Try.func46, Try.ntmps46
        go_wp2_with fail
        refine (in2_yes p 1152921504606846976 (by omega) hp _).mono ?_
        rintro e w1 ⟨rfl, rfl⟩
        go_wp2_with fail
        refine (in2_yes q 2147483648 (by omega) hq _).mono ?_
        rintro e w1 ⟨rfl, rfl⟩
        go_wp2_with fail
        go_ret2
        exact ⟨rfl, rfl⟩
    · clear h
      go_enter Try.func46, Try.ntmps46
      go_wp2_with fail
      refine (in2_yes p 1152921504606846976 (by omega) hp _).mono ?_
      rintro e w1 ⟨rfl, rfl⟩
      go_wp2_with fail
      refine (in2_no q 2147483648 (by omega) hq _).mono ?_
      rintro e w1 ⟨rfl, rfl⟩
      go_wp2_with fail
      go_ret2
      exact ⟨rfl, rfl⟩
  · clear h
    go_enter Try.func46, Try.ntmps46
    go_wp2_with fail
    refine (in2_no p 1152921504606846976 (by omega) hp _).mono ?_
    rintro e w1 ⟨rfl, rfl⟩
    go_wp2_with fail
    go_ret2
    exact ⟨rfl, rfl⟩
end Go.Proofs.Ytedidjdifobclaa
