/- The walks of package root: sign, may, Sign, Cut. -/
import Derived.Test.YtnienpalbfgflaaW1
import Derived.Test.YtnienpalbfgflaaPlRoot
namespace Go.Proofs.Ytnienpalbfgflaa
set_option linter.unusedVariables false
open Go.RowKit

theorem sign_any (v : Int) (w : World) : Calls Try.prog 53 #[.int .i64 v] w fun e w' => e = .returned (.int .i64 (Pl.sg v)) ∧ w = w' := by
  have hs : Pl.sg v = if v < 0 then -1 else if 0 < v then 1 else 0 := rfl
  have HS := Lib.hid hs; clear hs
  by_cases h1 : v < 0
  · go_enter Try.func53, Try.ntmps53
    go_wp2
    go_ret
    exact ⟨ret_int (by rw [HS.out, if_pos (by assumption)]), rfl⟩
  · by_cases h2 : 0 < v
    · go_enter Try.func53, Try.ntmps53
      go_wp2
      go_ret
      exact ⟨ret_int (by rw [HS.out, if_neg (by omega), if_pos (by assumption)]), rfl⟩
    · go_enter Try.func53, Try.ntmps53
      go_wp2
      go_ret
      exact ⟨ret_int (by rw [HS.out, if_neg (by omega), if_neg (by omega)]), rfl⟩

theorem rmay_yes (q d : Int) (h : Pl.okq q d) (w : World) : Calls Try.prog 43 #[.int .i64 q, .int .i64 d] w fun e w' => e = .returned (.bool true) ∧ w = w' := by
  obtain ⟨h1, h2, h3, h4⟩ := h
  go_enter Try.func43, Try.ntmps43
  go_wp2
  go_ret
  exact ⟨rfl, rfl⟩
theorem rmay_no (q d : Int) (h : ¬ Pl.okq q d) (w : World) : Calls Try.prog 43 #[.int .i64 q, .int .i64 d] w fun e w' => e = .returned (.bool false) ∧ w = w' := by
  have hc : q < -2147483648 ∨ (-2147483648 ≤ q ∧ 2147483648 < q) ∨ (-2147483648 ≤ q ∧ q ≤ 2147483648 ∧ d < 0) ∨ (-2147483648 ≤ q ∧ q ≤ 2147483648 ∧ 0 ≤ d ∧ 2147483648 < d) := by
    unfold Pl.okq at h; omega
  clear h
  rcases hc with h1 | ⟨h1, h2⟩ | ⟨h1, h2, h3⟩ | ⟨h1, h2, h3, h4⟩
  all_goals
    go_enter Try.func43, Try.ntmps43
    go_wp2
    go_ret
    exact ⟨ret_bool (by first | rfl | (rw [decide_eq_false_iff_not]; omega)), rfl⟩

theorem rsign_ok (p q d : Int) (hp : -4611686018427387904 ≤ p ∧ p ≤ 4611686018427387904) (h : Pl.okq q d) (w : World) :
    Calls Try.prog 44 #[.int .i64 p, .int .i64 q, .int .i64 d] w fun e w' => e = .returned (.tuple #[.int .i64 (Pl.rsign p q d), .bool true]) ∧ Grown w w' := by
  have hb1 := Pl.sg_bd p
  have hb2 := Pl.sg_mul_bd q d
  have hb3 := Pl.sg_cmp_bd p (p * p) (q * q * d)
  have hq := Pl.sq_le31 q ⟨h.1, h.2.1⟩
  have hd : -9223372036854775808 ≤ d ∧ d ≤ 9223372036854775807 := by have := h.2.2; omega
  by_cases c1 : Pl.sg p = 0 ∨ Pl.sg p = Pl.sg q * Pl.sg d
  · have hv := Lib.hid (Pl.rsign_same p q d c1)
    have hc : (Pl.sg p == 0) = true ∨ ((Pl.sg p == 0) = false ∧ (Pl.sg p == Pl.sg q * Pl.sg d) = true) := by
      by_cases c : Pl.sg p = 0
      · exact .inl (beq_iff_eq.2 c)
      · exact .inr ⟨beq_eq_false_iff_ne.2 c, beq_iff_eq.2 (c1.resolve_left c)⟩
    clear c1
    rcases hc with c1 | ⟨c1, c2⟩
    all_goals
      go_enter Try.func44, Try.ntmps44
      go_wp2_with fail
      refine (rmay_yes q d h _).mono ?_
      rintro e w1 ⟨rfl, rfl⟩
      go_wp2_with fail
      refine (sign_any p _).mono ?_
      rintro e w1 ⟨rfl, rfl⟩
      go_wp2_with fail
      refine (sign_any q _).mono ?_
      rintro e w1 ⟨rfl, rfl⟩
      go_wp2_with fail
      refine (sign_any d _).mono ?_
      rintro e w1 ⟨rfl, rfl⟩
      go_wp2
      go_ret2
      exact ⟨ret_ib (by rw [hv.out]) rfl, Grown.refl _⟩
  · have n0 : (Pl.sg p == 0) = false := beq_eq_false_iff_ne.2 (fun e => c1 (.inl e))
    have n1 : (Pl.sg p == Pl.sg q * Pl.sg d) = false := beq_eq_false_iff_ne.2 (fun e => c1 (.inr e))
    by_cases c2 : Pl.sg q * Pl.sg d = 0
    · have hv := Lib.hid (Pl.rsign_none p q d c2)
      have c2' : (Pl.sg q * Pl.sg d == 0) = true := beq_iff_eq.2 c2
      clear c1 c2
      go_enter Try.func44, Try.ntmps44
      go_wp2_with fail
      refine (rmay_yes q d h _).mono ?_
      rintro e w1 ⟨rfl, rfl⟩
      go_wp2_with fail
      refine (sign_any p _).mono ?_
      rintro e w1 ⟨rfl, rfl⟩
      go_wp2_with fail
      refine (sign_any q _).mono ?_
      rintro e w1 ⟨rfl, rfl⟩
      go_wp2_with fail
      refine (sign_any d _).mono ?_
      rintro e w1 ⟨rfl, rfl⟩
      go_wp2
      go_ret2
      exact ⟨ret_ib (by rw [hv.out]) rfl, Grown.refl _⟩
    · have hv := Lib.hid (Pl.rsign_apart p q d h.2.2.1 (fun e => c1 (.inl e)) (fun e => c1 (.inr e)) c2)
      have c2' : (Pl.sg q * Pl.sg d == 0) = false := beq_eq_false_iff_ne.2 c2
      clear c1 c2
      go_enter Try.func44, Try.ntmps44
      go_wp2_with fail
      refine (rmay_yes q d h _).mono ?_
      rintro e w1 ⟨rfl, rfl⟩
      go_wp2_with fail
      refine (sign_any p _).mono ?_
      rintro e w1 ⟨rfl, rfl⟩
      go_wp2_with fail
      refine (sign_any q _).mono ?_
      rintro e w1 ⟨rfl, rfl⟩
      go_wp2_with fail
      refine (sign_any d _).mono ?_
      rintro e w1 ⟨rfl, rfl⟩
      go_wp2_with fail
      refine (cmp_any p p (q * q) d (by omega) (by omega) (by omega) hd _).mono ?_
      rintro e w2 ⟨rfl, g2⟩
      go_wp2
      go_ret2
      exact ⟨ret_ib (by rw [hv.out]) rfl, g2⟩

theorem rsign_no (p q d : Int) (h : ¬ (Pl.okq q d ∧ -4611686018427387904 ≤ p ∧ p ≤ 4611686018427387904)) (w : World) :
    Calls Try.prog 44 #[.int .i64 p, .int .i64 q, .int .i64 d] w fun e w' => e = .returned (.tuple #[.int .i64 0, .bool false]) ∧ Grown w w' := by
  by_cases hq : Pl.okq q d
  · have hc : p < -4611686018427387904 ∨ (-4611686018427387904 ≤ p ∧ 4611686018427387904 < p) := by
      have : ¬ (-4611686018427387904 ≤ p ∧ p ≤ 4611686018427387904) := fun e => h ⟨hq, e⟩
      omega
    clear h
    rcases hc with h1 | ⟨h1, h2⟩
    all_goals
      go_enter Try.func44, Try.ntmps44
      go_wp2_with fail
      refine (rmay_yes q d hq _).mono ?_
      rintro e w1 ⟨rfl, rfl⟩
      go_wp2
      go_ret2
      exact ⟨rfl, Grown.refl _⟩
  · clear h
    go_enter Try.func44, Try.ntmps44
    go_wp2_with fail
    refine (rmay_no q d hq _).mono ?_
    rintro e w1 ⟨rfl, rfl⟩
    go_wp2
    go_ret2
    exact ⟨rfl, Grown.refl _⟩
def Pl.okc (p q d m : Int) : Prop := Pl.okq q d ∧ -1152921504606846976 ≤ p ∧ p ≤ 1152921504606846976 ∧ 1 ≤ m ∧ m ≤ 1099511627776

theorem cut_core (p q d m T : Int) (h : Pl.okc p q d m) (HT : Hid (Pl.ss q * d = T)) (w : World) :
    Calls Try.prog 34 #[.int .i64 p, .int .i64 q, .int .i64 d, .int .i64 m] w fun e w' => e = .returned (.tuple #[.int .i64 ((p + Pl.srt T) / m), .bool true]) ∧ Grown w w' := by
  obtain ⟨hq, hp0, hp1, hm0, hm1⟩ := h
  have hT := Pl.T_bd q d hq
  rw [HT.out] at hT
  have hsp := Pl.srt_spec T hT.1 hT.2
  have hfl := Pl.floor_of_quot (p + Pl.srt T) m (by omega)
  have hds : Pl.srt T = Pl.srtTo T 48 := rfl
  go_enter Try.func34, Try.ntmps34
  go_wp2_with fail
  refine (rmay_yes q d hq _).mono ?_
  rintro e w1 ⟨rfl, rfl⟩
  have HSP := Lib.hid hsp; clear hsp
  have HFL := Lib.hid hfl; clear hfl
  have HDS := Lib.hid hds; clear hds
  have HTB := Lib.hid hT; clear hT
  go_wp2
  go_loopw [10, 35] (fun t i wr => ∃ k : Nat, k ≤ 48 ∧ i = .int .i64 (k : Int) ∧ t = .int .i64 (Pl.srtTo T k) ∧ Grown w wr) (fun _ i _ => (48 - intOf i).toNat)
  case atStart => exact ⟨0, by omega, rfl, rfl, Grown.refl _⟩
  case round =>
    obtain ⟨k, hk, rfl, rfl, hg⟩ := hrel
    by_cases hlt : k < 48
    · have hb := Pl.srtTo_bd T HTB.out.1 HTB.out.2 k (by omega)
      have hw := Pl.pow_lt64 (47 - k) (by omega)
      have he : (47 - (k : Int)).toNat = 47 - k := by omega
      have hs : Pl.srtTo T (k + 1) = if Pl.ss (Pl.srtTo T k + 2 ^ (47 - k)) ≤ T then Pl.srtTo T k + 2 ^ (47 - k) else Pl.srtTo T k := rfl
      have hi := Pl.cut_iff (Pl.srtTo T k + 2 ^ (47 - k)) q d
      rw [HT.out] at hi
      have HS := Lib.hid hs; clear hs
      have HI := Lib.hid hi; clear hi
      have hpw : (2 : Int) ^ (47 - k) ≤ 281474976710656 := by omega
      have HSG : ∀ w, _ := fun w => rsign_ok (-(Pl.srtTo T k + 2 ^ (47 - k))) q d (by omega) hq w
      have HSG' := Lib.hid HSG; clear HSG
      by_cases c : 0 ≤ Pl.rsign (-(Pl.srtTo T k + 2 ^ (47 - k))) q d
      · go_wp2_with fail
        refine (HSG'.out _).mono ?_
        rintro e w2 ⟨rfl, g2⟩
        go_wp2_with fail
        go_roundw
        case rel => exact ⟨k + 1, by omega, by go_num, by rw [HS.out, if_pos (HI.out.1 c)], grown_trans hg g2⟩
        case measure => simp [intOf] <;> omega
      · go_wp2_with fail
        refine (HSG'.out _).mono ?_
        rintro e w2 ⟨rfl, g2⟩
        go_wp2_with fail
        go_roundw
        case rel => exact ⟨k + 1, by omega, by go_num, by rw [HS.out, if_neg (fun h => by have := HI.out.2 h; omega)], grown_trans hg g2⟩
        case measure => simp [intOf] <;> omega
    · obtain rfl : k = 48 := by omega
      rw [← HDS.out]
      have hsb := HSP.out.2.2
      have hqb := Pl.tdiv_bd (p + Pl.srt T) m (by omega)
      have hmb : Pl.mag (p + Pl.srt T) ≤ 1153062242095202304 := by unfold Pl.mag; split <;> omega
      by_cases c : (p + Pl.srt T).tmod m < 0
      · have hqc := hqb.2.2 c
        have hmb2 : -1153062242095202304 < (p + Pl.srt T).tdiv m ∧ (p + Pl.srt T).tdiv m ≤ 1153062242095202304 := by omega
        clear hqc hqb
        go_wp2_with fail
        go_ret2
        exact ⟨ret_ib (by rw [← HFL.out, if_pos c]) rfl, hg⟩
      · have hmb2 : -1153062242095202304 ≤ (p + Pl.srt T).tdiv m ∧ (p + Pl.srt T).tdiv m ≤ 1153062242095202304 := by omega
        clear hqb
        go_wp2_with fail
        go_ret2
        exact ⟨ret_ib (by rw [← HFL.out, if_neg (by omega)]) rfl, hg⟩

theorem cut_ok (p q d m : Int) (h : Pl.okc p q d m) (w : World) :
    Calls Try.prog 34 #[.int .i64 p, .int .i64 q, .int .i64 d, .int .i64 m] w fun e w' => e = .returned (.tuple #[.int .i64 ((p + Pl.srt (Pl.ss q * d)) / m), .bool true]) ∧ Grown w w' :=
  cut_core p q d m _ h (Lib.hid rfl) w

theorem cut_no (p q d m : Int) (h : ¬ Pl.okc p q d m) (w : World) :
    Calls Try.prog 34 #[.int .i64 p, .int .i64 q, .int .i64 d, .int .i64 m] w fun e w' => e = .returned (.tuple #[.int .i64 0, .bool false]) ∧ Grown w w' := by
  by_cases hq : Pl.okq q d
  · have hc : p < -1152921504606846976 ∨ (-1152921504606846976 ≤ p ∧ 1152921504606846976 < p) ∨ (-1152921504606846976 ≤ p ∧ p ≤ 1152921504606846976 ∧ m < 1) ∨ (-1152921504606846976 ≤ p ∧ p ≤ 1152921504606846976 ∧ 1 ≤ m ∧ 1099511627776 < m) := by
      have : ¬ (-1152921504606846976 ≤ p ∧ p ≤ 1152921504606846976 ∧ 1 ≤ m ∧ m ≤ 1099511627776) := fun e => h ⟨hq, e⟩
      omega
    clear h
    rcases hc with h1 | ⟨h1, h2⟩ | ⟨h1, h2, h3⟩ | ⟨h1, h2, h3, h4⟩
    all_goals
      go_enter Try.func34, Try.ntmps34
      go_wp2_with fail
      refine (rmay_yes q d hq _).mono ?_
      rintro e w1 ⟨rfl, rfl⟩
      go_wp2_with fail
      go_ret2
      exact ⟨rfl, Grown.refl _⟩
  · clear h
    go_enter Try.func34, Try.ntmps34
    go_wp2_with fail
    refine (rmay_no q d hq _).mono ?_
    rintro e w1 ⟨rfl, rfl⟩
    go_wp2_with fail
    go_ret2
    exact ⟨rfl, Grown.refl _⟩
end Go.Proofs.Ytnienpalbfgflaa
