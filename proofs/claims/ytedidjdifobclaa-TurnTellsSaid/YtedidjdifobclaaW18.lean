/- The walks of tympanref1.MulDiv and Floor. -/
import Derived.Test.YtedidjdifobclaaW17
namespace Go.Proofs.Ytedidjdifobclaa
set_option linter.unusedVariables false
open Go.RowKit

/-- what 'signed' tells -/
theorem signedr_any (q : Int) (m : Bool) (q0 : 0 ≤ q) (q1 : q ≤ 18446744073709551615) : ∃ (v : Int) (ok : Bool),
    (∀ w, Calls Try.prog 97 #[.int .u64 q, .bool m] w fun e w' => e = .returned (.tuple #[.int .i64 v, .bool ok]) ∧ w = w') ∧
    ((Pl.i64 (if m = true then -q else q) ∧ v = (if m = true then -q else q) ∧ ok = true) ∨ (¬ Pl.i64 (if m = true then -q else q) ∧ v = 0 ∧ ok = false)) := by
  unfold Pl.i64
  cases m with
  | false =>
    by_cases h : q ≤ 9223372036854775807
    · exact ⟨q, true, fun w => signedr_pos q q0 h w, .inl ⟨by simp; omega, by simp, rfl⟩⟩
    · exact ⟨0, false, fun w => signedr_no q false q1 (.inl ⟨rfl, by omega⟩) w, .inr ⟨by simp; omega, rfl, rfl⟩⟩
  | true =>
    by_cases h : q ≤ 9223372036854775808
    · exact ⟨-q, true, fun w => signedr_neg q q0 h w, .inl ⟨by simp; omega, by simp, rfl⟩⟩
    · exact ⟨0, false, fun w => signedr_no q true q1 (.inr ⟨rfl, by omega⟩) w, .inr ⟨by simp; omega, rfl, rfl⟩⟩

theorem mdr_no (a b d : Int) (SH : Hid (∀ w, Calls Try.prog 96 #[.int .i64 a, .int .i64 b, .int .i64 d] w fun e w' => e = .returned (.tuple #[.int .u64 0, .int .u64 0, .bool false, .bool false]) ∧ Grown w w')) (w : World) :
    Calls Try.prog 54 #[.int .i64 a, .int .i64 b, .int .i64 d] w fun e w' => e = .returned (.tuple #[.int .i64 0, .bool false]) ∧ Grown w w' := by
  go_enter Try.func54, Try.ntmps54
  go_wp2_with fail
  refine (SH.out _).mono ?_
  rintro e w1 ⟨rfl, g1⟩
  go_wp2
  go_ret2
  exact ⟨rfl, g1⟩
theorem flr_no (a b d : Int) (SH : Hid (∀ w, Calls Try.prog 96 #[.int .i64 a, .int .i64 b, .int .i64 d] w fun e w' => e = .returned (.tuple #[.int .u64 0, .int .u64 0, .bool false, .bool false]) ∧ Grown w w')) (w : World) :
    Calls Try.prog 55 #[.int .i64 a, .int .i64 b, .int .i64 d] w fun e w' => e = .returned (.tuple #[.int .i64 0, .bool false]) ∧ Grown w w' := by
  go_enter Try.func55, Try.ntmps55
  go_wp2_with fail
  refine (SH.out _).mono ?_
  rintro e w1 ⟨rfl, g1⟩
  go_wp2
  go_ret2
  exact ⟨rfl, g1⟩

/-- the last step: the quotient, one more or not, with its sign -/
theorem mdr_core (a b d Q R D L n v : Int) (m ok : Bool) (q0 : 0 ≤ Q) (q1 : Q ≤ 18446744073709551615) (r0 : 0 ≤ R) (r1 : R < D) (D1 : D ≤ 9223372036854775808) (hL : D - R = L)
    (SH : Hid (∀ w, Calls Try.prog 96 #[.int .i64 a, .int .i64 b, .int .i64 d] w fun e w' => e = .returned (.tuple #[.int .u64 Q, .int .u64 R, .bool m, .bool true]) ∧ Grown w w'))
    (MG : Hid (∀ w, Calls Try.prog 90 #[.int .i64 d] w fun e w' => e = .returned (.int .u64 D) ∧ w = w'))
    (hn : (n = Q + 1 ∧ (L < R ∨ (R = L ∧ Q % 2 = 1))) ∨ (n = Q ∧ ¬ (L < R ∨ (R = L ∧ Q % 2 = 1))))
    (SG : Hid (n ≤ 18446744073709551615 → ∀ w, Calls Try.prog 97 #[.int .u64 n, .bool m] w fun e w' => e = .returned (.tuple #[.int .i64 v, .bool ok]) ∧ w = w'))
    (hx : Hid (18446744073709551615 < n → v = 0 ∧ ok = false)) (w : World) :
    Calls Try.prog 54 #[.int .i64 a, .int .i64 b, .int .i64 d] w fun e w' => e = .returned (.tuple #[.int .i64 v, .bool ok]) ∧ Grown w w' := by
  have L0 : 0 < L := by omega
  have L1 : L ≤ 9223372036854775808 := by omega
  have t2 := Lib.hid (Int.tmod_eq_emod_of_nonneg (b := 2) q0)
  by_cases hmax : n ≤ 18446744073709551615
  · have SG := Lib.hid (SG.out hmax)
    rcases hn with ⟨rfl, h | ⟨h, h'⟩⟩ | ⟨rfl, h⟩
    · have nm : (Q == 18446744073709551615) = false := beq_eq_false_iff_ne.2 (by omega)
      go_enter Try.func54, Try.ntmps54
      go_wp2_with fail
      refine (SH.out _).mono ?_
      rintro e w1 ⟨rfl, g1⟩
      go_wp2_with fail
      refine (MG.out _).mono ?_
      rintro e w2 ⟨rfl, rfl⟩
      go_wp2_with fail
      refine (SG.out _).mono ?_
      rintro e w2 ⟨rfl, rfl⟩
      go_wp2
      go_ret2
      exact ⟨rfl, g1⟩
    · have nm : (Q == 18446744073709551615) = false := beq_eq_false_iff_ne.2 (by omega)
      subst h
      obtain rfl : D = R + R := by omega
      have e0 : R + R - R = R := by omega
      have e2 : Q.tmod 2 = 1 := by rw [t2.out]; exact h'
      clear hL h' t2
      go_enter Try.func54, Try.ntmps54
      go_wp2_with fail
      refine (SH.out _).mono ?_
      rintro e w1 ⟨rfl, g1⟩
      go_wp2_with fail
      refine (MG.out _).mono ?_
      rintro e w2 ⟨rfl, rfl⟩
      go_wp2_with fail
      refine (SG.out _).mono ?_
      rintro e w2 ⟨rfl, rfl⟩
      go_wp2
      go_ret2
      exact ⟨rfl, g1⟩
    · have n1 : ¬ (L < R) := by omega
      by_cases h1 : R = L
      · have e2 : n.tmod 2 = 0 := by rw [t2.out]; omega
        subst h1
        obtain rfl : D = R + R := by omega
        have e0 : R + R - R = R := by omega
        clear hL h t2 n1
        go_enter Try.func54, Try.ntmps54
        go_wp2_with fail
        refine (SH.out _).mono ?_
        rintro e w1 ⟨rfl, g1⟩
        go_wp2_with fail
        refine (MG.out _).mono ?_
        rintro e w2 ⟨rfl, rfl⟩
        go_wp2_with fail
        refine (SG.out _).mono ?_
        rintro e w2 ⟨rfl, rfl⟩
        go_wp2
        go_ret2
        exact ⟨rfl, g1⟩
      · have e1 : (R == L) = false := beq_eq_false_iff_ne.2 h1
        have h1 := Lib.hid h1
        have h := Lib.hid h
        go_enter Try.func54, Try.ntmps54
        go_wp2_with fail
        refine (SH.out _).mono ?_
        rintro e w1 ⟨rfl, g1⟩
        go_wp2_with fail
        refine (MG.out _).mono ?_
        rintro e w2 ⟨rfl, rfl⟩
        go_wp2_with fail
        refine (SG.out _).mono ?_
        rintro e w2 ⟨rfl, rfl⟩
        go_wp2
        go_ret2
        exact ⟨rfl, g1⟩
  · obtain ⟨rfl, rfl⟩ := hx.out (by omega)
    rcases hn with ⟨rfl, h | ⟨h, h'⟩⟩ | ⟨rfl, h⟩
    · have nm : (Q == 18446744073709551615) = true := beq_iff_eq.2 (by omega)
      go_enter Try.func54, Try.ntmps54
      go_wp2_with fail
      refine (SH.out _).mono ?_
      rintro e w1 ⟨rfl, g1⟩
      go_wp2_with fail
      refine (MG.out _).mono ?_
      rintro e w2 ⟨rfl, rfl⟩
      go_wp2
      go_ret2
      exact ⟨rfl, g1⟩
    · have nm : (Q == 18446744073709551615) = true := beq_iff_eq.2 (by omega)
      subst h
      obtain rfl : D = R + R := by omega
      have e0 : R + R - R = R := by omega
      have e2 : Q.tmod 2 = 1 := by rw [t2.out]; exact h'
      clear hL h' t2
      go_enter Try.func54, Try.ntmps54
      go_wp2_with fail
      refine (SH.out _).mono ?_
      rintro e w1 ⟨rfl, g1⟩
      go_wp2_with fail
      refine (MG.out _).mono ?_
      rintro e w2 ⟨rfl, rfl⟩
      go_wp2
      go_ret2
      exact ⟨rfl, g1⟩
    · omega

theorem flr_core (a b d Q R n v : Int) (m ok : Bool) (q0 : 0 ≤ Q) (q1 : Q ≤ 18446744073709551615) (r0 : 0 ≤ R) (r1 : R ≤ 9223372036854775808)
    (SH : Hid (∀ w, Calls Try.prog 96 #[.int .i64 a, .int .i64 b, .int .i64 d] w fun e w' => e = .returned (.tuple #[.int .u64 Q, .int .u64 R, .bool m, .bool true]) ∧ Grown w w'))
    (hn : (n = Q + 1 ∧ (m = true ∧ 0 < R)) ∨ (n = Q ∧ ¬ (m = true ∧ 0 < R)))
    (SG : Hid (n ≤ 18446744073709551615 → ∀ w, Calls Try.prog 97 #[.int .u64 n, .bool m] w fun e w' => e = .returned (.tuple #[.int .i64 v, .bool ok]) ∧ w = w'))
    (hx : Hid (18446744073709551615 < n → v = 0 ∧ ok = false)) (w : World) :
    Calls Try.prog 55 #[.int .i64 a, .int .i64 b, .int .i64 d] w fun e w' => e = .returned (.tuple #[.int .i64 v, .bool ok]) ∧ Grown w w' := by
  by_cases hmax : n ≤ 18446744073709551615
  · have SG := Lib.hid (SG.out hmax)
    rcases hn with ⟨rfl, rfl, h⟩ | ⟨rfl, h⟩
    · have nm : (Q == 18446744073709551615) = false := beq_eq_false_iff_ne.2 (by omega)
      go_enter Try.func55, Try.ntmps55
      go_wp2_with fail
      refine (SH.out _).mono ?_
      rintro e w1 ⟨rfl, g1⟩
      go_wp2_with fail
      refine (SG.out _).mono ?_
      rintro e w2 ⟨rfl, rfl⟩
      go_wp2
      go_ret2
      exact ⟨rfl, g1⟩
    · cases m with
      | false =>
        clear h
        go_enter Try.func55, Try.ntmps55
        go_wp2_with fail
        refine (SH.out _).mono ?_
        rintro e w1 ⟨rfl, g1⟩
        go_wp2_with fail
        refine (SG.out _).mono ?_
        rintro e w2 ⟨rfl, rfl⟩
        go_wp2
        go_ret2
        exact ⟨rfl, g1⟩
      | true =>
        obtain rfl : R = 0 := by
          have : ¬ 0 < R := fun h' => h ⟨rfl, h'⟩
          omega
        clear h
        go_enter Try.func55, Try.ntmps55
        go_wp2_with fail
        refine (SH.out _).mono ?_
        rintro e w1 ⟨rfl, g1⟩
        go_wp2_with fail
        refine (SG.out _).mono ?_
        rintro e w2 ⟨rfl, rfl⟩
        go_wp2
        go_ret2
        exact ⟨rfl, g1⟩
  · obtain ⟨rfl, rfl⟩ := hx.out (by omega)
    rcases hn with ⟨rfl, rfl, h⟩ | ⟨rfl, h⟩
    · have nm : (Q == 18446744073709551615) = true := beq_iff_eq.2 (by omega)
      go_enter Try.func55, Try.ntmps55
      go_wp2_with fail
      refine (SH.out _).mono ?_
      rintro e w1 ⟨rfl, g1⟩
      go_wp2
      go_ret2
      exact ⟨rfl, g1⟩
    · omega

/-- the program and the reference tell the same -/
theorem muldiv2_ex (a b d : Int) (ha : Pl.i64 a) (hb : Pl.i64 b) (hd : Pl.i64 d) : ∃ (v : Int) (ok : Bool),
    (∀ w, Calls Try.prog 26 #[.int .i64 a, .int .i64 b, .int .i64 d] w fun e w' => e = .returned (.tuple #[.int .i64 v, .bool ok]) ∧ Grown w w') ∧
    (∀ w, Calls Try.prog 54 #[.int .i64 a, .int .i64 b, .int .i64 d] w fun e w' => e = .returned (.tuple #[.int .i64 v, .bool ok]) ∧ Grown w w') ∧
    ((d ≠ 0 ∧ Pl.i64 (Pl.share a b d) ∧ v = Pl.share a b d ∧ ok = true) ∨ ((d = 0 ∨ ¬ Pl.i64 (Pl.share a b d)) ∧ v = 0 ∧ ok = false)) := by
  have P0 : 0 ≤ Pl.mag a * Pl.mag b := Int.mul_nonneg (Pl.mag_nn a) (Pl.mag_nn b)
  have D0 := Pl.mag_nn d
  have D1 := Pl.mag_le d hd.1 hd.2
  by_cases hlt : Pl.mag a * Pl.mag b / 18446744073709551616 < Pl.mag d
  · have h0 : d ≠ 0 := by
      rintro rfl
      have : Pl.mag 0 = 0 := rfl
      omega
    have sh := fun w => sharer_ok a b d _ _ ha hb hd rfl rfl hlt w
    have mg := mag1_any d hd
    have nb := Pl.near_bd (Pl.mag a * Pl.mag b) (Pl.mag d) P0 (by omega)
    have q1 : Pl.mag a * Pl.mag b / Pl.mag d < 18446744073709551616 := Int.ediv_lt_of_lt_mul (by omega) (by
      have := Int.mul_ediv_add_emod (Pl.mag a * Pl.mag b) 18446744073709551616
      have := Int.emod_lt_of_pos (Pl.mag a * Pl.mag b) (show (0 : Int) < 18446744073709551616 by decide)
      omega)
    have r0 := Int.emod_nonneg (Pl.mag a * Pl.mag b) (show Pl.mag d ≠ 0 by omega)
    have r1 := Int.emod_lt_of_pos (Pl.mag a * Pl.mag b) (show 0 < Pl.mag d by omega)
    obtain ⟨n, hn⟩ : ∃ n, Pl.near (Pl.mag a * Pl.mag b) (Pl.mag d) = n := ⟨_, rfl⟩
    have hs : Pl.share a b d = if Pl.sgn3 a b d = true then -n else n := by unfold Pl.share; rw [hn]
    have hc : (n = Pl.mag a * Pl.mag b / Pl.mag d + 1 ∧ (Pl.mag d - Pl.mag a * Pl.mag b % Pl.mag d < Pl.mag a * Pl.mag b % Pl.mag d ∨ (Pl.mag a * Pl.mag b % Pl.mag d = Pl.mag d - Pl.mag a * Pl.mag b % Pl.mag d ∧ Pl.mag a * Pl.mag b / Pl.mag d % 2 = 1))) ∨ (n = Pl.mag a * Pl.mag b / Pl.mag d ∧ ¬ (Pl.mag d - Pl.mag a * Pl.mag b % Pl.mag d < Pl.mag a * Pl.mag b % Pl.mag d ∨ (Pl.mag a * Pl.mag b % Pl.mag d = Pl.mag d - Pl.mag a * Pl.mag b % Pl.mag d ∧ Pl.mag a * Pl.mag b / Pl.mag d % 2 = 1))) := by
      rw [← hn]
      unfold Pl.near
      split
      · exact .inl ⟨rfl, by assumption⟩
      · exact .inr ⟨rfl, by assumption⟩
    rw [hn] at nb
    obtain ⟨v, ok, hv, SG, hx⟩ : ∃ (v : Int) (ok : Bool), ((Pl.i64 (Pl.share a b d) ∧ v = Pl.share a b d ∧ ok = true) ∨ (¬ Pl.i64 (Pl.share a b d) ∧ v = 0 ∧ ok = false)) ∧
        (n ≤ 18446744073709551615 → ∀ w, Calls Try.prog 97 #[.int .u64 n, .bool (Pl.sgn3 a b d)] w fun e w' => e = .returned (.tuple #[.int .i64 v, .bool ok]) ∧ w = w') ∧
        (18446744073709551615 < n → v = 0 ∧ ok = false) := by
      by_cases hm : n ≤ 18446744073709551615
      · obtain ⟨v, ok, S, h⟩ := signedr_any n (Pl.sgn3 a b d) (by omega) hm
        rw [← hs] at h
        exact ⟨v, ok, h, fun _ => S, fun h' => by omega⟩
      · refine ⟨0, false, .inr ⟨?_, rfl, rfl⟩, fun h => absurd h hm, fun _ => ⟨rfl, rfl⟩⟩
        rw [hs]
        unfold Pl.i64
        split <;> omega
    refine ⟨v, ok, ?_, fun w => mdr_core a b d _ _ _ _ n v _ ok nb.2.2 (by omega) r0 r1 D1 rfl (Lib.hid sh) (Lib.hid mg) hc (Lib.hid SG) (Lib.hid hx) w, ?_⟩
    · rcases hv with ⟨h, rfl, rfl⟩ | ⟨h, rfl, rfl⟩
      · exact fun w => muldiv_ok a b d ha hb hd h0 h w
      · exact fun w => muldiv_no a b d ha hb hd (.inr h) w
    · rcases hv with ⟨h, rfl, rfl⟩ | ⟨h, rfl, rfl⟩
      · exact .inl ⟨h0, h, rfl, rfl⟩
      · exact .inr ⟨.inr h, rfl, rfl⟩
  · have hno : d = 0 ∨ ¬ Pl.i64 (Pl.share a b d) := by
      by_cases h0 : d = 0
      · exact .inl h0
      · exact .inr fun h => hlt (Pl.share_fits a b d ha hb hd h0 h)
    exact ⟨0, false, fun w => muldiv_no a b d ha hb hd hno w, fun w => mdr_no a b d (Lib.hid fun w => sharer_no a b d ha hb hd (by omega) w) w, .inr ⟨hno, rfl, rfl⟩⟩

theorem floor2_ex (a b d : Int) (ha : Pl.i64 a) (hb : Pl.i64 b) (hd : Pl.i64 d) : ∃ (v : Int) (ok : Bool),
    (∀ w, Calls Try.prog 27 #[.int .i64 a, .int .i64 b, .int .i64 d] w fun e w' => e = .returned (.tuple #[.int .i64 v, .bool ok]) ∧ Grown w w') ∧
    (∀ w, Calls Try.prog 55 #[.int .i64 a, .int .i64 b, .int .i64 d] w fun e w' => e = .returned (.tuple #[.int .i64 v, .bool ok]) ∧ Grown w w') := by
  have P0 : 0 ≤ Pl.mag a * Pl.mag b := Int.mul_nonneg (Pl.mag_nn a) (Pl.mag_nn b)
  have D0 := Pl.mag_nn d
  have D1 := Pl.mag_le d hd.1 hd.2
  by_cases hlt : Pl.mag a * Pl.mag b / 18446744073709551616 < Pl.mag d
  · have h0 : d ≠ 0 := by
      rintro rfl
      have : Pl.mag 0 = 0 := rfl
      omega
    have sh := fun w => sharer_ok a b d _ _ ha hb hd rfl rfl hlt w
    have nb := Pl.flm_bd (Pl.mag a * Pl.mag b) (Pl.mag d) (Pl.sgn3 a b d) P0 (by omega)
    have q1 : Pl.mag a * Pl.mag b / Pl.mag d < 18446744073709551616 := Int.ediv_lt_of_lt_mul (by omega) (by
      have := Int.mul_ediv_add_emod (Pl.mag a * Pl.mag b) 18446744073709551616
      have := Int.emod_lt_of_pos (Pl.mag a * Pl.mag b) (show (0 : Int) < 18446744073709551616 by decide)
      omega)
    have r0 := Int.emod_nonneg (Pl.mag a * Pl.mag b) (show Pl.mag d ≠ 0 by omega)
    have r1 := Int.emod_lt_of_pos (Pl.mag a * Pl.mag b) (show 0 < Pl.mag d by omega)
    obtain ⟨n, hn⟩ : ∃ n, Pl.flm (Pl.mag a * Pl.mag b) (Pl.mag d) (Pl.sgn3 a b d) = n := ⟨_, rfl⟩
    have hs : Pl.flo a b d = if Pl.sgn3 a b d = true then -n else n := by unfold Pl.flo; rw [hn]
    have hc : (n = Pl.mag a * Pl.mag b / Pl.mag d + 1 ∧ (Pl.sgn3 a b d = true ∧ 0 < Pl.mag a * Pl.mag b % Pl.mag d)) ∨ (n = Pl.mag a * Pl.mag b / Pl.mag d ∧ ¬ (Pl.sgn3 a b d = true ∧ 0 < Pl.mag a * Pl.mag b % Pl.mag d)) := by
      rw [← hn]
      unfold Pl.flm
      split
      · exact .inl ⟨rfl, by assumption⟩
      · exact .inr ⟨rfl, by assumption⟩
    rw [hn] at nb
    obtain ⟨v, ok, hv, SG, hx⟩ : ∃ (v : Int) (ok : Bool), ((Pl.i64 (Pl.flo a b d) ∧ v = Pl.flo a b d ∧ ok = true) ∨ (¬ Pl.i64 (Pl.flo a b d) ∧ v = 0 ∧ ok = false)) ∧
        (n ≤ 18446744073709551615 → ∀ w, Calls Try.prog 97 #[.int .u64 n, .bool (Pl.sgn3 a b d)] w fun e w' => e = .returned (.tuple #[.int .i64 v, .bool ok]) ∧ w = w') ∧
        (18446744073709551615 < n → v = 0 ∧ ok = false) := by
      by_cases hm : n ≤ 18446744073709551615
      · obtain ⟨v, ok, S, h⟩ := signedr_any n (Pl.sgn3 a b d) (by omega) hm
        rw [← hs] at h
        exact ⟨v, ok, h, fun _ => S, fun h' => by omega⟩
      · refine ⟨0, false, .inr ⟨?_, rfl, rfl⟩, fun h => absurd h hm, fun _ => ⟨rfl, rfl⟩⟩
        rw [hs]
        unfold Pl.i64
        split <;> omega
    refine ⟨v, ok, ?_, fun w => flr_core a b d _ _ n v _ ok nb.2.2 (by omega) r0 (by omega) (Lib.hid sh) hc (Lib.hid SG) (Lib.hid hx) w⟩
    rcases hv with ⟨h, rfl, rfl⟩ | ⟨h, rfl, rfl⟩
    · exact fun w => floor_ok a b d ha hb hd h0 h w
    · exact fun w => floor_no a b d ha hb hd (.inr h) w
  · have hno : d = 0 ∨ ¬ Pl.i64 (Pl.flo a b d) := by
      by_cases h0 : d = 0
      · exact .inl h0
      · exact .inr fun h => hlt (Pl.flo_fits a b d ha hb hd h0 h)
    exact ⟨0, false, fun w => floor_no a b d ha hb hd hno w, fun w => flr_no a b d (Lib.hid fun w => sharer_no a b d ha hb hd (by omega) w) w⟩
end Go.Proofs.Ytedidjdifobclaa
