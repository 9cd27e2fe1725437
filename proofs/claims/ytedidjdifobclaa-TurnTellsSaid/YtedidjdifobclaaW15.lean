/- The walk of math/bits.Div64: Knuth's long division by halves of words (printed by wip/gen_div.py). -/
import Derived.Test.YtedidjdifobclaaW14
import Derived.Test.YtedidjdifobclaaPlDiv
import Derived.Lib.Hide
namespace Go.Proofs.Ytedidjdifobclaa
set_option linter.unusedVariables false
open Go.RowKit

theorem Pl.kn_pre {u v Y T : Int} (Y0 : 9223372036854775808 ≤ Y) (Y1 : Y ≤ 18446744073709551615) (u0 : 0 ≤ u) (u1 : u < Y) (v0 : 0 ≤ v) (v1 : v < 4294967296) (hT : (u * 4294967296 + v) / Y = T) :
    0 ≤ T ∧ T < 4294967296 ∧ u / (Y / 4294967296) ≤ 4294967297 ∧ T ≤ u / (Y / 4294967296) ∧ u / (Y / 4294967296) * (Y / 4294967296) ≤ u ∧ 0 ≤ u / (Y / 4294967296) ∧ 0 ≤ u / (Y / 4294967296) * (Y / 4294967296) ∧
    u - u / (Y / 4294967296) * (Y / 4294967296) < Y / 4294967296 := by
  have hYY : Y = Y / 4294967296 * 4294967296 + Y % 4294967296 := by omega
  have a4 : 0 ≤ u / (Y / 4294967296) := Int.ediv_nonneg u0 (by omega)
  refine ⟨by rw [← hT]; exact Int.ediv_nonneg (by omega) (by omega), by rw [← hT]; exact Pl.kn_lt hYY (by omega) (by omega) u1 (by omega), Pl.kn_start_le hYY (by omega) (by omega) u1,
    by rw [← hT]; exact Pl.kn_start (v := v) hYY (by omega) (by omega) u0 (by omega) (by omega), Int.ediv_mul_le _ (by omega), a4, Int.mul_nonneg a4 (by omega), ?_⟩
  have := Int.emod_lt_of_pos u (show 0 < Y / 4294967296 by omega)
  have e := Int.mul_ediv_add_emod u (Y / 4294967296)
  rw [Int.mul_comm] at e
  omega

set_option maxHeartbeats 2000000 in
theorem div64_core (hi lo y Y H L u V T N T2 M : Int) (s : Nat) (hs : s ≤ 63) (h0 : 0 < hi) (h1 : hi < y) (y1 : y ≤ 18446744073709551615) (l0 : 0 ≤ lo) (l1 : lo ≤ 18446744073709551615)
    (LZ : Hid (∀ w, Calls Try.prog 108 #[.int .u64 y] w fun e w' => e = .returned (.int .i64 (s : Int)) ∧ w = w'))
    (hY : y * 2 ^ s = Y) (Y0 : 9223372036854775808 ≤ Y) (Y1 : Y ≤ 18446744073709551615)
    (hH : hi * 2 ^ s = H) (H0 : 0 ≤ H) (H1 : H ≤ 18446744073709551615) (hL : lo / 2 ^ (64 - s) = L) (hu : bits .or .u64 H L = u) (u0 : 0 ≤ u) (u1 : u < Y)
    (hV : IntKind.u64.wrap (lo * 2 ^ s) = V) (V0 : 0 ≤ V) (V1 : V ≤ 18446744073709551615) (hT : Hid ((u * 4294967296 + V / 4294967296) / Y = T))
    (hN : IntKind.u64.wrap (IntKind.u64.wrap (IntKind.u64.wrap (u * 4294967296) + V / 4294967296) - IntKind.u64.wrap (T * Y)) = N) (N0 : 0 ≤ N) (N1 : N < Y)
    (hT2 : Hid ((N * 4294967296 + V % 4294967296) / Y = T2))
    (hM : IntKind.u64.wrap (IntKind.u64.wrap (IntKind.u64.wrap (N * 4294967296) + V % 4294967296) - IntKind.u64.wrap (T2 * Y)) = M) (w : World) :
    Calls Try.prog 106 #[.int .u64 hi, .int .u64 lo, .int .u64 y] w fun e w' => e = .returned (.tuple #[.int .u64 (T * 4294967296 + T2), .int .u64 (M / 2 ^ s)]) ∧ w = w' := by
  obtain ⟨T0, T1, A1, A2, a3, a4, a5, A6⟩ := Pl.kn_pre Y0 Y1 u0 u1 (by omega) (by omega) hT.out
  obtain ⟨S0, S1, B1, B2, b3, b4, b5, B6⟩ := Pl.kn_pre Y0 Y1 N0 N1 (by omega) (by omega) hT2.out
  have A1 := Lib.hid A1; have A2 := Lib.hid A2; have A6 := Lib.hid A6
  have B1 := Lib.hid B1; have B2 := Lib.hid B2; have B6 := Lib.hid B6
  go_enter Try.func106, Try.ntmps106
  go_wp2_with fail
  refine (LZ.out _).mono ?_
  rintro e w1 ⟨rfl, rfl⟩
  have e1 : IntKind.u64.wrap (s : Int) = s := by rw [IntKind.wrap_u64]; omega
  go_wp2
  go_loop [15, 16] (fun q r => ∃ (Q R : Int), 0 ≤ Q ∧ Q ≤ 4294967297 ∧ 0 ≤ R ∧ R < 4294967296 ∧ Hid (Q * (Y / 4294967296) + R = u) ∧ T ≤ Q ∧ q = .int .u64 Q ∧ r = .int .u64 R) (fun q _ => (intOf q).toNat)
  case atStart =>
    have := A1.out
    have := A2.out
    have := A6.out
    refine ⟨u / (Y / 4294967296), u - u / (Y / 4294967296) * (Y / 4294967296), a4, A1.out, by omega, by omega, Lib.hid (by omega), A2.out, ?_, ?_⟩
    · first | rfl | (congr 1; rw [IntKind.wrap_u64, Int.tdiv_eq_ediv_of_nonneg (by omega)]; omega)
    · first | rfl | (congr 1; rw [IntKind.wrap_u64, IntKind.wrap_u64]; omega) | (congr 1; rw [Int.tdiv_eq_ediv_of_nonneg (by omega)]; simp only [IntKind.wrap_u64]; omega)
  case round =>
    obtain ⟨Q, R, q0, q1, r0, r1, E, tq, rfl, rfl⟩ := hrel
    have hYY : Y = Y / 4294967296 * 4294967296 + Y % 4294967296 := by omega
    by_cases c : 4294967296 ≤ Q
    · by_cases c2 : 4294967296 ≤ R + Y / 4294967296
      · have k := Pl.kn_break (u := u) (q := Q - 1) (r := R + Y / 4294967296) (v := V / 4294967296) hYY (by omega) (by omega) (by omega) (by omega) (by have := E.out; rw [Int.sub_mul]; omega) (by omega) (by omega) c2
        rw [hT.out] at k
        obtain rfl : Q = T + 1 := by omega
        clear k hYY
        go_wp2
        go_loop [18, 16] (fun q r => ∃ (Q R : Int), 0 ≤ Q ∧ Q ≤ 4294967297 ∧ 0 ≤ R ∧ R < 4294967296 ∧ Hid (Q * (Y / 4294967296) + R = N) ∧ T2 ≤ Q ∧ q = .int .u64 Q ∧ r = .int .u64 R) (fun q _ => (intOf q).toNat)
        case atStart =>
          have := B1.out
          have := B2.out
          have := B6.out
          refine ⟨N / (Y / 4294967296), N - N / (Y / 4294967296) * (Y / 4294967296), b4, B1.out, by omega, by omega, Lib.hid (by omega), B2.out, ?_, ?_⟩
          · first | rfl | (congr 1; rw [IntKind.wrap_u64, Int.tdiv_eq_ediv_of_nonneg (by omega)]; omega)
          · first | rfl | (congr 1; rw [IntKind.wrap_u64, IntKind.wrap_u64]; omega) | (congr 1; rw [Int.tdiv_eq_ediv_of_nonneg (by omega)]; simp only [IntKind.wrap_u64]; omega)
        case round =>
          obtain ⟨Q, R, q0, q1, r0, r1, E, tq, rfl, rfl⟩ := hrel
          have hYY : Y = Y / 4294967296 * 4294967296 + Y % 4294967296 := by omega
          by_cases c : 4294967296 ≤ Q
          · by_cases c2 : 4294967296 ≤ R + Y / 4294967296
            · have k := Pl.kn_break (u := N) (q := Q - 1) (r := R + Y / 4294967296) (v := V % 4294967296) hYY (by omega) (by omega) (by omega) (by omega) (by have := E.out; rw [Int.sub_mul]; omega) (by omega) (by omega) c2
              rw [hT2.out] at k
              obtain rfl : Q = T2 + 1 := by omega
              clear k hYY
              go_wp2
              go_ret2
              exact ⟨rfl, rfl⟩
            · clear hYY
              go_wp2
              go_round
              case rel => exact ⟨Q - 1, R + Y / 4294967296, by omega, by omega, by omega, by omega, Lib.hid (by have := E.out; rw [Int.sub_mul]; omega), by omega, rfl, rfl⟩
              case measure => simp [intOf] <;> omega
          · have hm := Pl.kn_mul_le (y0 := Y % 4294967296) q0 (by omega) (by omega) (by omega)
            obtain ⟨m0, m1⟩ := hm
            by_cases c3 : 4294967296 * R + V % 4294967296 < Q * (Y % 4294967296)
            · have g := Pl.kn_gt (u := N) (v := V % 4294967296) hYY (by omega) (by omega) E.out c3
              rw [hT2.out] at g
              by_cases c2 : 4294967296 ≤ R + Y / 4294967296
              · have k := Pl.kn_break (u := N) (q := Q - 1) (r := R + Y / 4294967296) (v := V % 4294967296) hYY (by omega) (by omega) (by omega) (by omega) (by have := E.out; rw [Int.sub_mul]; omega) (by omega) (by omega) c2
                rw [hT2.out] at k
                obtain rfl : Q = T2 + 1 := by omega
                clear k hYY
                go_wp2
                go_ret2
                exact ⟨rfl, rfl⟩
              · clear hYY
                go_wp2
                go_round
                case rel => exact ⟨Q - 1, R + Y / 4294967296, by omega, by omega, by omega, by omega, Lib.hid (by have := E.out; rw [Int.sub_mul]; omega), by omega, rfl, rfl⟩
                case measure => simp [intOf] <;> omega
            · have k := Pl.kn_le (u := N) (v := V % 4294967296) hYY (by omega) (by omega) E.out (by omega)
              rw [hT2.out] at k
              obtain rfl : Q = T2 := by omega
              clear k hYY
              go_wp2
              go_ret2
              exact ⟨rfl, rfl⟩
      · clear hYY
        go_wp2
        go_round
        case rel => exact ⟨Q - 1, R + Y / 4294967296, by omega, by omega, by omega, by omega, Lib.hid (by have := E.out; rw [Int.sub_mul]; omega), by omega, rfl, rfl⟩
        case measure => simp [intOf] <;> omega
    · have hm := Pl.kn_mul_le (y0 := Y % 4294967296) q0 (by omega) (by omega) (by omega)
      obtain ⟨m0, m1⟩ := hm
      by_cases c3 : 4294967296 * R + V / 4294967296 < Q * (Y % 4294967296)
      · have g := Pl.kn_gt (u := u) (v := V / 4294967296) hYY (by omega) (by omega) E.out c3
        rw [hT.out] at g
        by_cases c2 : 4294967296 ≤ R + Y / 4294967296
        · have k := Pl.kn_break (u := u) (q := Q - 1) (r := R + Y / 4294967296) (v := V / 4294967296) hYY (by omega) (by omega) (by omega) (by omega) (by have := E.out; rw [Int.sub_mul]; omega) (by omega) (by omega) c2
          rw [hT.out] at k
          obtain rfl : Q = T + 1 := by omega
          clear k hYY
          go_wp2
          go_loop [18, 16] (fun q r => ∃ (Q R : Int), 0 ≤ Q ∧ Q ≤ 4294967297 ∧ 0 ≤ R ∧ R < 4294967296 ∧ Hid (Q * (Y / 4294967296) + R = N) ∧ T2 ≤ Q ∧ q = .int .u64 Q ∧ r = .int .u64 R) (fun q _ => (intOf q).toNat)
          case atStart =>
            have := B1.out
            have := B2.out
            have := B6.out
            refine ⟨N / (Y / 4294967296), N - N / (Y / 4294967296) * (Y / 4294967296), b4, B1.out, by omega, by omega, Lib.hid (by omega), B2.out, ?_, ?_⟩
            · first | rfl | (congr 1; rw [IntKind.wrap_u64, Int.tdiv_eq_ediv_of_nonneg (by omega)]; omega)
            · first | rfl | (congr 1; rw [IntKind.wrap_u64, IntKind.wrap_u64]; omega) | (congr 1; rw [Int.tdiv_eq_ediv_of_nonneg (by omega)]; simp only [IntKind.wrap_u64]; omega)
          case round =>
            obtain ⟨Q, R, q0, q1, r0, r1, E, tq, rfl, rfl⟩ := hrel
            have hYY : Y = Y / 4294967296 * 4294967296 + Y % 4294967296 := by omega
            by_cases c : 4294967296 ≤ Q
            · by_cases c2 : 4294967296 ≤ R + Y / 4294967296
              · have k := Pl.kn_break (u := N) (q := Q - 1) (r := R + Y / 4294967296) (v := V % 4294967296) hYY (by omega) (by omega) (by omega) (by omega) (by have := E.out; rw [Int.sub_mul]; omega) (by omega) (by omega) c2
                rw [hT2.out] at k
                obtain rfl : Q = T2 + 1 := by omega
                clear k hYY
                go_wp2
                go_ret2
                exact ⟨rfl, rfl⟩
              · clear hYY
                go_wp2
                go_round
                case rel => exact ⟨Q - 1, R + Y / 4294967296, by omega, by omega, by omega, by omega, Lib.hid (by have := E.out; rw [Int.sub_mul]; omega), by omega, rfl, rfl⟩
                case measure => simp [intOf] <;> omega
            · have hm := Pl.kn_mul_le (y0 := Y % 4294967296) q0 (by omega) (by omega) (by omega)
              obtain ⟨m0, m1⟩ := hm
              by_cases c3 : 4294967296 * R + V % 4294967296 < Q * (Y % 4294967296)
              · have g := Pl.kn_gt (u := N) (v := V % 4294967296) hYY (by omega) (by omega) E.out c3
                rw [hT2.out] at g
                by_cases c2 : 4294967296 ≤ R + Y / 4294967296
                · have k := Pl.kn_break (u := N) (q := Q - 1) (r := R + Y / 4294967296) (v := V % 4294967296) hYY (by omega) (by omega) (by omega) (by omega) (by have := E.out; rw [Int.sub_mul]; omega) (by omega) (by omega) c2
                  rw [hT2.out] at k
                  obtain rfl : Q = T2 + 1 := by omega
                  clear k hYY
                  go_wp2
                  go_ret2
                  exact ⟨rfl, rfl⟩
                · clear hYY
                  go_wp2
                  go_round
                  case rel => exact ⟨Q - 1, R + Y / 4294967296, by omega, by omega, by omega, by omega, Lib.hid (by have := E.out; rw [Int.sub_mul]; omega), by omega, rfl, rfl⟩
                  case measure => simp [intOf] <;> omega
              · have k := Pl.kn_le (u := N) (v := V % 4294967296) hYY (by omega) (by omega) E.out (by omega)
                rw [hT2.out] at k
                obtain rfl : Q = T2 := by omega
                clear k hYY
                go_wp2
                go_ret2
                exact ⟨rfl, rfl⟩
        · clear hYY
          go_wp2
          go_round
          case rel => exact ⟨Q - 1, R + Y / 4294967296, by omega, by omega, by omega, by omega, Lib.hid (by have := E.out; rw [Int.sub_mul]; omega), by omega, rfl, rfl⟩
          case measure => simp [intOf] <;> omega
      · have k := Pl.kn_le (u := u) (v := V / 4294967296) hYY (by omega) (by omega) E.out (by omega)
        rw [hT.out] at k
        obtain rfl : Q = T := by omega
        clear k hYY
        go_wp2
        go_loop [18, 16] (fun q r => ∃ (Q R : Int), 0 ≤ Q ∧ Q ≤ 4294967297 ∧ 0 ≤ R ∧ R < 4294967296 ∧ Hid (Q * (Y / 4294967296) + R = N) ∧ T2 ≤ Q ∧ q = .int .u64 Q ∧ r = .int .u64 R) (fun q _ => (intOf q).toNat)
        case atStart =>
          have := B1.out
          have := B2.out
          have := B6.out
          refine ⟨N / (Y / 4294967296), N - N / (Y / 4294967296) * (Y / 4294967296), b4, B1.out, by omega, by omega, Lib.hid (by omega), B2.out, ?_, ?_⟩
          · first | rfl | (congr 1; rw [IntKind.wrap_u64, Int.tdiv_eq_ediv_of_nonneg (by omega)]; omega)
          · first | rfl | (congr 1; rw [IntKind.wrap_u64, IntKind.wrap_u64]; omega) | (congr 1; rw [Int.tdiv_eq_ediv_of_nonneg (by omega)]; simp only [IntKind.wrap_u64]; omega)
        case round =>
          obtain ⟨Q, R, q0, q1, r0, r1, E, tq, rfl, rfl⟩ := hrel
          have hYY : Y = Y / 4294967296 * 4294967296 + Y % 4294967296 := by omega
          by_cases c : 4294967296 ≤ Q
          · by_cases c2 : 4294967296 ≤ R + Y / 4294967296
            · have k := Pl.kn_break (u := N) (q := Q - 1) (r := R + Y / 4294967296) (v := V % 4294967296) hYY (by omega) (by omega) (by omega) (by omega) (by have := E.out; rw [Int.sub_mul]; omega) (by omega) (by omega) c2
              rw [hT2.out] at k
              obtain rfl : Q = T2 + 1 := by omega
              clear k hYY
              go_wp2
              go_ret2
              exact ⟨rfl, rfl⟩
            · clear hYY
              go_wp2
              go_round
              case rel => exact ⟨Q - 1, R + Y / 4294967296, by omega, by omega, by omega, by omega, Lib.hid (by have := E.out; rw [Int.sub_mul]; omega), by omega, rfl, rfl⟩
              case measure => simp [intOf] <;> omega
          · have hm := Pl.kn_mul_le (y0 := Y % 4294967296) q0 (by omega) (by omega) (by omega)
            obtain ⟨m0, m1⟩ := hm
            by_cases c3 : 4294967296 * R + V % 4294967296 < Q * (Y % 4294967296)
            · have g := Pl.kn_gt (u := N) (v := V % 4294967296) hYY (by omega) (by omega) E.out c3
              rw [hT2.out] at g
              by_cases c2 : 4294967296 ≤ R + Y / 4294967296
              · have k := Pl.kn_break (u := N) (q := Q - 1) (r := R + Y / 4294967296) (v := V % 4294967296) hYY (by omega) (by omega) (by omega) (by omega) (by have := E.out; rw [Int.sub_mul]; omega) (by omega) (by omega) c2
                rw [hT2.out] at k
                obtain rfl : Q = T2 + 1 := by omega
                clear k hYY
                go_wp2
                go_ret2
                exact ⟨rfl, rfl⟩
              · clear hYY
                go_wp2
                go_round
                case rel => exact ⟨Q - 1, R + Y / 4294967296, by omega, by omega, by omega, by omega, Lib.hid (by have := E.out; rw [Int.sub_mul]; omega), by omega, rfl, rfl⟩
                case measure => simp [intOf] <;> omega
            · have k := Pl.kn_le (u := N) (v := V % 4294967296) hYY (by omega) (by omega) E.out (by omega)
              rw [hT2.out] at k
              obtain rfl : Q = T2 := by omega
              clear k hYY
              go_wp2
              go_ret2
              exact ⟨rfl, rfl⟩
end Go.Proofs.Ytedidjdifobclaa
