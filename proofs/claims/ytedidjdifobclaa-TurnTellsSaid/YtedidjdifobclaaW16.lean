/- math/bits.Div64, whatever the numbers. -/
import Derived.Test.YtedidjdifobclaaW15
namespace Go.Proofs.Ytedidjdifobclaa
set_option linter.unusedVariables false
open Go.RowKit

theorem div64_small (lo y : Int) (h1 : 0 < y) (y1 : y ≤ 18446744073709551615) (l0 : 0 ≤ lo) (l1 : lo ≤ 18446744073709551615) (w : World) :
    Calls Try.prog 106 #[.int .u64 0, .int .u64 lo, .int .u64 y] w fun e w' => e = .returned (.tuple #[.int .u64 (lo / y), .int .u64 (lo % y)]) ∧ Grown w w' := by
  have q0 : 0 ≤ lo / y := Int.ediv_nonneg l0 (by omega)
  have q1 : lo / y ≤ lo := Int.ediv_le_self _ l0
  have e1 : lo.tdiv y = lo / y := Int.tdiv_eq_ediv_of_nonneg l0
  have e2 : lo.tmod y = lo % y := Int.tmod_eq_emod_of_nonneg l0
  have n0 : (y == 0) = false := by rw [beq_eq_false_iff_ne]; omega
  have m0 := Int.emod_nonneg lo (show y ≠ 0 by omega)
  have m1 := Int.emod_lt_of_pos lo h1
  have w1 : IntKind.u64.wrap (lo / y) = lo / y := by rw [IntKind.wrap_u64]; omega
  have w2 : IntKind.u64.wrap (lo % y) = lo % y := by rw [IntKind.wrap_u64]; omega
  go_enter Try.func106, Try.ntmps106
  go_wp2_with fail
  go_region
  go_wp2
  go_ret2
  exact ⟨rfl, by (repeat (first | exact Grown.refl _ | assumption | apply Grown.drew | apply Grown.alloc))⟩

theorem div64_any (hi lo y : Int) (h0 : 0 ≤ hi) (h1 : hi < y) (y1 : y ≤ 18446744073709551615) (l0 : 0 ≤ lo) (l1 : lo ≤ 18446744073709551615) (w : World) :
    Calls Try.prog 106 #[.int .u64 hi, .int .u64 lo, .int .u64 y] w fun e w' =>
      e = .returned (.tuple #[.int .u64 ((hi * 18446744073709551616 + lo) / y), .int .u64 ((hi * 18446744073709551616 + lo) % y)]) ∧ Grown w w' := by
  by_cases hz : hi = 0
  · subst hz
    rw [Int.zero_mul, Int.zero_add]
    exact div64_small lo y h1 y1 l0 l1 w
  obtain ⟨s, es, s63, s0, s1⟩ := Pl.lz_bd y (by omega) y1
  have LZ := fun w => lz64_any y w (by omega) y1
  rw [es] at LZ
  have pK : (0 : Int) < 2 ^ s := Int.pow_pos (by decide)
  have pK' : (0 : Int) < 2 ^ (64 - s) := Int.pow_pos (by decide)
  have KK : (2 : Int) ^ s * 2 ^ (64 - s) = 18446744073709551616 := by rw [← Int.pow_add, show s + (64 - s) = 64 by omega]; decide
  have H0 : 0 ≤ hi * 2 ^ s := Int.mul_nonneg h0 (by omega)
  have H1 : (hi + 1) * 2 ^ s ≤ y * 2 ^ s := Int.mul_le_mul_of_nonneg_right (by omega) (by omega)
  have L0 : 0 ≤ lo / 2 ^ (64 - s) := Int.ediv_nonneg l0 (by omega)
  have L1 : lo / 2 ^ (64 - s) < 2 ^ s := Int.ediv_lt_of_lt_mul pK' (by rw [KK]; omega)
  have hor := Pl.or_shifted_u64 s hi (lo / 2 ^ (64 - s)) L0 L1 h0 (by rw [Int.add_mul] at H1; omega)
  have W := Pl.kn_words hi lo _ _ pK pK' KK l0 (by omega)
  obtain ⟨sc1, sc2⟩ := Pl.kn_scale (hi * 18446744073709551616 + lo) y (2 ^ s) pK
  rw [Int.add_mul hi 1, Int.one_mul] at H1
  rw [W] at sc1 sc2
  rw [← sc1, ← sc2]
  clear sc1 sc2 W
  obtain ⟨Y, hY⟩ : ∃ Y, y * 2 ^ s = Y := ⟨_, rfl⟩
  obtain ⟨H, hH⟩ : ∃ H, hi * 2 ^ s = H := ⟨_, rfl⟩
  obtain ⟨L, hL⟩ : ∃ L, lo / 2 ^ (64 - s) = L := ⟨_, rfl⟩
  obtain ⟨V, hV⟩ : ∃ V, lo * 2 ^ s % 18446744073709551616 = V := ⟨_, rfl⟩
  rw [hY, hH, hL, hV]
  rw [hH] at H0 H1
  rw [hY] at s0 s1 H1
  rw [hL] at L0 L1
  rw [hH, hL] at hor
  have V0 : 0 ≤ V := by omega
  have V1 : V ≤ 18446744073709551615 := by omega
  obtain ⟨k1, k2⟩ := Pl.kn_two (H := H + L) (L := V) (Y := Y) (v1 := V / 4294967296) (v0 := V % 4294967296) (by omega) (by omega) (by omega) (by omega) (by omega) (by omega)
  rw [k1, k2]
  clear k1 k2
  have d1 := Int.mul_ediv_add_emod ((H + L) * 4294967296 + V / 4294967296) Y
  have n0 := Int.emod_nonneg ((H + L) * 4294967296 + V / 4294967296) (show Y ≠ 0 by omega)
  have n1 := Int.emod_lt_of_pos ((H + L) * 4294967296 + V / 4294967296) (show 0 < Y by omega)
  obtain ⟨T, hT⟩ : ∃ T, ((H + L) * 4294967296 + V / 4294967296) / Y = T := ⟨_, rfl⟩
  obtain ⟨N, hN⟩ : ∃ N, ((H + L) * 4294967296 + V / 4294967296) % Y = N := ⟨_, rfl⟩
  rw [hT, hN] at d1
  rw [hN] at n0 n1
  rw [hT, hN]
  have d2 := Int.mul_ediv_add_emod (N * 4294967296 + V % 4294967296) Y
  have m0 := Int.emod_nonneg (N * 4294967296 + V % 4294967296) (show Y ≠ 0 by omega)
  have m1 := Int.emod_lt_of_pos (N * 4294967296 + V % 4294967296) (show 0 < Y by omega)
  obtain ⟨T2, hT2⟩ : ∃ T, (N * 4294967296 + V % 4294967296) / Y = T := ⟨_, rfl⟩
  obtain ⟨M, hM⟩ : ∃ N', (N * 4294967296 + V % 4294967296) % Y = N' := ⟨_, rfl⟩
  rw [hT2, hM] at d2
  rw [hM] at m0 m1
  rw [hT2, hM]
  refine (div64_core hi lo y Y H L (H + L) V T N T2 M s s63 (by omega) h1 y1 l0 l1 (Lib.hid LZ) hY s0 s1 hH H0 (by omega) hL hor (by omega) (by omega) (by rw [IntKind.wrap_u64]; exact hV) V0 V1 (Lib.hid hT) ?_ n0 n1 (Lib.hid hT2) ?_ w).mono fun e W ⟨he, hw⟩ => ⟨he, hw ▸ Grown.refl _⟩
  · simp only [IntKind.wrap_u64]
    rw [Int.mul_comm T Y]
    generalize Y * T = P at *
    generalize H + L = u at *
    clear hT hN hM hT2 hV hY hH hL hor es LZ pK pK' KK d2 s0 m0 m1
    omega
  · simp only [IntKind.wrap_u64]
    rw [Int.mul_comm T2 Y]
    generalize Y * T2 = P at *
    clear hT hN hM hT2 hV hY hH hL hor es LZ pK pK' KK d1 s0
    omega
end Go.Proofs.Ytedidjdifobclaa
