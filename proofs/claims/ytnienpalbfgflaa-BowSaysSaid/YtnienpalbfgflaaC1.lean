/- The walks of the reference of layer 24: Abs, Times, Cmp, sign, cmpTimes, Sign, IsCoord. -/
import Derived.Test.YtnienpalbfgflaaBW14
namespace Go.Proofs.Ytnienpalbfgflaa
set_option linter.unusedVariables false
open Go.RowKit

theorem abs24_any (v : Int) (hv : -9223372036854775808 ≤ v ∧ v ≤ 9223372036854775807) (w : World) :
    Calls Try.prog 58 #[.int .i64 v] w fun e w' => e = .returned (.int .u64 (Pl.mag v)) ∧ w = w' := by
  by_cases h : v < 0
  · go_enter Try.func58, Try.ntmps58
    go_wp2
    go_ret
    exact ⟨ret_int (by unfold Pl.mag; rw [if_pos h]; omega), rfl⟩
  · go_enter Try.func58, Try.ntmps58
    go_wp2
    go_ret
    exact ⟨ret_int (by unfold Pl.mag; rw [if_neg (by omega)]), rfl⟩
theorem sign24_any (v : Int) (w : World) : Calls Try.prog 56 #[.int .i64 v] w fun e w' => e = .returned (.int .i64 (Pl.sg v)) ∧ w = w' := by
  rcases Int.lt_trichotomy v 0 with h | rfl | h
  · go_enter Try.func56, Try.ntmps56
    go_wp2
    go_ret
    exact ⟨ret_int (by unfold Pl.sg; (repeat' split) <;> omega), rfl⟩
  · go_enter Try.func56, Try.ntmps56
    go_wp2
    go_ret
    exact ⟨rfl, rfl⟩
  · go_enter Try.func56, Try.ntmps56
    go_wp2
    go_ret
    exact ⟨ret_int (by unfold Pl.sg; (repeat' split) <;> omega), rfl⟩
theorem coord24_any (v : Int) (w : World) : Calls Try.prog 35 #[.int .i64 v] w fun e w' => e = .returned (.bool (decide (Pl.crd v))) ∧ w = w' := by
  by_cases h : -8191 ≤ v
  · by_cases h2 : v ≤ 8191
    · rw [decide_eq_true ⟨h, h2⟩]
      go_enter Try.func35, Try.ntmps35
      go_wp2
      go_ret
      exact ⟨rfl, rfl⟩
    · rw [decide_eq_false (fun q => h2 q.2)]
      go_enter Try.func35, Try.ntmps35
      go_wp2
      go_ret
      exact ⟨rfl, rfl⟩
  · rw [decide_eq_false (fun q => h q.1)]
    go_enter Try.func35, Try.ntmps35
    go_wp2
    go_ret
    exact ⟨rfl, rfl⟩
theorem Pl.mul64_parts (a b w1 w2 : Int) (h1 : w1 = (a / 4294967296) * (b % 4294967296) + (a % 4294967296) * (b % 4294967296) / 4294967296)
    (h2 : w2 = (a % 4294967296) * (b / 4294967296) + w1 % 4294967296) :
    (a / 4294967296) * (b / 4294967296) + w1 / 4294967296 + w2 / 4294967296 = a * b / 18446744073709551616 ∧ w2 % 4294967296 * 4294967296 + (a % 4294967296) * (b % 4294967296) % 4294967296 = a * b % 18446744073709551616 := by
  have := (Pl.prod_parts a b _ rfl).1
  have h3 := (Pl.prod_parts a b _ rfl).2
  rw [← this, ← h3]
  generalize (a / 4294967296) * (b / 4294967296) = p3 at *
  generalize (a / 4294967296) * (b % 4294967296) = p1 at *
  generalize (a % 4294967296) * (b / 4294967296) = p2 at *
  generalize (a % 4294967296) * (b % 4294967296) = p0 at *
  constructor <;> omega
/-- a number of two words -/
abbrev wideV (x : Int) : Value := .agg #[.int .u64 (x / 18446744073709551616), .int .u64 (x % 18446744073709551616)]
theorem times24_any (a b : Int) (ha : 0 ≤ a ∧ a ≤ 18446744073709551615) (hb : 0 ≤ b ∧ b ≤ 18446744073709551615) (w : World) :
    Calls Try.prog 57 #[.int .u64 a, .int .u64 b] w fun e w' => e = .returned (wideV (a * b)) ∧ Grown w w' := by
  have p0 := Pl.mul_lt32 (a % 4294967296) (b % 4294967296) (by omega) (by omega) (by omega) (by omega)
  have p1 := Pl.mul_lt32 (a / 4294967296) (b % 4294967296) (by omega) (by omega) (by omega) (by omega)
  have p2 := Pl.mul_lt32 (a % 4294967296) (b / 4294967296) (by omega) (by omega) (by omega) (by omega)
  have p3 := Pl.mul_lt32 (a / 4294967296) (b / 4294967296) (by omega) (by omega) (by omega) (by omega)
  have m1 := Pl.and_32_u64
  go_enter Try.func57, Try.ntmps57
  go_wp2
  have hp := Pl.mul64_parts a b _ _ rfl rfl
  have hlo : bits .or .u64 (IntKind.u64.wrap ((a % 4294967296 * (b / 4294967296) + (a / 4294967296 * (b % 4294967296) + a % 4294967296 * (b % 4294967296) / 4294967296) % 4294967296) * 4294967296)) (a % 4294967296 * (b % 4294967296) % 4294967296) = a * b % 18446744073709551616 := by
    rw [← hp.2, show IntKind.u64.wrap ((a % 4294967296 * (b / 4294967296) + (a / 4294967296 * (b % 4294967296) + a % 4294967296 * (b % 4294967296) / 4294967296) % 4294967296) * 4294967296) = (a % 4294967296 * (b / 4294967296) + (a / 4294967296 * (b % 4294967296) + a % 4294967296 * (b % 4294967296) / 4294967296) % 4294967296) % 4294967296 * 4294967296 by rw [IntKind.wrap_u64]; omega]
    exact Pl.or_shifted_u64 32 _ _ (by omega) (by omega) (by omega) (by omega)
  rw [hlo, hp.1]
  exact bodyPost_ret (v := wideV (a * b)) (by simp [results, Try.results57, go_sem]) rfl ⟨rfl, (Grown.refl w).alloc _ _⟩
theorem cmp24_any (x y : Int) (hx : 0 ≤ x) (hy : 0 ≤ y) (w : World) :
    Calls Try.prog 61 #[wideV x, wideV y] w fun e w' => e = .returned (.int .i64 (Pl.cmp x y)) ∧ Grown w w' := by
  obtain ⟨xh, hxh⟩ : ∃ v, v = x / 18446744073709551616 := ⟨_, rfl⟩
  obtain ⟨xl, hxl⟩ : ∃ v, v = x % 18446744073709551616 := ⟨_, rfl⟩
  obtain ⟨yh, hyh⟩ : ∃ v, v = y / 18446744073709551616 := ⟨_, rfl⟩
  obtain ⟨yl, hyl⟩ : ∃ v, v = y % 18446744073709551616 := ⟨_, rfl⟩
  have HC : Hid (Pl.cmp x y = if xh < yh ∨ (xh = yh ∧ xl < yl) then -1 else if xh = yh ∧ xl = yl then 0 else 1) := Lib.hid (by
    unfold Pl.cmp
    (repeat' split) <;> omega)
  simp only [wideV, ← hxh, ← hxl, ← hyh, ← hyl]
  clear hxh hxl hyh hyl
  rw [HC.out]
  clear HC
  rcases Int.lt_trichotomy xh yh with h | rfl | h
  · rw [if_pos (.inl h)]
    go_enter Try.func61, Try.ntmps61
    go_wp2
    go_ret
    exact ⟨rfl, ((Grown.refl w).alloc _ _).alloc _ _⟩
  · rcases Int.lt_trichotomy xl yl with h2 | rfl | h2
    · rw [if_pos (.inr ⟨rfl, h2⟩)]
      have hn : ¬ xh < xh := by omega
      go_enter Try.func61, Try.ntmps61
      go_wp2
      go_ret
      exact ⟨rfl, ((Grown.refl w).alloc _ _).alloc _ _⟩
    · rw [if_neg (by omega), if_pos ⟨rfl, rfl⟩]
      go_enter Try.func61, Try.ntmps61
      go_wp2
      go_ret
      exact ⟨rfl, ((Grown.refl w).alloc _ _).alloc _ _⟩
    · rw [if_neg (by omega), if_neg (by omega)]
      have hn : ¬ xl < yl := by omega
      have he : (xl == yl) = false := beq_eq_false_iff_ne.2 (by omega)
      go_enter Try.func61, Try.ntmps61
      go_wp2
      go_ret
      exact ⟨rfl, ((Grown.refl w).alloc _ _).alloc _ _⟩
  · rw [if_neg (by omega), if_neg (by omega)]
    have hn : ¬ xh < yh := by omega
    have he : (xh == yh) = false := beq_eq_false_iff_ne.2 (by omega)
    go_enter Try.func61, Try.ntmps61
    go_wp2
    go_ret
    exact ⟨rfl, ((Grown.refl w).alloc _ _).alloc _ _⟩
end Go.Proofs.Ytnienpalbfgflaa
