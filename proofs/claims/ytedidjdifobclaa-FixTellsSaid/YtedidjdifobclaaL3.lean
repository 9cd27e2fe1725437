/- The walks of the laws of layer 3 (fixes) that have no reference: what they share, FixRoot and FixBack. -/
import Derived.Test.YtedidjdifobclaaW9
import Derived.Test.YtedidjdifobclaaPlLaw1
namespace Go.Proofs.Ytedidjdifobclaa
set_option linter.unusedVariables false
open Go.RowKit

theorem known3 (w : World) : Calls Try.prog 28 #[] w fun e w' => e = .returned (.bool true) ∧ Grown w w' := by
  go_enter Try.func28, Try.ntmps28
  go_wp2_with fail
  refine (ffrom_ok 2 (by omega) _).mono ?_
  rintro e w1 ⟨rfl, rfl⟩
  go_wp2_with fail
  refine (fmul_ok 3 32768 (by decide) (by decide) (by decide +kernel) _).mono ?_
  rintro e w2 ⟨rfl, g2⟩
  rw [show Pl.share 3 32768 65536 = 2 from by decide +kernel]
  go_wp2_with fail
  refine (ffloor_any (-1) _).mono ?_
  rintro e w3 ⟨rfl, rfl⟩
  rw [show Pl.ffloor (-1) = -65536 from by decide +kernel]
  go_wp2_with fail
  refine (fround_any 98304 _).mono ?_
  rintro e w3 ⟨rfl, rfl⟩
  rw [show Pl.fround 98304 = 131072 from by decide +kernel]
  go_wp2
  go_ret
  exact ⟨rfl, g2⟩

theorem bd64r {v : Int} (h : (Lit.int .i64 v).wf = true) : -9223372036854775808 ≤ v ∧ v ≤ 9223372036854775807 := by
  simp [Lit.wf, IntKind.min, IntKind.max, IntKind.signed, IntKind.bits] at h
  omega

theorem place_any (v n : Int) (hn : 0 < n) (hn' : n ≤ 4611686018427387904) (w : World) :
    Calls Try.prog 78 #[.int .i64 v, .int .i64 n] w fun e w' => e = .returned (.int .i64 (v % n)) ∧ w = w' := by
  have hb := Pl.tmod_bd v n hn
  have he := Lib.hid (Pl.place_eq v n hn)
  by_cases h : v.tmod n < 0
  · go_enter Try.func78, Try.ntmps78
    go_wp2
    go_ret
    exact ⟨ret_int (by rw [← he.out, if_pos (by assumption)]), rfl⟩
  · go_enter Try.func78, Try.ntmps78
    go_wp2
    go_ret
    exact ⟨ret_int (by rw [← he.out, if_neg (by omega)]), rfl⟩

/-- any number as a fix -/
def Pl.may3 (v : Int) : Int := v % 2147483647 - 1073741823
theorem Pl.may3_fx (v : Int) : Pl.fx (Pl.may3 v) := by unfold Pl.may3 Pl.fx; omega
theorem may3_any (v : Int) (w : World) :
    Calls Try.prog 29 #[.int .i64 v] w fun e w' => e = .returned (.int .i64 (Pl.may3 v)) ∧ w = w' := by
  have h1 : 0 ≤ v % 2147483647 ∧ v % 2147483647 < 2147483647 := by omega
  go_enter Try.func29, Try.ntmps29
  go_wp2_with fail
  refine (place_any v 2147483647 (by omega) (by omega) _).mono ?_
  rintro e w1 ⟨rfl, rfl⟩
  go_wp2_with fail
  go_ret
  exact ⟨rfl, rfl⟩

theorem froot_core (a x : Int) (hx : Hid (Pl.may3 a = x)) (hfx : -1073741823 ≤ x ∧ x ≤ 1073741823) (w : World) :
    Calls Try.prog 14 #[.int .i64 a] w fun e w' => e = .returned (.bool true) ∧ Grown w w' := by
  have CM := Lib.hid (fun w => may3_any a w)
  rw [hx.out] at CM
  by_cases h : x < 0
  · go_enter Try.func14, Try.ntmps14
    go_wp2_with fail
    refine (known3 _).mono ?_
    rintro e w1 ⟨rfl, g1⟩
    go_wp2_with fail
    refine (CM.out _).mono ?_
    rintro e w2 ⟨rfl, rfl⟩
    go_wp2_with fail
    refine (fsqrt_no x (by omega) _).mono ?_
    rintro e w2 ⟨rfl, rfl⟩
    go_wp2_with fail
    go_ret
    exact ⟨rfl, g1⟩
  · obtain ⟨r, hr⟩ : ∃ r, Pl.root (x * 65536) = r := ⟨_, rfl⟩
    have hs := Pl.root_spec (x * 65536) (by omega) (by omega)
    rw [hr] at hs
    obtain ⟨r0, r1, r2, r3⟩ := hs
    have CS := Lib.hid (fun w => fsqrt_ok x (by omega) w)
    rw [hr] at CS
    clear hr
    have hrb : r < 16777216 := by
      apply Int.not_le.1
      intro hge
      have h1 : 16777216 * 16777216 ≤ r * r := Int.mul_le_mul hge hge (by omega) (by omega)
      omega
    obtain ⟨y, hy⟩ : ∃ y, r * r = y := ⟨_, rfl⟩
    have hy1 : (r + 1) * (r + 1) = y + 2 * r + 1 := by rw [Int.add_mul, Int.mul_add, hy]; omega
    rw [hy] at r2
    rw [hy1] at r3
    have hyb : 0 ≤ y := by rw [← hy]; exact Int.mul_nonneg r0 r0
    go_enter Try.func14, Try.ntmps14
    go_wp2_with fail
    refine (known3 _).mono ?_
    rintro e w1 ⟨rfl, g1⟩
    go_wp2_with fail
    refine (CM.out _).mono ?_
    rintro e w2 ⟨rfl, rfl⟩
    go_wp2_with fail
    refine (CS.out _).mono ?_
    rintro e w2 ⟨rfl, rfl⟩
    go_wp2_with fail
    go_ret
    exact ⟨rfl, g1⟩
theorem walk_FixRoot (a : Int) (w0 : (Lit.int .i64 a).wf = true) (w : World) :
    Calls Try.prog 14 #[.int .i64 a] w fun e w' => e = .returned (.bool true) ∧ Grown w w' :=
  froot_core a _ (Lib.hid rfl) (Pl.may3_fx a) w
end Go.Proofs.Ytedidjdifobclaa
