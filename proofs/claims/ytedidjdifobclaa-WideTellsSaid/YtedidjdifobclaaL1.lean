/- The walks of the laws of layer 1 (products and shares) that have no reference. -/
import Derived.Test.YtedidjdifobclaaW4
import Derived.Test.YtedidjdifobclaaW5
import Derived.Test.YtedidjdifobclaaPlLaw1
namespace Go.Proofs.Ytedidjdifobclaa
set_option linter.unusedVariables false
open Go.RowKit

theorem known1 (w : World) : Calls Try.prog 23 #[] w fun e w' => e = .returned (.bool true) ∧ Grown w w' := by
  go_enter Try.func23, Try.ntmps23
  go_wp2_with fail
  refine (mul_any (-1) 1 (by omega) (by omega) _).mono ?_
  rintro e w1 ⟨rfl, g1⟩
  rw [show (-1 : Int) * 1 / 18446744073709551616 = -1 from by decide, show (-1 : Int) * 1 % 18446744073709551616 = 18446744073709551615 from by decide]
  go_wp2_with fail
  refine (muldiv_ok 7 1 2 (by decide) (by decide) (by decide) (by decide) (by decide) _).mono ?_
  rintro e w2 ⟨rfl, g2⟩
  rw [show Pl.share 7 1 2 = 4 from by decide]
  go_wp2_with fail
  refine (floor_ok (-7) 1 2 (by decide) (by decide) (by decide) (by decide) (by decide) _).mono ?_
  rintro e w3 ⟨rfl, g3⟩
  rw [show Pl.flo (-7) 1 2 = -4 from by decide]
  go_wp2_with fail
  refine (cmp_any 2 3 1 5 (by omega) (by omega) (by omega) (by omega) _).mono ?_
  rintro e w4 ⟨rfl, g4⟩
  rw [show Pl.cmp (2 * 3) (1 * 5) = 1 from by decide]
  go_wp2
  go_ret
  exact ⟨rfl, grown_trans g1 (grown_trans g2 (grown_trans g3 g4))⟩

theorem bd64 {v : Int} (h : (Lit.int .i64 v).wf = true) : -9223372036854775808 ≤ v ∧ v ≤ 9223372036854775807 := by
  simp [Lit.wf, IntKind.min, IntKind.max, IntKind.signed, IntKind.bits] at h
  omega

theorem walk_WideTurns (a b c d : Int) (w0 : (Lit.int .i64 a).wf = true) (w1 : (Lit.int .i64 b).wf = true) (w2 : (Lit.int .i64 c).wf = true) (w3 : (Lit.int .i64 d).wf = true) (w : World) :
    Calls Try.prog 3 #[.int .i64 a, .int .i64 b, .int .i64 c, .int .i64 d] w fun e w' => e = .returned (.bool true) ∧ Grown w w' := by
  have ha := bd64 w0
  have hb := bd64 w1
  have hc := bd64 w2
  have hd := bd64 w3
  clear w0 w1 w2 w3
  have hcm : b * a = a * b := Int.mul_comm _ _
  have HCM := Lib.hid hcm; clear hcm
  have e0 : Pl.cmp (a * b) (a * b) = 0 := by unfold Pl.cmp; simp
  have E0 := Lib.hid e0; clear e0
  have e1 : Pl.cmp (a * b) (c * d) = -Pl.cmp (c * d) (a * b) := by unfold Pl.cmp; repeat' split <;> omega
  have E1 := Lib.hid e1; clear e1
  have e2 : 1 ≤ a → Pl.cmp (a * b) (a * (b - 1)) = 1 := by
    intro h
    have : a * (b - 1) = a * b - a := by rw [Int.mul_sub, Int.mul_one]
    rw [this]; unfold Pl.cmp; rw [if_neg (by omega), if_neg (by omega)]
  have E2 := Lib.hid e2; clear e2
  have hbd : -1 ≤ Pl.cmp (c * d) (a * b) ∧ Pl.cmp (c * d) (a * b) ≤ 1 := by unfold Pl.cmp; repeat' split <;> omega
  have main : ∀ (x : Int) (hx : Hid (Pl.cmp (c * d) (a * b) = x)) (hxb : -1 ≤ x ∧ x ≤ 1), Calls Try.prog 3 #[.int .i64 a, .int .i64 b, .int .i64 c, .int .i64 d] w fun e w' => e = .returned (.bool true) ∧ Grown w w' := by
    intro x hx hxb
    clear hbd
    have hn : (-x != -x) = false := by simp
    by_cases h1 : a < 1
    · go_enter Try.func3, Try.ntmps3
      go_wp2_with fail
      refine (known1 _).mono ?_
      rintro e w1 ⟨rfl, g1⟩
      go_wp2_with fail
      refine (mul_any a b ha hb _).mono ?_
      rintro e w2 ⟨rfl, g2⟩
      go_wp2_with fail
      refine (mul_any b a hb ha _).mono ?_
      rintro e w3 ⟨rfl, g3⟩
      rw [HCM.out]
      go_wp2_with fail
      refine (cmp_any a b b a ha hb hb ha _).mono ?_
      rintro e w4 ⟨rfl, g4⟩
      rw [HCM.out, E0.out]
      go_wp2_with fail
      refine (cmp_any a b c d ha hb hc hd _).mono ?_
      rintro e w5 ⟨rfl, g5⟩
      rw [E1.out, hx.out]
      go_wp2_with fail
      refine (cmp_any c d a b hc hd ha hb _).mono ?_
      rintro e w6 ⟨rfl, g6⟩
      rw [hx.out]
      go_wp2_with fail
      go_ret
      exact ⟨rfl, grown_trans g1 (grown_trans g2 (grown_trans g3 (grown_trans g4 (grown_trans g5 g6))))⟩
    · by_cases h2 : b = -9223372036854775808
      · have h2' : (b == -9223372036854775808) = true := beq_iff_eq.2 h2
        clear h2
        go_enter Try.func3, Try.ntmps3
        go_wp2_with fail
        refine (known1 _).mono ?_
        rintro e w1 ⟨rfl, g1⟩
        go_wp2_with fail
        refine (mul_any a b ha hb _).mono ?_
        rintro e w2 ⟨rfl, g2⟩
        go_wp2_with fail
        refine (mul_any b a hb ha _).mono ?_
        rintro e w3 ⟨rfl, g3⟩
        rw [HCM.out]
        go_wp2_with fail
        refine (cmp_any a b b a ha hb hb ha _).mono ?_
        rintro e w4 ⟨rfl, g4⟩
        rw [HCM.out, E0.out]
        go_wp2_with fail
        refine (cmp_any a b c d ha hb hc hd _).mono ?_
        rintro e w5 ⟨rfl, g5⟩
        rw [E1.out, hx.out]
        go_wp2_with fail
        refine (cmp_any c d a b hc hd ha hb _).mono ?_
        rintro e w6 ⟨rfl, g6⟩
        rw [hx.out]
        go_wp2_with fail
        go_ret
        exact ⟨rfl, grown_trans g1 (grown_trans g2 (grown_trans g3 (grown_trans g4 (grown_trans g5 g6))))⟩
      · have h2' : (b == -9223372036854775808) = false := beq_eq_false_iff_ne.2 h2
        have h3 : -9223372036854775808 ≤ b - 1 := by omega
        clear h2
        go_enter Try.func3, Try.ntmps3
        go_wp2_with fail
        refine (known1 _).mono ?_
        rintro e w1 ⟨rfl, g1⟩
        go_wp2_with fail
        refine (mul_any a b ha hb _).mono ?_
        rintro e w2 ⟨rfl, g2⟩
        go_wp2_with fail
        refine (mul_any b a hb ha _).mono ?_
        rintro e w3 ⟨rfl, g3⟩
        rw [HCM.out]
        go_wp2_with fail
        refine (cmp_any a b b a ha hb hb ha _).mono ?_
        rintro e w4 ⟨rfl, g4⟩
        rw [HCM.out, E0.out]
        go_wp2_with fail
        refine (cmp_any a b c d ha hb hc hd _).mono ?_
        rintro e w5 ⟨rfl, g5⟩
        rw [E1.out, hx.out]
        go_wp2_with fail
        refine (cmp_any c d a b hc hd ha hb _).mono ?_
        rintro e w6 ⟨rfl, g6⟩
        rw [hx.out]
        go_wp2_with fail
        refine (cmp_any a b a (b - 1) ha hb ha (by omega) _).mono ?_
        rintro e w7 ⟨rfl, g7⟩
        rw [E2.out (by omega)]
        go_wp2_with fail
        go_ret
        exact ⟨rfl, grown_trans g1 (grown_trans g2 (grown_trans g3 (grown_trans g4 (grown_trans g5 (grown_trans g6 g7)))))⟩
  exact main _ (Lib.hid rfl) hbd

theorem bd32 {v : Int} (h : (Lit.int .i32 v).wf = true) : -2147483648 ≤ v ∧ v ≤ 2147483647 := by
  simp [Lit.wf, IntKind.min, IntKind.max, IntKind.signed, IntKind.bits] at h
  omega

theorem walk_WideSmall (a b : Int) (w0 : (Lit.int .i32 a).wf = true) (w1 : (Lit.int .i32 b).wf = true) (w : World) :
    Calls Try.prog 4 #[.int .i32 a, .int .i32 b] w fun e w' => e = .returned (.bool true) ∧ Grown w w' := by
  have ha := bd32 w0
  have hb := bd32 w1
  clear w0 w1
  have h1 := Pl.small_mul a b ha hb
  have h2 := Pl.mul_mag a b
  have hv : -4611686018427387904 ≤ a * b ∧ a * b ≤ 4611686018427387904 := by omega
  clear h1 h2
  by_cases hn : a * b < 0
  · have e1 : a * b / 18446744073709551616 = -1 := by omega
    have e2 : a * b % 18446744073709551616 = IntKind.u64.wrap (a * b) := by rw [IntKind.wrap_u64]
    have E1 := Lib.hid e1; clear e1
    have E2 := Lib.hid e2; clear e2
    go_enter Try.func4, Try.ntmps4
    go_wp2_with fail
    refine (known1 _).mono ?_
    rintro e w1 ⟨rfl, g1⟩
    go_wp2_with fail
    refine (mul_any a b (by omega) (by omega) _).mono ?_
    rintro e w2 ⟨rfl, g2⟩
    rw [E1.out, E2.out]
    go_wp2_with fail
    go_ret
    exact ⟨rfl, grown_trans g1 g2⟩
  · have e1 : a * b / 18446744073709551616 = 0 := by omega
    have e2 : a * b % 18446744073709551616 = a * b := by omega
    have E1 := Lib.hid e1; clear e1
    have E2 := Lib.hid e2; clear e2
    go_enter Try.func4, Try.ntmps4
    go_wp2_with fail
    refine (known1 _).mono ?_
    rintro e w1 ⟨rfl, g1⟩
    go_wp2_with fail
    refine (mul_any a b (by omega) (by omega) _).mono ?_
    rintro e w2 ⟨rfl, g2⟩
    rw [E1.out, E2.out]
    go_wp2_with fail
    go_ret
    exact ⟨rfl, grown_trans g1 g2⟩

theorem walk_WideBack (a d : Int) (w0 : (Lit.int .i64 a).wf = true) (w1 : (Lit.int .i64 d).wf = true) (w : World) :
    Calls Try.prog 6 #[.int .i64 a, .int .i64 d] w fun e w' => e = .returned (.bool true) ∧ Grown w w' := by
  have ha := bd64 w0
  have hd := bd64 w1
  clear w0 w1
  by_cases h0 : d = 0
  · subst h0
    go_enter Try.func6, Try.ntmps6
    go_wp2_with fail
    refine (known1 _).mono ?_
    rintro e w1 ⟨rfl, g1⟩
    go_wp2_with fail
    go_ret
    exact ⟨rfl, g1⟩
  · have hd0 : (d == 0) = false := beq_eq_false_iff_ne.2 h0
    have haa : (a == a) = true := by simp
    have c1 : ∀ w, _ := fun w => muldiv_ok a d d ha hd hd h0 (by rw [Pl.share_self a d h0]; exact ha) w
    have c2 : ∀ w, _ := fun w => floor_ok d a d hd ha hd h0 (by rw [Pl.flo_self a d h0]; exact ha) w
    rw [Pl.share_self a d h0] at c1
    rw [Pl.flo_self a d h0] at c2
    have C1 := Lib.hid c1; clear c1
    have C2 := Lib.hid c2; clear c2
    clear h0
    go_enter Try.func6, Try.ntmps6
    go_wp2_with fail
    refine (known1 _).mono ?_
    rintro e w1 ⟨rfl, g1⟩
    go_wp2_with fail
    refine (C1.out _).mono ?_
    rintro e w2 ⟨rfl, g2⟩
    go_wp2_with fail
    refine (C2.out _).mono ?_
    rintro e w3 ⟨rfl, g3⟩
    go_wp2_with fail
    go_ret
    exact ⟨rfl, grown_trans g1 (grown_trans g2 g3)⟩

end Go.Proofs.Ytedidjdifobclaa
