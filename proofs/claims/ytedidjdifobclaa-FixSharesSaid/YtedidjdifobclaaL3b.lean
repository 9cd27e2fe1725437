/- The walks of tympanlaw3.FixBack and tympanlaw3.FixShares. -/
import Derived.Test.YtedidjdifobclaaL3
import Derived.Test.YtedidjdifobclaaPlLaw3
namespace Go.Proofs.Ytedidjdifobclaa
set_option linter.unusedVariables false
open Go.RowKit

theorem shares_core (a b x y : Int) (hx : Hid (Pl.may3 a = x)) (hy : Hid (Pl.may3 b = y)) (hxf : Pl.fx x) (hyf : Pl.fx y) (w : World) :
    Calls Try.prog 7 #[.int .i64 a, .int .i64 b] w fun e w' => e = .returned (.bool true) ∧ Grown w w' := by
  have CM := Lib.hid (fun w => may3_any a w)
  rw [hx.out] at CM
  have CN := Lib.hid (fun w => may3_any b w)
  rw [hy.out] at CN
  by_cases h0 : y = 0 ∨ ¬ Pl.fx (Pl.share x 65536 y)
  · have CD := Lib.hid (fun w => fdiv_no x y (fun h => h0.elim h.2.2.1 (fun k => k h.2.2.2)) w)
    clear h0
    go_enter Try.func7, Try.ntmps7
    go_wp2_with fail
    refine (known3 _).mono ?_
    rintro e w1 ⟨rfl, g1⟩
    go_wp2_with fail
    refine (CM.out _).mono ?_
    rintro e w2 ⟨rfl, rfl⟩
    go_wp2_with fail
    refine (CN.out _).mono ?_
    rintro e w2 ⟨rfl, rfl⟩
    go_wp2_with fail
    refine (CD.out _).mono ?_
    rintro e w2 ⟨rfl, g2⟩
    go_wp2_with fail
    go_ret
    exact ⟨rfl, grown_trans g1 g2⟩
  · have hy0 : y ≠ 0 := fun h => h0 (.inl h)
    have hqf : Pl.fx (Pl.share x 65536 y) := Classical.not_not.1 fun h => h0 (.inr h)
    clear h0
    have CD := Lib.hid (fun w => fdiv_ok x y hxf hyf hy0 hqf w)
    obtain ⟨q, hq⟩ : ∃ q, Pl.share x 65536 y = q := ⟨_, rfl⟩
    rw [hq] at CD hqf
    obtain ⟨v, hv⟩ : ∃ v, Pl.share q y 65536 = v := ⟨_, rfl⟩
    obtain ⟨l1, l2, l3, l4, l5⟩ := Pl.shares_law x y q v hxf hyf hy0 hq hv hqf
    have hxb := hxf
    have hyb := hyf
    unfold Pl.fx at hxb hyb
    by_cases hvf : Pl.fx v
    · have CP := Lib.hid (fun w => fmul_ok q y hqf hyf (by rw [hv]; exact hvf) w)
      rw [hv] at CP
      have hvb := hvf
      unfold Pl.fx at hvb
      clear hq hv l5 hqf hxf hyf hvf
      have hms : (0 ≤ y ∧ Hid (Pl.mag y = y)) ∨ (y < 0 ∧ Hid (Pl.mag y = -y)) := by
        by_cases h : y < 0
        · exact .inr ⟨h, Lib.hid (Pl.mag_neg h)⟩
        · exact .inl ⟨by omega, Lib.hid (Pl.mag_pos (by omega))⟩
      clear hy0
      by_cases hs : v - x < 0 <;> rcases hms with ⟨m1, m2⟩ | ⟨m1, m2⟩
      all_goals
        rw [m2.out] at l3 l4
        go_enter Try.func7, Try.ntmps7
        go_wp2_with fail
        refine (known3 _).mono ?_
        rintro e w1 ⟨rfl, g1⟩
        go_wp2_with fail
        refine (CM.out _).mono ?_
        rintro e w2 ⟨rfl, rfl⟩
        go_wp2_with fail
        refine (CN.out _).mono ?_
        rintro e w2 ⟨rfl, rfl⟩
        go_wp2_with fail
        refine (CD.out _).mono ?_
        rintro e w2 ⟨rfl, g2⟩
        go_wp2_with fail
        refine (CP.out _).mono ?_
        rintro e w3 ⟨rfl, g3⟩
        go_wp2_with fail
        go_ret
        exact ⟨ret_bool (by first | rfl | (rw [decide_eq_true_eq]; omega)), grown_trans g1 (grown_trans g2 g3)⟩
    · have CP := Lib.hid (fun w => fmul_no q y (fun h => hvf (by rw [hv] at h; exact h.2.2)) w)
      have l5 := l5 hvf
      clear hq hv hqf hxf hyf hvf
      have l6 : 1073709055 < x ∨ (x ≤ 1073709055 ∧ x < -1073709055) := by omega
      clear l5 l1 l2 l3 l4 hy0
      rcases l6 with l6 | ⟨l6, l7⟩
      all_goals
        go_enter Try.func7, Try.ntmps7
        go_wp2_with fail
        refine (known3 _).mono ?_
        rintro e w1 ⟨rfl, g1⟩
        go_wp2_with fail
        refine (CM.out _).mono ?_
        rintro e w2 ⟨rfl, rfl⟩
        go_wp2_with fail
        refine (CN.out _).mono ?_
        rintro e w2 ⟨rfl, rfl⟩
        go_wp2_with fail
        refine (CD.out _).mono ?_
        rintro e w2 ⟨rfl, g2⟩
        go_wp2_with fail
        refine (CP.out _).mono ?_
        rintro e w3 ⟨rfl, g3⟩
        go_wp2_with fail
        go_ret
        exact ⟨ret_bool (by first | rfl | (rw [decide_eq_true_eq]; omega)), grown_trans g1 (grown_trans g2 g3)⟩
theorem walk_FixShares (a b : Int) (w0 : (Lit.int .i64 a).wf = true) (w1 : (Lit.int .i64 b).wf = true) (w : World) :
    Calls Try.prog 7 #[.int .i64 a, .int .i64 b] w fun e w' => e = .returned (.bool true) ∧ Grown w w' :=
  shares_core a b _ _ (Lib.hid rfl) (Lib.hid rfl) (Pl.may3_fx a) (Pl.may3_fx b) w

theorem back_core (a b x y p s : Int) (pb sb : Bool) (hx : Hid (Pl.may3 a = x)) (hy : Hid (Pl.may3 b = y)) (hxf : Pl.fx x) (hyf : Pl.fx y)
    (hp1 : ∀ w, Calls Try.prog 31 #[.int .i64 x, .int .i64 y] w fun e w' => e = .returned (.tuple #[.int .i64 p, .bool pb]) ∧ Grown w w')
    (hp2 : ∀ w, Calls Try.prog 31 #[.int .i64 y, .int .i64 x] w fun e w' => e = .returned (.tuple #[.int .i64 p, .bool pb]) ∧ Grown w w') (w : World) :
    Calls Try.prog 13 #[.int .i64 a, .int .i64 b] w fun e w' => e = .returned (.bool true) ∧ Grown w w' := by
  have CM := Lib.hid (fun w => may3_any a w)
  rw [hx.out] at CM
  have CN := Lib.hid (fun w => may3_any b w)
  rw [hy.out] at CN
  have HP1 := Lib.hid hp1; clear hp1
  have HP2 := Lib.hid hp2; clear hp2
  have e1 : Pl.share x 65536 65536 = x := Pl.share_self x 65536 (by decide)
  have C3 := Lib.hid (fun w => fmul_ok x 65536 hxf (by decide) (by rw [e1]; exact hxf) w)
  have C4 := Lib.hid (fun w => fdiv_ok x 65536 hxf (by decide) (by decide) (by rw [e1]; exact hxf) w)
  have C5 := Lib.hid (fun w => fdiv_no x 0 (fun h => h.2.2.1 rfl) w)
  rw [e1] at C3 C4
  clear e1
  have hpp : (p == p) = true := by simp
  have hbb : (pb == pb) = true := by simp
  have hxx : (x == x) = true := by simp
  have hxx' : (x != x) = false := by simp
  have hss : (x + y != x + y) = false := by simp
  have hxb := hxf
  have hyb := hyf
  unfold Pl.fx at hxb hyb
  have hz : x + y - y = x := by omega
  by_cases hs : Pl.fx (x + y)
  · have C1 := Lib.hid (fun w => fadd_ok x y hxf hyf hs w)
    have C2 := Lib.hid (fun w => fsub_ok (x + y) y hs hyf (by rw [hz]; exact hxf) w)
    rw [hz] at C2
    have hsb := hs
    unfold Pl.fx at hsb
    clear hz hs hxf hyf
    go_enter Try.func13, Try.ntmps13
    go_wp2_with fail
    refine (known3 _).mono ?_
    rintro e w1 ⟨rfl, g1⟩
    go_wp2_with fail
    refine (CM.out _).mono ?_
    rintro e w2 ⟨rfl, rfl⟩
    go_wp2_with fail
    refine (CN.out _).mono ?_
    rintro e w2 ⟨rfl, rfl⟩
    go_wp2_with fail
    refine (C1.out _).mono ?_
    rintro e w2 ⟨rfl, g2⟩
    go_wp2_with fail
    refine (C2.out _).mono ?_
    rintro e w3 ⟨rfl, g3⟩
    go_wp2_with fail
    refine (C3.out _).mono ?_
    rintro e w4 ⟨rfl, g4⟩
    go_wp2_with fail
    refine (C4.out _).mono ?_
    rintro e w5 ⟨rfl, g5⟩
    go_wp2_with fail
    refine (HP1.out _).mono ?_
    rintro e w6 ⟨rfl, g6⟩
    go_wp2_with fail
    refine (HP2.out _).mono ?_
    rintro e w7 ⟨rfl, g7⟩
    go_wp2_with fail
    refine (C5.out _).mono ?_
    rintro e w8 ⟨rfl, g8⟩
    go_wp2_with fail
    go_ret
    exact ⟨ret_bool (by first | rfl | simp), grown_trans g1 (grown_trans g2 (grown_trans g3 (grown_trans g4 (grown_trans g5 (grown_trans g6 (grown_trans g7 g8))))))⟩
  · have C1 := Lib.hid (fun w => fadd_no x y (fun h => hs h.2.2) w)
    have C2 := Lib.hid (fun w => fsub_ok 0 y (by decide) hyf (by unfold Pl.fx; omega) w)
    have hsb : x + y < -1073741823 ∨ (-1073741823 ≤ x + y ∧ 1073741823 < x + y) := by unfold Pl.fx at hs; omega
    clear hz hs hxf hyf
    rcases hsb with hsb | ⟨hsb, hsc⟩
    all_goals
      go_enter Try.func13, Try.ntmps13
      go_wp2_with fail
      refine (known3 _).mono ?_
      rintro e w1 ⟨rfl, g1⟩
      go_wp2_with fail
      refine (CM.out _).mono ?_
      rintro e w2 ⟨rfl, rfl⟩
      go_wp2_with fail
      refine (CN.out _).mono ?_
      rintro e w2 ⟨rfl, rfl⟩
      go_wp2_with fail
      refine (C1.out _).mono ?_
      rintro e w2 ⟨rfl, g2⟩
      go_wp2_with fail
      refine (C2.out _).mono ?_
      rintro e w3 ⟨rfl, g3⟩
      go_wp2_with fail
      refine (C3.out _).mono ?_
      rintro e w4 ⟨rfl, g4⟩
      go_wp2_with fail
      refine (C4.out _).mono ?_
      rintro e w5 ⟨rfl, g5⟩
      go_wp2_with fail
      refine (HP1.out _).mono ?_
      rintro e w6 ⟨rfl, g6⟩
      go_wp2_with fail
      refine (HP2.out _).mono ?_
      rintro e w7 ⟨rfl, g7⟩
      go_wp2_with fail
      refine (C5.out _).mono ?_
      rintro e w8 ⟨rfl, g8⟩
      go_wp2_with fail
      go_ret
      exact ⟨ret_bool (by first | rfl | simp), grown_trans g1 (grown_trans g2 (grown_trans g3 (grown_trans g4 (grown_trans g5 (grown_trans g6 (grown_trans g7 g8))))))⟩
theorem walk_FixBack (a b : Int) (w0 : (Lit.int .i64 a).wf = true) (w1 : (Lit.int .i64 b).wf = true) (w : World) :
    Calls Try.prog 13 #[.int .i64 a, .int .i64 b] w fun e w' => e = .returned (.bool true) ∧ Grown w w' := by
  have hx := Pl.may3_fx a
  have hy := Pl.may3_fx b
  by_cases h : Pl.fx (Pl.share (Pl.may3 a) (Pl.may3 b) 65536)
  · refine back_core a b _ _ (Pl.share (Pl.may3 a) (Pl.may3 b) 65536) 0 true true (Lib.hid rfl) (Lib.hid rfl) hx hy (fun w => fmul_ok _ _ hx hy h w) (fun w => ?_) w
    rw [Pl.share_comm]
    exact fmul_ok _ _ hy hx (by rw [Pl.share_comm]; exact h) w
  · refine back_core a b _ _ 0 0 false true (Lib.hid rfl) (Lib.hid rfl) hx hy (fun w => fmul_no _ _ (fun k => h k.2.2) w) (fun w => ?_) w
    exact fmul_no _ _ (fun k => h (by rw [Pl.share_comm]; exact k.2.2)) w
end Go.Proofs.Ytedidjdifobclaa
