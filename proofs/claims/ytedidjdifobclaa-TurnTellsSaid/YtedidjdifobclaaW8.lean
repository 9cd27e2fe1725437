/- The walks of package fix: From, Add, Sub, Mul, Div. -/
import Derived.Test.YtedidjdifobclaaW4
import Derived.Test.YtedidjdifobclaaPlFix
namespace Go.Proofs.Ytedidjdifobclaa
set_option linter.unusedVariables false
open Go.RowKit

theorem fmay_yes (a : Int) (h : Pl.fx a) (w : World) : Calls Try.prog 87 #[.int .i64 a] w fun e w' => e = .returned (.bool true) ∧ w = w' := by
  obtain ⟨h1, h2⟩ := h
  go_enter Try.func87, Try.ntmps87
  go_wp2
  go_ret
  exact ⟨ret_bool (by first | rfl | (rw [decide_eq_true_eq]; omega)), rfl⟩
theorem fmay_no (a : Int) (h : ¬ Pl.fx a) (w : World) : Calls Try.prog 87 #[.int .i64 a] w fun e w' => e = .returned (.bool false) ∧ w = w' := by
  have hc : a < -1073741823 ∨ (-1073741823 ≤ a ∧ 1073741823 < a) := by unfold Pl.fx at h; omega
  clear h
  rcases hc with h1 | ⟨h1, h2⟩
  all_goals
    go_enter Try.func87, Try.ntmps87
    go_wp2
    go_ret
    exact ⟨ret_bool (by first | rfl | (rw [decide_eq_false_iff_not]; omega)), rfl⟩

/-- one of the two is no fix -/
theorem told_no (a b : Int) (f : Value) (h : ¬ (Pl.fx a ∧ Pl.fx b)) (w : World) :
    Calls Try.prog 79 #[.int .i64 a, .int .i64 b, f] w fun e w' => e = .returned (.tuple #[.int .i64 0, .bool false]) ∧ Grown w w' := by
  by_cases ha : Pl.fx a
  · have hb : ¬ Pl.fx b := fun hb => h ⟨ha, hb⟩
    go_enter Try.func79, Try.ntmps79
    go_wp2_with fail
    refine (fmay_yes a ha _).mono ?_
    rintro e w1 ⟨rfl, rfl⟩
    go_wp2_with fail
    refine (fmay_no b hb _).mono ?_
    rintro e w1 ⟨rfl, rfl⟩
    go_wp2_with fail
    go_ret2
    exact ⟨rfl, Grown.refl _⟩
  · go_enter Try.func79, Try.ntmps79
    go_wp2_with fail
    refine (fmay_no a ha _).mono ?_
    rintro e w1 ⟨rfl, rfl⟩
    go_wp2_with fail
    go_ret2
    exact ⟨rfl, Grown.refl _⟩
theorem told_yes_add (a b c : Int) (ha : Pl.fx a) (hb : Pl.fx b) (hc : Pl.fx c)
    (hF : ∀ w, Calls Try.prog 85 #[.int .i64 a, .int .i64 b] w fun e w' => e = .returned (.tuple #[.int .i64 c, .bool true]) ∧ Grown w w') (w : World) :
    Calls Try.prog 79 #[.int .i64 a, .int .i64 b, .func (.func 85) #[] #[]] w fun e w' => e = .returned (.tuple #[.int .i64 c, .bool true]) ∧ Grown w w' := by
  have HF := Lib.hid hF; clear hF
  go_enter Try.func79, Try.ntmps79
  go_wp2_with fail
  refine (fmay_yes a ha _).mono ?_
  rintro e w1 ⟨rfl, rfl⟩
  go_wp2_with fail
  refine (fmay_yes b hb _).mono ?_
  rintro e w1 ⟨rfl, rfl⟩
  go_wp2_with fail
  refine (HF.out _).mono ?_
  rintro e w2 ⟨rfl, g2⟩
  go_wp2_with fail
  refine (fmay_yes c hc _).mono ?_
  rintro e w1 ⟨rfl, rfl⟩
  go_wp2_with fail
  go_ret2
  exact ⟨rfl, g2⟩
/-- what is reckoned is none -/
theorem told_fail_add (a b c : Int) (ok : Bool) (ha : Pl.fx a) (hb : Pl.fx b) (hc : ok = true → ¬ Pl.fx c)
    (hF : ∀ w, Calls Try.prog 85 #[.int .i64 a, .int .i64 b] w fun e w' => e = .returned (.tuple #[.int .i64 c, .bool ok]) ∧ Grown w w') (w : World) :
    Calls Try.prog 79 #[.int .i64 a, .int .i64 b, .func (.func 85) #[] #[]] w fun e w' => e = .returned (.tuple #[.int .i64 0, .bool false]) ∧ Grown w w' := by
  have HF := Lib.hid hF; clear hF
  cases ok
  · clear hc
    go_enter Try.func79, Try.ntmps79
    go_wp2_with fail
    refine (fmay_yes a ha _).mono ?_
    rintro e w1 ⟨rfl, rfl⟩
    go_wp2_with fail
    refine (fmay_yes b hb _).mono ?_
    rintro e w1 ⟨rfl, rfl⟩
    go_wp2_with fail
    refine (HF.out _).mono ?_
    rintro e w2 ⟨rfl, g2⟩
    go_wp2_with fail
    go_ret2
    exact ⟨rfl, g2⟩
  · have hn := hc rfl
    clear hc
    go_enter Try.func79, Try.ntmps79
    go_wp2_with fail
    refine (fmay_yes a ha _).mono ?_
    rintro e w1 ⟨rfl, rfl⟩
    go_wp2_with fail
    refine (fmay_yes b hb _).mono ?_
    rintro e w1 ⟨rfl, rfl⟩
    go_wp2_with fail
    refine (HF.out _).mono ?_
    rintro e w2 ⟨rfl, g2⟩
    go_wp2_with fail
    refine (fmay_no c hn _).mono ?_
    rintro e w1 ⟨rfl, rfl⟩
    go_wp2_with fail
    go_ret2
    exact ⟨rfl, g2⟩

theorem told_yes_sub (a b c : Int) (ha : Pl.fx a) (hb : Pl.fx b) (hc : Pl.fx c)
    (hF : ∀ w, Calls Try.prog 86 #[.int .i64 a, .int .i64 b] w fun e w' => e = .returned (.tuple #[.int .i64 c, .bool true]) ∧ Grown w w') (w : World) :
    Calls Try.prog 79 #[.int .i64 a, .int .i64 b, .func (.func 86) #[] #[]] w fun e w' => e = .returned (.tuple #[.int .i64 c, .bool true]) ∧ Grown w w' := by
  have HF := Lib.hid hF; clear hF
  go_enter Try.func79, Try.ntmps79
  go_wp2_with fail
  refine (fmay_yes a ha _).mono ?_
  rintro e w1 ⟨rfl, rfl⟩
  go_wp2_with fail
  refine (fmay_yes b hb _).mono ?_
  rintro e w1 ⟨rfl, rfl⟩
  go_wp2_with fail
  refine (HF.out _).mono ?_
  rintro e w2 ⟨rfl, g2⟩
  go_wp2_with fail
  refine (fmay_yes c hc _).mono ?_
  rintro e w1 ⟨rfl, rfl⟩
  go_wp2_with fail
  go_ret2
  exact ⟨rfl, g2⟩
/-- what is reckoned is none -/
theorem told_fail_sub (a b c : Int) (ok : Bool) (ha : Pl.fx a) (hb : Pl.fx b) (hc : ok = true → ¬ Pl.fx c)
    (hF : ∀ w, Calls Try.prog 86 #[.int .i64 a, .int .i64 b] w fun e w' => e = .returned (.tuple #[.int .i64 c, .bool ok]) ∧ Grown w w') (w : World) :
    Calls Try.prog 79 #[.int .i64 a, .int .i64 b, .func (.func 86) #[] #[]] w fun e w' => e = .returned (.tuple #[.int .i64 0, .bool false]) ∧ Grown w w' := by
  have HF := Lib.hid hF; clear hF
  cases ok
  · clear hc
    go_enter Try.func79, Try.ntmps79
    go_wp2_with fail
    refine (fmay_yes a ha _).mono ?_
    rintro e w1 ⟨rfl, rfl⟩
    go_wp2_with fail
    refine (fmay_yes b hb _).mono ?_
    rintro e w1 ⟨rfl, rfl⟩
    go_wp2_with fail
    refine (HF.out _).mono ?_
    rintro e w2 ⟨rfl, g2⟩
    go_wp2_with fail
    go_ret2
    exact ⟨rfl, g2⟩
  · have hn := hc rfl
    clear hc
    go_enter Try.func79, Try.ntmps79
    go_wp2_with fail
    refine (fmay_yes a ha _).mono ?_
    rintro e w1 ⟨rfl, rfl⟩
    go_wp2_with fail
    refine (fmay_yes b hb _).mono ?_
    rintro e w1 ⟨rfl, rfl⟩
    go_wp2_with fail
    refine (HF.out _).mono ?_
    rintro e w2 ⟨rfl, g2⟩
    go_wp2_with fail
    refine (fmay_no c hn _).mono ?_
    rintro e w1 ⟨rfl, rfl⟩
    go_wp2_with fail
    go_ret2
    exact ⟨rfl, g2⟩

theorem told_yes_mul (a b c : Int) (ha : Pl.fx a) (hb : Pl.fx b) (hc : Pl.fx c)
    (hF : ∀ w, Calls Try.prog 81 #[.int .i64 a, .int .i64 b] w fun e w' => e = .returned (.tuple #[.int .i64 c, .bool true]) ∧ Grown w w') (w : World) :
    Calls Try.prog 79 #[.int .i64 a, .int .i64 b, .func (.func 81) #[] #[]] w fun e w' => e = .returned (.tuple #[.int .i64 c, .bool true]) ∧ Grown w w' := by
  have HF := Lib.hid hF; clear hF
  go_enter Try.func79, Try.ntmps79
  go_wp2_with fail
  refine (fmay_yes a ha _).mono ?_
  rintro e w1 ⟨rfl, rfl⟩
  go_wp2_with fail
  refine (fmay_yes b hb _).mono ?_
  rintro e w1 ⟨rfl, rfl⟩
  go_wp2_with fail
  refine (HF.out _).mono ?_
  rintro e w2 ⟨rfl, g2⟩
  go_wp2_with fail
  refine (fmay_yes c hc _).mono ?_
  rintro e w1 ⟨rfl, rfl⟩
  go_wp2_with fail
  go_ret2
  exact ⟨rfl, g2⟩
/-- what is reckoned is none -/
theorem told_fail_mul (a b c : Int) (ok : Bool) (ha : Pl.fx a) (hb : Pl.fx b) (hc : ok = true → ¬ Pl.fx c)
    (hF : ∀ w, Calls Try.prog 81 #[.int .i64 a, .int .i64 b] w fun e w' => e = .returned (.tuple #[.int .i64 c, .bool ok]) ∧ Grown w w') (w : World) :
    Calls Try.prog 79 #[.int .i64 a, .int .i64 b, .func (.func 81) #[] #[]] w fun e w' => e = .returned (.tuple #[.int .i64 0, .bool false]) ∧ Grown w w' := by
  have HF := Lib.hid hF; clear hF
  cases ok
  · clear hc
    go_enter Try.func79, Try.ntmps79
    go_wp2_with fail
    refine (fmay_yes a ha _).mono ?_
    rintro e w1 ⟨rfl, rfl⟩
    go_wp2_with fail
    refine (fmay_yes b hb _).mono ?_
    rintro e w1 ⟨rfl, rfl⟩
    go_wp2_with fail
    refine (HF.out _).mono ?_
    rintro e w2 ⟨rfl, g2⟩
    go_wp2_with fail
    go_ret2
    exact ⟨rfl, g2⟩
  · have hn := hc rfl
    clear hc
    go_enter Try.func79, Try.ntmps79
    go_wp2_with fail
    refine (fmay_yes a ha _).mono ?_
    rintro e w1 ⟨rfl, rfl⟩
    go_wp2_with fail
    refine (fmay_yes b hb _).mono ?_
    rintro e w1 ⟨rfl, rfl⟩
    go_wp2_with fail
    refine (HF.out _).mono ?_
    rintro e w2 ⟨rfl, g2⟩
    go_wp2_with fail
    refine (fmay_no c hn _).mono ?_
    rintro e w1 ⟨rfl, rfl⟩
    go_wp2_with fail
    go_ret2
    exact ⟨rfl, g2⟩

theorem told_yes_div (a b c : Int) (ha : Pl.fx a) (hb : Pl.fx b) (hc : Pl.fx c)
    (hF : ∀ w, Calls Try.prog 80 #[.int .i64 a, .int .i64 b] w fun e w' => e = .returned (.tuple #[.int .i64 c, .bool true]) ∧ Grown w w') (w : World) :
    Calls Try.prog 79 #[.int .i64 a, .int .i64 b, .func (.func 80) #[] #[]] w fun e w' => e = .returned (.tuple #[.int .i64 c, .bool true]) ∧ Grown w w' := by
  have HF := Lib.hid hF; clear hF
  go_enter Try.func79, Try.ntmps79
  go_wp2_with fail
  refine (fmay_yes a ha _).mono ?_
  rintro e w1 ⟨rfl, rfl⟩
  go_wp2_with fail
  refine (fmay_yes b hb _).mono ?_
  rintro e w1 ⟨rfl, rfl⟩
  go_wp2_with fail
  refine (HF.out _).mono ?_
  rintro e w2 ⟨rfl, g2⟩
  go_wp2_with fail
  refine (fmay_yes c hc _).mono ?_
  rintro e w1 ⟨rfl, rfl⟩
  go_wp2_with fail
  go_ret2
  exact ⟨rfl, g2⟩
/-- what is reckoned is none -/
theorem told_fail_div (a b c : Int) (ok : Bool) (ha : Pl.fx a) (hb : Pl.fx b) (hc : ok = true → ¬ Pl.fx c)
    (hF : ∀ w, Calls Try.prog 80 #[.int .i64 a, .int .i64 b] w fun e w' => e = .returned (.tuple #[.int .i64 c, .bool ok]) ∧ Grown w w') (w : World) :
    Calls Try.prog 79 #[.int .i64 a, .int .i64 b, .func (.func 80) #[] #[]] w fun e w' => e = .returned (.tuple #[.int .i64 0, .bool false]) ∧ Grown w w' := by
  have HF := Lib.hid hF; clear hF
  cases ok
  · clear hc
    go_enter Try.func79, Try.ntmps79
    go_wp2_with fail
    refine (fmay_yes a ha _).mono ?_
    rintro e w1 ⟨rfl, rfl⟩
    go_wp2_with fail
    refine (fmay_yes b hb _).mono ?_
    rintro e w1 ⟨rfl, rfl⟩
    go_wp2_with fail
    refine (HF.out _).mono ?_
    rintro e w2 ⟨rfl, g2⟩
    go_wp2_with fail
    go_ret2
    exact ⟨rfl, g2⟩
  · have hn := hc rfl
    clear hc
    go_enter Try.func79, Try.ntmps79
    go_wp2_with fail
    refine (fmay_yes a ha _).mono ?_
    rintro e w1 ⟨rfl, rfl⟩
    go_wp2_with fail
    refine (fmay_yes b hb _).mono ?_
    rintro e w1 ⟨rfl, rfl⟩
    go_wp2_with fail
    refine (HF.out _).mono ?_
    rintro e w2 ⟨rfl, g2⟩
    go_wp2_with fail
    refine (fmay_no c hn _).mono ?_
    rintro e w1 ⟨rfl, rfl⟩
    go_wp2_with fail
    go_ret2
    exact ⟨rfl, g2⟩

theorem add1_any (a b : Int) (ha : Pl.fx a) (hb : Pl.fx b) (w : World) :
    Calls Try.prog 85 #[.int .i64 a, .int .i64 b] w fun e w' => e = .returned (.tuple #[.int .i64 (a + b), .bool true]) ∧ Grown w w' := by
  obtain ⟨h1, h2⟩ := ha
  obtain ⟨h3, h4⟩ := hb
  go_enter Try.func85, Try.ntmps85
  go_wp2
  go_ret2
  exact ⟨rfl, Grown.refl _⟩
theorem sub1_any (a b : Int) (ha : Pl.fx a) (hb : Pl.fx b) (w : World) :
    Calls Try.prog 86 #[.int .i64 a, .int .i64 b] w fun e w' => e = .returned (.tuple #[.int .i64 (a - b), .bool true]) ∧ Grown w w' := by
  obtain ⟨h1, h2⟩ := ha
  obtain ⟨h3, h4⟩ := hb
  go_enter Try.func86, Try.ntmps86
  go_wp2
  go_ret2
  exact ⟨rfl, Grown.refl _⟩
theorem mul1_any (a b c : Int) (ok : Bool) (h : ∀ w, Calls Try.prog 26 #[.int .i64 a, .int .i64 b, .int .i64 65536] w fun e w' => e = .returned (.tuple #[.int .i64 c, .bool ok]) ∧ Grown w w') (w : World) :
    Calls Try.prog 81 #[.int .i64 a, .int .i64 b] w fun e w' => e = .returned (.tuple #[.int .i64 c, .bool ok]) ∧ Grown w w' := by
  have H := Lib.hid h; clear h
  go_enter Try.func81, Try.ntmps81
  go_wp2_with fail
  refine (H.out _).mono ?_
  rintro e w1 ⟨rfl, g1⟩
  go_wp2
  go_ret2
  exact ⟨rfl, g1⟩
theorem div1_any (a b c : Int) (ok : Bool) (h : ∀ w, Calls Try.prog 26 #[.int .i64 a, .int .i64 65536, .int .i64 b] w fun e w' => e = .returned (.tuple #[.int .i64 c, .bool ok]) ∧ Grown w w') (w : World) :
    Calls Try.prog 80 #[.int .i64 a, .int .i64 b] w fun e w' => e = .returned (.tuple #[.int .i64 c, .bool ok]) ∧ Grown w w' := by
  have H := Lib.hid h; clear h
  go_enter Try.func80, Try.ntmps80
  go_wp2_with fail
  refine (H.out _).mono ?_
  rintro e w1 ⟨rfl, g1⟩
  go_wp2
  go_ret2
  exact ⟨rfl, g1⟩

theorem fadd_by (a b c : Int) (ok : Bool) (h : ∀ w, Calls Try.prog 79 #[.int .i64 a, .int .i64 b, .func (.func 85) #[] #[]] w fun e w' => e = .returned (.tuple #[.int .i64 c, .bool ok]) ∧ Grown w w') (w : World) :
    Calls Try.prog 42 #[.int .i64 a, .int .i64 b] w fun e w' => e = .returned (.tuple #[.int .i64 c, .bool ok]) ∧ Grown w w' := by
  have H := Lib.hid h; clear h
  go_enter Try.func42, Try.ntmps42
  go_wp2_with fail
  refine (H.out _).mono ?_
  rintro e w1 ⟨rfl, g1⟩
  go_wp2
  go_ret2
  exact ⟨rfl, g1⟩

theorem fsub_by (a b c : Int) (ok : Bool) (h : ∀ w, Calls Try.prog 79 #[.int .i64 a, .int .i64 b, .func (.func 86) #[] #[]] w fun e w' => e = .returned (.tuple #[.int .i64 c, .bool ok]) ∧ Grown w w') (w : World) :
    Calls Try.prog 43 #[.int .i64 a, .int .i64 b] w fun e w' => e = .returned (.tuple #[.int .i64 c, .bool ok]) ∧ Grown w w' := by
  have H := Lib.hid h; clear h
  go_enter Try.func43, Try.ntmps43
  go_wp2_with fail
  refine (H.out _).mono ?_
  rintro e w1 ⟨rfl, g1⟩
  go_wp2
  go_ret2
  exact ⟨rfl, g1⟩

theorem fmul_by (a b c : Int) (ok : Bool) (h : ∀ w, Calls Try.prog 79 #[.int .i64 a, .int .i64 b, .func (.func 81) #[] #[]] w fun e w' => e = .returned (.tuple #[.int .i64 c, .bool ok]) ∧ Grown w w') (w : World) :
    Calls Try.prog 31 #[.int .i64 a, .int .i64 b] w fun e w' => e = .returned (.tuple #[.int .i64 c, .bool ok]) ∧ Grown w w' := by
  have H := Lib.hid h; clear h
  go_enter Try.func31, Try.ntmps31
  go_wp2_with fail
  refine (H.out _).mono ?_
  rintro e w1 ⟨rfl, g1⟩
  go_wp2
  go_ret2
  exact ⟨rfl, g1⟩

theorem fdiv_by (a b c : Int) (ok : Bool) (h : ∀ w, Calls Try.prog 79 #[.int .i64 a, .int .i64 b, .func (.func 80) #[] #[]] w fun e w' => e = .returned (.tuple #[.int .i64 c, .bool ok]) ∧ Grown w w') (w : World) :
    Calls Try.prog 30 #[.int .i64 a, .int .i64 b] w fun e w' => e = .returned (.tuple #[.int .i64 c, .bool ok]) ∧ Grown w w' := by
  have H := Lib.hid h; clear h
  go_enter Try.func30, Try.ntmps30
  go_wp2_with fail
  refine (H.out _).mono ?_
  rintro e w1 ⟨rfl, g1⟩
  go_wp2
  go_ret2
  exact ⟨rfl, g1⟩

theorem fadd_ok (a b : Int) (ha : Pl.fx a) (hb : Pl.fx b) (hc : Pl.fx (a + b)) (w : World) :
    Calls Try.prog 42 #[.int .i64 a, .int .i64 b] w fun e w' => e = .returned (.tuple #[.int .i64 (a + b), .bool true]) ∧ Grown w w' :=
  fadd_by a b _ true (told_yes_add a b _ ha hb hc (add1_any a b ha hb)) w
theorem fadd_no (a b : Int) (h : ¬ (Pl.fx a ∧ Pl.fx b ∧ Pl.fx (a + b))) (w : World) :
    Calls Try.prog 42 #[.int .i64 a, .int .i64 b] w fun e w' => e = .returned (.tuple #[.int .i64 0, .bool false]) ∧ Grown w w' := by
  by_cases hab : Pl.fx a ∧ Pl.fx b
  · exact fadd_by a b 0 false (told_fail_add a b _ true hab.1 hab.2 (fun _ hc => h ⟨hab.1, hab.2, hc⟩) (add1_any a b hab.1 hab.2)) w
  · exact fadd_by a b 0 false (told_no a b _ hab) w

theorem fsub_ok (a b : Int) (ha : Pl.fx a) (hb : Pl.fx b) (hc : Pl.fx (a - b)) (w : World) :
    Calls Try.prog 43 #[.int .i64 a, .int .i64 b] w fun e w' => e = .returned (.tuple #[.int .i64 (a - b), .bool true]) ∧ Grown w w' :=
  fsub_by a b _ true (told_yes_sub a b _ ha hb hc (sub1_any a b ha hb)) w
theorem fsub_no (a b : Int) (h : ¬ (Pl.fx a ∧ Pl.fx b ∧ Pl.fx (a - b))) (w : World) :
    Calls Try.prog 43 #[.int .i64 a, .int .i64 b] w fun e w' => e = .returned (.tuple #[.int .i64 0, .bool false]) ∧ Grown w w' := by
  by_cases hab : Pl.fx a ∧ Pl.fx b
  · exact fsub_by a b 0 false (told_fail_sub a b _ true hab.1 hab.2 (fun _ hc => h ⟨hab.1, hab.2, hc⟩) (sub1_any a b hab.1 hab.2)) w
  · exact fsub_by a b 0 false (told_no a b _ hab) w

theorem fx_i64 {a : Int} (h : Pl.fx a) : Pl.i64 a := by unfold Pl.fx at h; unfold Pl.i64; omega
theorem fmul_ok (a b : Int) (ha : Pl.fx a) (hb : Pl.fx b) (hc : Pl.fx (Pl.share a b 65536)) (w : World) :
    Calls Try.prog 31 #[.int .i64 a, .int .i64 b] w fun e w' => e = .returned (.tuple #[.int .i64 (Pl.share a b 65536), .bool true]) ∧ Grown w w' :=
  fmul_by a b _ true (told_yes_mul a b _ ha hb hc (mul1_any a b _ true (muldiv_ok a b 65536 (fx_i64 ha) (fx_i64 hb) (by decide) (by decide) (fx_i64 hc)))) w
theorem fmul_no (a b : Int) (h : ¬ (Pl.fx a ∧ Pl.fx b ∧ Pl.fx (Pl.share a b 65536))) (w : World) :
    Calls Try.prog 31 #[.int .i64 a, .int .i64 b] w fun e w' => e = .returned (.tuple #[.int .i64 0, .bool false]) ∧ Grown w w' := by
  by_cases hab : Pl.fx a ∧ Pl.fx b
  · by_cases hi : Pl.i64 (Pl.share a b 65536)
    · exact fmul_by a b 0 false (told_fail_mul a b _ true hab.1 hab.2 (fun _ hc => h ⟨hab.1, hab.2, hc⟩) (mul1_any a b _ true (muldiv_ok a b 65536 (fx_i64 hab.1) (fx_i64 hab.2) (by decide) (by decide) hi))) w
    · exact fmul_by a b 0 false (told_fail_mul a b _ false hab.1 hab.2 (fun h => by cases h) (mul1_any a b _ false (muldiv_no a b 65536 (fx_i64 hab.1) (fx_i64 hab.2) (by decide) (.inr hi)))) w
  · exact fmul_by a b 0 false (told_no a b _ hab) w
theorem fdiv_ok (a b : Int) (ha : Pl.fx a) (hb : Pl.fx b) (h0 : b ≠ 0) (hc : Pl.fx (Pl.share a 65536 b)) (w : World) :
    Calls Try.prog 30 #[.int .i64 a, .int .i64 b] w fun e w' => e = .returned (.tuple #[.int .i64 (Pl.share a 65536 b), .bool true]) ∧ Grown w w' :=
  fdiv_by a b _ true (told_yes_div a b _ ha hb hc (div1_any a b _ true (muldiv_ok a 65536 b (fx_i64 ha) (by decide) (fx_i64 hb) h0 (fx_i64 hc)))) w
theorem fdiv_no (a b : Int) (h : ¬ (Pl.fx a ∧ Pl.fx b ∧ b ≠ 0 ∧ Pl.fx (Pl.share a 65536 b))) (w : World) :
    Calls Try.prog 30 #[.int .i64 a, .int .i64 b] w fun e w' => e = .returned (.tuple #[.int .i64 0, .bool false]) ∧ Grown w w' := by
  by_cases hab : Pl.fx a ∧ Pl.fx b
  · by_cases hi : b ≠ 0 ∧ Pl.i64 (Pl.share a 65536 b)
    · exact fdiv_by a b 0 false (told_fail_div a b _ true hab.1 hab.2 (fun _ hc => h ⟨hab.1, hab.2, hi.1, hc⟩) (div1_any a b _ true (muldiv_ok a 65536 b (fx_i64 hab.1) (by decide) (fx_i64 hab.2) hi.1 hi.2))) w
    · refine fdiv_by a b 0 false (told_fail_div a b _ false hab.1 hab.2 (fun h => by cases h) (div1_any a b _ false (muldiv_no a 65536 b (fx_i64 hab.1) (by decide) (fx_i64 hab.2) ?_))) w
      by_cases h0 : b = 0
      · exact .inl h0
      · exact .inr (fun h => hi ⟨h0, h⟩)
  · exact fdiv_by a b 0 false (told_no a b _ hab) w
end Go.Proofs.Ytedidjdifobclaa
