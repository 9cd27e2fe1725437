/- The walks of package fix that package obj calls: From, Add (lines of XW8, for a seat without package wide). -/
import Derived.Test.YtenmbkngkabonaaKit
import Derived.Test.YtenmbkngkabonaaPlFix
import Derived.Test.YtenmbkngkabonaaRows
import Derived.Lib.Hide
namespace Go.Proofs.Ytenmbkngkabonaa
set_option linter.unusedVariables false
open Go.RowKit

theorem fmay_yes (a : Int) (h : Pl.fx a) (w : World) : Calls Try.prog 80 #[.int .i64 a] w fun e w' => e = .returned (.bool true) ∧ w = w' := by
  obtain ⟨h1, h2⟩ := h
  go_enter Try.func80, Try.ntmps80
  go_wp2
  go_ret
  exact ⟨ret_bool (by first | rfl | (rw [decide_eq_true_eq]; omega)), rfl⟩
theorem fmay_no (a : Int) (h : ¬ Pl.fx a) (w : World) : Calls Try.prog 80 #[.int .i64 a] w fun e w' => e = .returned (.bool false) ∧ w = w' := by
  have hc : a < -1073741823 ∨ (-1073741823 ≤ a ∧ 1073741823 < a) := by unfold Pl.fx at h; omega
  clear h
  rcases hc with h1 | ⟨h1, h2⟩
  all_goals
    go_enter Try.func80, Try.ntmps80
    go_wp2
    go_ret
    exact ⟨ret_bool (by first | rfl | (rw [decide_eq_false_iff_not]; omega)), rfl⟩

/-- one of the two is no fix -/
theorem told_no (a b : Int) (f : Value) (h : ¬ (Pl.fx a ∧ Pl.fx b)) (w : World) :
    Calls Try.prog 77 #[.int .i64 a, .int .i64 b, f] w fun e w' => e = .returned (.tuple #[.int .i64 0, .bool false]) ∧ Grown w w' := by
  by_cases ha : Pl.fx a
  · have hb : ¬ Pl.fx b := fun hb => h ⟨ha, hb⟩
    go_enter Try.func77, Try.ntmps77
    go_wp2_with fail
    refine (fmay_yes a ha _).mono ?_
    rintro e w1 ⟨rfl, rfl⟩
    go_wp2_with fail
    refine (fmay_no b hb _).mono ?_
    rintro e w1 ⟨rfl, rfl⟩
    go_wp2_with fail
    go_ret2
    exact ⟨rfl, Grown.refl _⟩
  · go_enter Try.func77, Try.ntmps77
    go_wp2_with fail
    refine (fmay_no a ha _).mono ?_
    rintro e w1 ⟨rfl, rfl⟩
    go_wp2_with fail
    go_ret2
    exact ⟨rfl, Grown.refl _⟩
theorem told_yes_add (a b c : Int) (ha : Pl.fx a) (hb : Pl.fx b) (hc : Pl.fx c)
    (hF : ∀ w, Calls Try.prog 78 #[.int .i64 a, .int .i64 b] w fun e w' => e = .returned (.tuple #[.int .i64 c, .bool true]) ∧ Grown w w') (w : World) :
    Calls Try.prog 77 #[.int .i64 a, .int .i64 b, .func (.func 78) #[] #[]] w fun e w' => e = .returned (.tuple #[.int .i64 c, .bool true]) ∧ Grown w w' := by
  have HF := Lib.hid hF; clear hF
  go_enter Try.func77, Try.ntmps77
  go_wp2_with fail
  refine (fmay_yes a ha _).mono ?_
  rintro e w1 ⟨rfl, rfl⟩
  go_wp2_with fail
  refine (fmay_yes b hb _).mono ?_
  rintro e w1 ⟨rfl, rfl⟩
  go_wp2_with fail
  refine (HF.out _).mono ?_
  rintro e w2 ⟨rfl, g2⟩
  go_wp2_with fail
  refine (fmay_yes c hc _).mono ?_
  rintro e w1 ⟨rfl, rfl⟩
  go_wp2_with fail
  go_ret2
  exact ⟨rfl, g2⟩
/-- what is reckoned is none -/
theorem told_fail_add (a b c : Int) (ok : Bool) (ha : Pl.fx a) (hb : Pl.fx b) (hc : ok = true → ¬ Pl.fx c)
    (hF : ∀ w, Calls Try.prog 78 #[.int .i64 a, .int .i64 b] w fun e w' => e = .returned (.tuple #[.int .i64 c, .bool ok]) ∧ Grown w w') (w : World) :
    Calls Try.prog 77 #[.int .i64 a, .int .i64 b, .func (.func 78) #[] #[]] w fun e w' => e = .returned (.tuple #[.int .i64 0, .bool false]) ∧ Grown w w' := by
  have HF := Lib.hid hF; clear hF
  cases ok
  · clear hc
    go_enter Try.func77, Try.ntmps77
    go_wp2_with fail
    refine (fmay_yes a ha _).mono ?_
    rintro e w1 ⟨rfl, rfl⟩
    go_wp2_with fail
    refine (fmay_yes b hb _).mono ?_
    rintro e w1 ⟨rfl, rfl⟩
    go_wp2_with fail
    refine (HF.out _).mono ?_
    rintro e w2 ⟨rfl, g2⟩
    go_wp2_with fail
    go_ret2
    exact ⟨rfl, g2⟩
  · have hn := hc rfl
    clear hc
    go_enter Try.func77, Try.ntmps77
    go_wp2_with fail
    refine (fmay_yes a ha _).mono ?_
    rintro e w1 ⟨rfl, rfl⟩
    go_wp2_with fail
    refine (fmay_yes b hb _).mono ?_
    rintro e w1 ⟨rfl, rfl⟩
    go_wp2_with fail
    refine (HF.out _).mono ?_
    rintro e w2 ⟨rfl, g2⟩
    go_wp2_with fail
    refine (fmay_no c hn _).mono ?_
    rintro e w1 ⟨rfl, rfl⟩
    go_wp2_with fail
    go_ret2
    exact ⟨rfl, g2⟩

theorem add1_any (a b : Int) (ha : Pl.fx a) (hb : Pl.fx b) (w : World) :
    Calls Try.prog 78 #[.int .i64 a, .int .i64 b] w fun e w' => e = .returned (.tuple #[.int .i64 (a + b), .bool true]) ∧ Grown w w' := by
  obtain ⟨h1, h2⟩ := ha
  obtain ⟨h3, h4⟩ := hb
  go_enter Try.func78, Try.ntmps78
  go_wp2
  go_ret2
  exact ⟨rfl, Grown.refl _⟩
theorem fadd_by (a b c : Int) (ok : Bool) (h : ∀ w, Calls Try.prog 77 #[.int .i64 a, .int .i64 b, .func (.func 78) #[] #[]] w fun e w' => e = .returned (.tuple #[.int .i64 c, .bool ok]) ∧ Grown w w') (w : World) :
    Calls Try.prog 72 #[.int .i64 a, .int .i64 b] w fun e w' => e = .returned (.tuple #[.int .i64 c, .bool ok]) ∧ Grown w w' := by
  have H := Lib.hid h; clear h
  go_enter Try.func72, Try.ntmps72
  go_wp2_with fail
  refine (H.out _).mono ?_
  rintro e w1 ⟨rfl, g1⟩
  go_wp2
  go_ret2
  exact ⟨rfl, g1⟩

theorem fadd_ok (a b : Int) (ha : Pl.fx a) (hb : Pl.fx b) (hc : Pl.fx (a + b)) (w : World) :
    Calls Try.prog 72 #[.int .i64 a, .int .i64 b] w fun e w' => e = .returned (.tuple #[.int .i64 (a + b), .bool true]) ∧ Grown w w' :=
  fadd_by a b _ true (told_yes_add a b _ ha hb hc (add1_any a b ha hb)) w
theorem fadd_no (a b : Int) (h : ¬ (Pl.fx a ∧ Pl.fx b ∧ Pl.fx (a + b))) (w : World) :
    Calls Try.prog 72 #[.int .i64 a, .int .i64 b] w fun e w' => e = .returned (.tuple #[.int .i64 0, .bool false]) ∧ Grown w w' := by
  by_cases hab : Pl.fx a ∧ Pl.fx b
  · exact fadd_by a b 0 false (told_fail_add a b _ true hab.1 hab.2 (fun _ hc => h ⟨hab.1, hab.2, hc⟩) (add1_any a b hab.1 hab.2)) w
  · exact fadd_by a b 0 false (told_no a b _ hab) w

theorem ffrom_ok (v : Int) (h : -16383 ≤ v ∧ v ≤ 16383) (w : World) :
    Calls Try.prog 71 #[.int .i64 v] w fun e w' => e = .returned (.tuple #[.int .i64 (v * 65536), .bool true]) ∧ w = w' := by
  go_enter Try.func71, Try.ntmps71
  go_wp2
  go_ret2
  exact ⟨rfl, rfl⟩
theorem ffrom_no (v : Int) (h : ¬ (-16383 ≤ v ∧ v ≤ 16383)) (w : World) :
    Calls Try.prog 71 #[.int .i64 v] w fun e w' => e = .returned (.tuple #[.int .i64 0, .bool false]) ∧ w = w' := by
  have hc : v < -16383 ∨ (-16383 ≤ v ∧ 16383 < v) := by omega
  clear h
  rcases hc with h1 | ⟨h1, h2⟩
  all_goals
    go_enter Try.func71, Try.ntmps71
    go_wp2
    go_ret2
    exact ⟨rfl, rfl⟩

end Go.Proofs.Ytenmbkngkabonaa
