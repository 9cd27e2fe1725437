/- The walks of wide.more, wide.signed and wide.under. · The wa -/
import Derived.Test.YtfmmomdmemcbbaaGreatM3
import Derived.Test.YtfmmomdmemcbbaaGreatM1
import Derived.Test.YtfmmomdmemcbbaaGreatM2
set_option maxHeartbeats 2000000
set_option maxRecDepth 100000
namespace Go.Proofs.YtfmmomdmemcbbaaGreat
set_option linter.unusedVariables false
open Go.RowKit
theorem more_stay (q : Int) (w : World) :
    Calls Tryz.prog 132 #[.int .u64 q, .bool false] w fun e w' => e = .returned (.tuple #[.int .u64 q, .bool true]) ∧ w = w' := by
  go_enter Tryz.func132, Tryz.ntmps132
  go_wp2
  go_ret2
  exact ⟨rfl, rfl⟩
theorem more_up (q : Int) (h : 0 ≤ q ∧ q < 18446744073709551615) (w : World) :
    Calls Tryz.prog 132 #[.int .u64 q, .bool true] w fun e w' => e = .returned (.tuple #[.int .u64 (q + 1), .bool true]) ∧ w = w' := by
  have h1 : (q + 1 != 0) = true := by rw [bne_iff_ne]; omega
  go_enter Tryz.func132, Tryz.ntmps132
  go_wp2
  go_ret2
  exact ⟨rfl, rfl⟩
theorem more_over (w : World) :
    Calls Tryz.prog 132 #[.int .u64 18446744073709551615, .bool true] w fun e w' => e = .returned (.tuple #[.int .u64 0, .bool false]) ∧ w = w' := by
  go_enter Tryz.func132, Tryz.ntmps132
  go_wp2
  go_ret2
  exact ⟨rfl, rfl⟩
theorem signed_below (q : Int) (h : 0 ≤ q ∧ q ≤ 9223372036854775808) (w : World) :
    Calls Tryz.prog 133 #[.int .u64 q, .bool true] w fun e w' => e = .returned (.tuple #[.int .i64 (-q), .bool true]) ∧ w = w' := by
  go_enter Tryz.func133, Tryz.ntmps133
  go_wp2
  go_ret2
  exact ⟨ret_ib (by simp only [wrap64, IntKind.wrap_u64]; omega) rfl, rfl⟩
theorem signed_above (q : Int) (h : 0 ≤ q ∧ q < 9223372036854775808) (w : World) :
    Calls Tryz.prog 133 #[.int .u64 q, .bool false] w fun e w' => e = .returned (.tuple #[.int .i64 q, .bool true]) ∧ w = w' := by
  go_enter Tryz.func133, Tryz.ntmps133
  go_wp2
  go_ret2
  exact ⟨rfl, rfl⟩
theorem signed_no (q : Int) (s : Bool) (h : if s then 9223372036854775808 < q else 9223372036854775808 ≤ q) (w : World) :
    Calls Tryz.prog 133 #[.int .u64 q, .bool s] w fun e w' => e = .returned (.tuple #[.int .i64 0, .bool false]) ∧ w = w' := by
  cases s <;> simp only [if_true, Bool.false_eq_true, if_false] at h
  all_goals
    go_enter Tryz.func133, Tryz.ntmps133
    go_wp2
    go_ret2
    exact ⟨rfl, rfl⟩
theorem under_any (a b d : Int) (w : World) :
    Calls Tryz.prog 134 #[.int .i64 a, .int .i64 b, .int .i64 d] w fun e w' => e = .returned (.bool (Pl.sgn3 a b d)) ∧ w = w' := by
  cases sa : decide (a < 0) <;> cases sb : decide (b < 0) <;> cases sd : decide (d < 0)
  all_goals
    have K : Pl.sgn3 a b d = ((decide (a < 0) != decide (b < 0)) != decide (d < 0)) := rfl
    rw [sa, sb, sd] at K
    simp at K
    go_enter Tryz.func134, Tryz.ntmps134
    go_wp2
    go_ret
    exact ⟨ret_bool (by rw [K]), rfl⟩
end Go.Proofs.YtfmmomdmemcbbaaGreat
namespace Go.Proofs.YtfmmomdmemcbbaaGreat
set_option linter.unusedVariables false
open Go.RowKit
theorem muldiv_no0 (a b d : Int) (ha : Pl.i64 a) (hb : Pl.i64 b) (hd : Pl.i64 d) (h : Pl.mag d ≤ Pl.mag a * Pl.mag b / 18446744073709551616) (w : World) :
    Calls Tryz.prog 111 #[.int .i64 a, .int .i64 b, .int .i64 d] w fun e w' => e = .returned (.tuple #[.int .i64 0, .bool false]) ∧ Grown w w' := by
  go_enter Tryz.func111, Tryz.ntmps111
  go_wp2_with fail
  refine (parts_no a b d _ _ ha hb hd (Lib.hid rfl) (Lib.hid rfl) h _).mono ?_
  rintro e w1 ⟨rfl, g1⟩
  go_wp2
  go_ret2
  exact ⟨rfl, g1⟩
theorem muldiv_core (a b d P D n v : Int) (up s t : Bool) (ha : Pl.i64 a) (hb : Pl.i64 b) (hd : Pl.i64 d) (HP : Hid (Pl.mag a * Pl.mag b = P)) (HD : Hid (Pl.mag d = D)) (hP : 0 ≤ P) (hD : 0 < D) (hD' : D ≤ 9223372036854775808)
    (hlt : P / 18446744073709551616 < D) (hup : Hid (up = decide (D - P % D < P % D ∨ (P % D = D - P % D ∧ P / D % 2 = 1))))
    (hmore : ∀ w, Calls Tryz.prog 132 #[.int .u64 (P / D), .bool up] w fun e w' => e = .returned (.tuple #[.int .u64 n, .bool s]) ∧ w = w')
    (hsig : s = true → ∀ w, Calls Tryz.prog 133 #[.int .u64 n, .bool (Pl.sgn3 a b d)] w fun e w' => e = .returned (.tuple #[.int .i64 v, .bool t]) ∧ w = w')
    (hno : s = false → v = 0 ∧ t = false) (w : World) :
    Calls Tryz.prog 111 #[.int .i64 a, .int .i64 b, .int .i64 d] w fun e w' => e = .returned (.tuple #[.int .i64 v, .bool t]) ∧ Grown w w' := by
  have hr0 := Int.emod_nonneg P (show D ≠ 0 by omega)
  have hr1 := Int.emod_lt_of_pos P hD
  have hq0 : 0 ≤ P / D := Int.ediv_nonneg hP (by omega)
  have hq1 : P / D < 18446744073709551616 := (Int.ediv_lt_iff_lt_mul hD).2 (by omega)
  have HM := Lib.hid hmore; clear hmore
  have HS := Lib.hid hsig; clear hsig
  have HPC := fun w => parts_core a b d P D ha hb hd HP HD hlt w
  have HC := Lib.hid HPC; clear HPC
  generalize P / D = q at *
  generalize P % D = r at *
  clear hlt hP ha hb hd
  have hcase : (up = true ∧ D - r < r) ∨ (up = true ∧ ¬ D - r < r ∧ r = D - r ∧ q % 2 = 1) ∨ (up = false ∧ ¬ D - r < r ∧ r = D - r ∧ ¬ q % 2 = 1) ∨ (up = false ∧ ¬ D - r < r ∧ r ≠ D - r) := by
    have := hup.out
    by_cases c1 : D - r < r
    · simp [c1] at this; simp [this, c1]
    · by_cases c2 : r = D - r
      · by_cases c3 : q % 2 = 1
        · have e : up = true := by rw [this, decide_eq_true_eq]; exact .inr ⟨c2, c3⟩
          exact .inr (.inl ⟨e, c1, c2, c3⟩)
        · have e : up = false := by rw [this, decide_eq_false_iff_not]; rintro (h | h); exact c1 h; exact c3 h.2
          exact .inr (.inr (.inl ⟨e, c1, c2, c3⟩))
      · have e : up = false := by rw [this, decide_eq_false_iff_not]; rintro (h | h); exact c1 h; exact c2 h.1
        exact .inr (.inr (.inr ⟨e, c1, c2⟩))
  clear hup
  cases s
  · obtain ⟨rfl, rfl⟩ := hno rfl
    clear hno
    rcases hcase with ⟨rfl, c1⟩ | ⟨rfl, c1, c2, c3⟩ | ⟨rfl, c1, c2, c3⟩ | ⟨rfl, c1, c2⟩
    case' inl => have c1' : decide (D - r < r) = true := decide_eq_true c1
    case' inr.inl => have c1' : decide (D - r < r) = false := decide_eq_false c1; have c2' : (r == D - r) = true := beq_iff_eq.2 c2; have c3' : (q % 2 == 1) = true := beq_iff_eq.2 c3; clear c2 c3
    case' inr.inr.inl => have c1' : decide (D - r < r) = false := decide_eq_false c1; have c2' : (r == D - r) = true := beq_iff_eq.2 c2; have c3' : (q % 2 == 1) = false := beq_eq_false_iff_ne.2 c3; clear c2 c3
    case' inr.inr.inr => have c1' : decide (D - r < r) = false := decide_eq_false c1; have c2' : (r == D - r) = false := beq_eq_false_iff_ne.2 c2; clear c2
    all_goals
      go_enter Tryz.func111, Tryz.ntmps111
      go_wp2_with fail
      refine (HC.out _).mono ?_
      rintro e w1 ⟨rfl, g1⟩
      go_wp2_with fail
      refine (HM.out _).mono ?_
      rintro e w2 ⟨rfl, rfl⟩
      go_wp2
      go_ret2
      exact ⟨ret_ib rfl rfl, g1⟩
  · clear hno
    have HS' := Lib.hid (HS.out rfl); clear HS
    rcases hcase with ⟨rfl, c1⟩ | ⟨rfl, c1, c2, c3⟩ | ⟨rfl, c1, c2, c3⟩ | ⟨rfl, c1, c2⟩
    case' inl => have c1' : decide (D - r < r) = true := decide_eq_true c1
    case' inr.inl => have c1' : decide (D - r < r) = false := decide_eq_false c1; have c2' : (r == D - r) = true := beq_iff_eq.2 c2; have c3' : (q % 2 == 1) = true := beq_iff_eq.2 c3; clear c2 c3
    case' inr.inr.inl => have c1' : decide (D - r < r) = false := decide_eq_false c1; have c2' : (r == D - r) = true := beq_iff_eq.2 c2; have c3' : (q % 2 == 1) = false := beq_eq_false_iff_ne.2 c3; clear c2 c3
    case' inr.inr.inr => have c1' : decide (D - r < r) = false := decide_eq_false c1; have c2' : (r == D - r) = false := beq_eq_false_iff_ne.2 c2; clear c2
    all_goals
      go_enter Tryz.func111, Tryz.ntmps111
      go_wp2_with fail
      refine (HC.out _).mono ?_
      rintro e w1 ⟨rfl, g1⟩
      go_wp2_with fail
      refine (HM.out _).mono ?_
      rintro e w2 ⟨rfl, rfl⟩
      go_wp2_with fail
      refine (under_any _ _ _ _).mono ?_
      rintro e w2 ⟨rfl, rfl⟩
      go_wp2_with fail
      refine (HS'.out _).mono ?_
      rintro e w2 ⟨rfl, rfl⟩
      go_wp2
      go_ret2
      exact ⟨ret_ib rfl rfl, g1⟩
theorem muldiv_ok (a b d : Int) (ha : Pl.i64 a) (hb : Pl.i64 b) (hd : Pl.i64 d) (h0 : d ≠ 0) (h : Pl.i64 (Pl.share a b d)) (w : World) :
    Calls Tryz.prog 111 #[.int .i64 a, .int .i64 b, .int .i64 d] w fun e w' => e = .returned (.tuple #[.int .i64 (Pl.share a b d), .bool true]) ∧ Grown w w' := by
  have hlt := Pl.share_fits a b d ha hb hd h0 h
  have hD := Pl.mag_lt d h0
  have hD' := Pl.mag_le d hd.1 hd.2
  have hP : 0 ≤ Pl.mag a * Pl.mag b := Int.mul_nonneg (Pl.mag_nn a) (Pl.mag_nn b)
  have hq0 : 0 ≤ Pl.mag a * Pl.mag b / Pl.mag d := Int.ediv_nonneg hP (by omega)
  have hs : Pl.share a b d = if Pl.sgn3 a b d = true then -Pl.near (Pl.mag a * Pl.mag b) (Pl.mag d) else Pl.near (Pl.mag a * Pl.mag b) (Pl.mag d) := rfl
  have hb := Pl.near_bd _ _ hP hD
  unfold Pl.i64 at h
  refine muldiv_core a b d _ _ (Pl.near (Pl.mag a * Pl.mag b) (Pl.mag d)) _ (decide (Pl.mag d - Pl.mag a * Pl.mag b % Pl.mag d < Pl.mag a * Pl.mag b % Pl.mag d ∨ (Pl.mag a * Pl.mag b % Pl.mag d = Pl.mag d - Pl.mag a * Pl.mag b % Pl.mag d ∧ Pl.mag a * Pl.mag b / Pl.mag d % 2 = 1))) true true ha (by assumption) hd (Lib.hid rfl) (Lib.hid rfl) hP hD hD' hlt (Lib.hid rfl) ?_ ?_ (fun h => by cases h) w
  · intro w
    unfold Pl.near
    split
    · rename_i hc
      rw [decide_eq_true hc]
      refine more_up _ ⟨hq0, ?_⟩ w
      unfold Pl.near at hb
      rw [if_pos hc] at hb
      have : Pl.near (Pl.mag a * Pl.mag b) (Pl.mag d) = Pl.mag a * Pl.mag b / Pl.mag d + 1 := by unfold Pl.near; rw [if_pos hc]
      split at hs <;> omega
    · rename_i hc
      rw [decide_eq_false hc]
      exact more_stay _ w
  · intro _ w
    cases hg : Pl.sgn3 a b d
    · simp only [hg, Bool.false_eq_true, if_false] at hs
      rw [hs]
      exact signed_above _ (by omega) w
    · simp only [hg, if_true] at hs
      rw [hs]
      exact signed_below _ (by omega) w
theorem muldiv_no (a b d : Int) (ha : Pl.i64 a) (hb : Pl.i64 b) (hd : Pl.i64 d) (h : d = 0 ∨ ¬ Pl.i64 (Pl.share a b d)) (w : World) :
    Calls Tryz.prog 111 #[.int .i64 a, .int .i64 b, .int .i64 d] w fun e w' => e = .returned (.tuple #[.int .i64 0, .bool false]) ∧ Grown w w' := by
  have hP : 0 ≤ Pl.mag a * Pl.mag b := Int.mul_nonneg (Pl.mag_nn a) (Pl.mag_nn b)
  by_cases h0 : d = 0
  · subst h0
    exact muldiv_no0 a b 0 ha hb hd (by show (0 : Int) ≤ _; omega) w
  · by_cases hlt : Pl.mag a * Pl.mag b / 18446744073709551616 < Pl.mag d
    · have h := h.resolve_left h0
      have hD := Pl.mag_lt d h0
      have hD' := Pl.mag_le d hd.1 hd.2
      have hq0 : 0 ≤ Pl.mag a * Pl.mag b / Pl.mag d := Int.ediv_nonneg hP (by omega)
      have hq1 : Pl.mag a * Pl.mag b / Pl.mag d < 18446744073709551616 := (Int.ediv_lt_iff_lt_mul hD).2 (by omega)
      have hs : Pl.share a b d = if Pl.sgn3 a b d = true then -Pl.near (Pl.mag a * Pl.mag b) (Pl.mag d) else Pl.near (Pl.mag a * Pl.mag b) (Pl.mag d) := rfl
      have hnb := Pl.near_bd _ _ hP hD
      unfold Pl.i64 at h
      have hup : Hid (decide (Pl.mag d - Pl.mag a * Pl.mag b % Pl.mag d < Pl.mag a * Pl.mag b % Pl.mag d ∨ (Pl.mag a * Pl.mag b % Pl.mag d = Pl.mag d - Pl.mag a * Pl.mag b % Pl.mag d ∧ Pl.mag a * Pl.mag b / Pl.mag d % 2 = 1)) = decide (Pl.mag d - Pl.mag a * Pl.mag b % Pl.mag d < Pl.mag a * Pl.mag b % Pl.mag d ∨ (Pl.mag a * Pl.mag b % Pl.mag d = Pl.mag d - Pl.mag a * Pl.mag b % Pl.mag d ∧ Pl.mag a * Pl.mag b / Pl.mag d % 2 = 1))) := Lib.hid rfl
      by_cases hc : Pl.mag d - Pl.mag a * Pl.mag b % Pl.mag d < Pl.mag a * Pl.mag b % Pl.mag d ∨ (Pl.mag a * Pl.mag b % Pl.mag d = Pl.mag d - Pl.mag a * Pl.mag b % Pl.mag d ∧ Pl.mag a * Pl.mag b / Pl.mag d % 2 = 1)
      · have hn : Pl.near (Pl.mag a * Pl.mag b) (Pl.mag d) = Pl.mag a * Pl.mag b / Pl.mag d + 1 := by unfold Pl.near; rw [if_pos hc]
        by_cases hov : Pl.mag a * Pl.mag b / Pl.mag d = 18446744073709551615
        · refine muldiv_core a b d _ _ 0 _ _ false false ha hb hd (Lib.hid rfl) (Lib.hid rfl) hP hD hD' hlt hup ?_ (fun h => by cases h) (fun _ => ⟨rfl, rfl⟩) w
          intro w
          rw [decide_eq_true hc, hov]
          exact more_over w
        · refine muldiv_core a b d _ _ (Pl.mag a * Pl.mag b / Pl.mag d + 1) _ _ true false ha hb hd (Lib.hid rfl) (Lib.hid rfl) hP hD hD' hlt hup ?_ ?_ (fun h => by cases h) w
          · intro w
            rw [decide_eq_true hc]
            exact more_up _ ⟨hq0, by omega⟩ w
          · intro _ w
            refine signed_no _ _ ?_ w
            cases hg : Pl.sgn3 a b d <;> simp only [hg, Bool.false_eq_true, if_false, if_true] at hs ⊢ <;> omega
      · have hn : Pl.near (Pl.mag a * Pl.mag b) (Pl.mag d) = Pl.mag a * Pl.mag b / Pl.mag d := by unfold Pl.near; rw [if_neg hc]
        refine muldiv_core a b d _ _ (Pl.mag a * Pl.mag b / Pl.mag d) _ _ true false ha hb hd (Lib.hid rfl) (Lib.hid rfl) hP hD hD' hlt hup ?_ ?_ (fun h => by cases h) w
        · intro w
          rw [decide_eq_false hc]
          exact more_stay _ w
        · intro _ w
          refine signed_no _ _ ?_ w
          cases hg : Pl.sgn3 a b d <;> simp only [hg, Bool.false_eq_true, if_false, if_true] at hs ⊢ <;> omega
    · exact muldiv_no0 a b d ha hb hd (by omega) w
end Go.Proofs.YtfmmomdmemcbbaaGreat
namespace Go.Proofs.YtfmmomdmemcbbaaGreat
set_option linter.unusedVariables false
open Go.RowKit
theorem fmay_yes (a : Int) (h : Pl.fx a) (w : World) : Calls Tryz.prog 79 #[.int .i64 a] w fun e w' => e = .returned (.bool true) ∧ w = w' := by
  obtain ⟨h1, h2⟩ := h
  go_enter Tryz.func79, Tryz.ntmps79
  go_wp2
  go_ret
  exact ⟨ret_bool (by first | rfl | (rw [decide_eq_true_eq]; omega)), rfl⟩
theorem fmay_no (a : Int) (h : ¬ Pl.fx a) (w : World) : Calls Tryz.prog 79 #[.int .i64 a] w fun e w' => e = .returned (.bool false) ∧ w = w' := by
  have hc : a < -1073741823 ∨ (-1073741823 ≤ a ∧ 1073741823 < a) := by unfold Pl.fx at h; omega
  clear h
  rcases hc with h1 | ⟨h1, h2⟩
  all_goals
    go_enter Tryz.func79, Tryz.ntmps79
    go_wp2
    go_ret
    exact ⟨ret_bool (by first | rfl | (rw [decide_eq_false_iff_not]; omega)), rfl⟩
theorem told_no (a b : Int) (f : Value) (h : ¬ (Pl.fx a ∧ Pl.fx b)) (w : World) :
    Calls Tryz.prog 107 #[.int .i64 a, .int .i64 b, f] w fun e w' => e = .returned (.tuple #[.int .i64 0, .bool false]) ∧ Grown w w' := by
  by_cases ha : Pl.fx a
  · have hb : ¬ Pl.fx b := fun hb => h ⟨ha, hb⟩
    go_enter Tryz.func107, Tryz.ntmps107
    go_wp2_with fail
    refine (fmay_yes a ha _).mono ?_
    rintro e w1 ⟨rfl, rfl⟩
    go_wp2_with fail
    refine (fmay_no b hb _).mono ?_
    rintro e w1 ⟨rfl, rfl⟩
    go_wp2_with fail
    go_ret2
    exact ⟨rfl, Grown.refl _⟩
  · go_enter Tryz.func107, Tryz.ntmps107
    go_wp2_with fail
    refine (fmay_no a ha _).mono ?_
    rintro e w1 ⟨rfl, rfl⟩
    go_wp2_with fail
    go_ret2
    exact ⟨rfl, Grown.refl _⟩
theorem told_yes_add (a b c : Int) (ha : Pl.fx a) (hb : Pl.fx b) (hc : Pl.fx c)
    (hF : ∀ w, Calls Tryz.prog 108 #[.int .i64 a, .int .i64 b] w fun e w' => e = .returned (.tuple #[.int .i64 c, .bool true]) ∧ Grown w w') (w : World) :
    Calls Tryz.prog 107 #[.int .i64 a, .int .i64 b, .func (.func 108) #[] #[]] w fun e w' => e = .returned (.tuple #[.int .i64 c, .bool true]) ∧ Grown w w' := by
  have HF := Lib.hid hF; clear hF
  go_enter Tryz.func107, Tryz.ntmps107
  go_wp2_with fail
  refine (fmay_yes a ha _).mono ?_
  rintro e w1 ⟨rfl, rfl⟩
  go_wp2_with fail
  refine (fmay_yes b hb _).mono ?_
  rintro e w1 ⟨rfl, rfl⟩
  go_wp2_with fail
  refine (HF.out _).mono ?_
  rintro e w2 ⟨rfl, g2⟩
  go_wp2_with fail
  refine (fmay_yes c hc _).mono ?_
  rintro e w1 ⟨rfl, rfl⟩
  go_wp2_with fail
  go_ret2
  exact ⟨rfl, g2⟩
theorem told_fail_add (a b c : Int) (ok : Bool) (ha : Pl.fx a) (hb : Pl.fx b) (hc : ok = true → ¬ Pl.fx c)
    (hF : ∀ w, Calls Tryz.prog 108 #[.int .i64 a, .int .i64 b] w fun e w' => e = .returned (.tuple #[.int .i64 c, .bool ok]) ∧ Grown w w') (w : World) :
    Calls Tryz.prog 107 #[.int .i64 a, .int .i64 b, .func (.func 108) #[] #[]] w fun e w' => e = .returned (.tuple #[.int .i64 0, .bool false]) ∧ Grown w w' := by
  have HF := Lib.hid hF; clear hF
  cases ok
  · clear hc
    go_enter Tryz.func107, Tryz.ntmps107
    go_wp2_with fail
    refine (fmay_yes a ha _).mono ?_
    rintro e w1 ⟨rfl, rfl⟩
    go_wp2_with fail
    refine (fmay_yes b hb _).mono ?_
    rintro e w1 ⟨rfl, rfl⟩
    go_wp2_with fail
    refine (HF.out _).mono ?_
    rintro e w2 ⟨rfl, g2⟩
    go_wp2_with fail
    go_ret2
    exact ⟨rfl, g2⟩
  · have hn := hc rfl
    clear hc
    go_enter Tryz.func107, Tryz.ntmps107
    go_wp2_with fail
    refine (fmay_yes a ha _).mono ?_
    rintro e w1 ⟨rfl, rfl⟩
    go_wp2_with fail
    refine (fmay_yes b hb _).mono ?_
    rintro e w1 ⟨rfl, rfl⟩
    go_wp2_with fail
    refine (HF.out _).mono ?_
    rintro e w2 ⟨rfl, g2⟩
    go_wp2_with fail
    refine (fmay_no c hn _).mono ?_
    rintro e w1 ⟨rfl, rfl⟩
    go_wp2_with fail
    go_ret2
    exact ⟨rfl, g2⟩
theorem told_yes_sub (a b c : Int) (ha : Pl.fx a) (hb : Pl.fx b) (hc : Pl.fx c)
    (hF : ∀ w, Calls Tryz.prog 109 #[.int .i64 a, .int .i64 b] w fun e w' => e = .returned (.tuple #[.int .i64 c, .bool true]) ∧ Grown w w') (w : World) :
    Calls Tryz.prog 107 #[.int .i64 a, .int .i64 b, .func (.func 109) #[] #[]] w fun e w' => e = .returned (.tuple #[.int .i64 c, .bool true]) ∧ Grown w w' := by
  have HF := Lib.hid hF; clear hF
  go_enter Tryz.func107, Tryz.ntmps107
  go_wp2_with fail
  refine (fmay_yes a ha _).mono ?_
  rintro e w1 ⟨rfl, rfl⟩
  go_wp2_with fail
  refine (fmay_yes b hb _).mono ?_
  rintro e w1 ⟨rfl, rfl⟩
  go_wp2_with fail
  refine (HF.out _).mono ?_
  rintro e w2 ⟨rfl, g2⟩
  go_wp2_with fail
  refine (fmay_yes c hc _).mono ?_
  rintro e w1 ⟨rfl, rfl⟩
  go_wp2_with fail
  go_ret2
  exact ⟨rfl, g2⟩
theorem told_fail_sub (a b c : Int) (ok : Bool) (ha : Pl.fx a) (hb : Pl.fx b) (hc : ok = true → ¬ Pl.fx c)
    (hF : ∀ w, Calls Tryz.prog 109 #[.int .i64 a, .int .i64 b] w fun e w' => e = .returned (.tuple #[.int .i64 c, .bool ok]) ∧ Grown w w') (w : World) :
    Calls Tryz.prog 107 #[.int .i64 a, .int .i64 b, .func (.func 109) #[] #[]] w fun e w' => e = .returned (.tuple #[.int .i64 0, .bool false]) ∧ Grown w w' := by
  have HF := Lib.hid hF; clear hF
  cases ok
  · clear hc
    go_enter Tryz.func107, Tryz.ntmps107
    go_wp2_with fail
    refine (fmay_yes a ha _).mono ?_
    rintro e w1 ⟨rfl, rfl⟩
    go_wp2_with fail
    refine (fmay_yes b hb _).mono ?_
    rintro e w1 ⟨rfl, rfl⟩
    go_wp2_with fail
    refine (HF.out _).mono ?_
    rintro e w2 ⟨rfl, g2⟩
    go_wp2_with fail
    go_ret2
    exact ⟨rfl, g2⟩
  · have hn := hc rfl
    clear hc
    go_enter Tryz.func107, Tryz.ntmps107
    go_wp2_with fail
    refine (fmay_yes a ha _).mono ?_
    rintro e w1 ⟨rfl, rfl⟩
    go_wp2_with fail
    refine (fmay_yes b hb _).mono ?_
    rintro e w1 ⟨rfl, rfl⟩
    go_wp2_with fail
    refine (HF.out _).mono ?_
    rintro e w2 ⟨rfl, g2⟩
    go_wp2_with fail
    refine (fmay_no c hn _).mono ?_
    rintro e w1 ⟨rfl, rfl⟩
    go_wp2_with fail
    go_ret2
    exact ⟨rfl, g2⟩
theorem told_yes_mul (a b c : Int) (ha : Pl.fx a) (hb : Pl.fx b) (hc : Pl.fx c)
    (hF : ∀ w, Calls Tryz.prog 110 #[.int .i64 a, .int .i64 b] w fun e w' => e = .returned (.tuple #[.int .i64 c, .bool true]) ∧ Grown w w') (w : World) :
    Calls Tryz.prog 107 #[.int .i64 a, .int .i64 b, .func (.func 110) #[] #[]] w fun e w' => e = .returned (.tuple #[.int .i64 c, .bool true]) ∧ Grown w w' := by
  have HF := Lib.hid hF; clear hF
  go_enter Tryz.func107, Tryz.ntmps107
  go_wp2_with fail
  refine (fmay_yes a ha _).mono ?_
  rintro e w1 ⟨rfl, rfl⟩
  go_wp2_with fail
  refine (fmay_yes b hb _).mono ?_
  rintro e w1 ⟨rfl, rfl⟩
  go_wp2_with fail
  refine (HF.out _).mono ?_
  rintro e w2 ⟨rfl, g2⟩
  go_wp2_with fail
  refine (fmay_yes c hc _).mono ?_
  rintro e w1 ⟨rfl, rfl⟩
  go_wp2_with fail
  go_ret2
  exact ⟨rfl, g2⟩
theorem told_fail_mul (a b c : Int) (ok : Bool) (ha : Pl.fx a) (hb : Pl.fx b) (hc : ok = true → ¬ Pl.fx c)
    (hF : ∀ w, Calls Tryz.prog 110 #[.int .i64 a, .int .i64 b] w fun e w' => e = .returned (.tuple #[.int .i64 c, .bool ok]) ∧ Grown w w') (w : World) :
    Calls Tryz.prog 107 #[.int .i64 a, .int .i64 b, .func (.func 110) #[] #[]] w fun e w' => e = .returned (.tuple #[.int .i64 0, .bool false]) ∧ Grown w w' := by
  have HF := Lib.hid hF; clear hF
  cases ok
  · clear hc
    go_enter Tryz.func107, Tryz.ntmps107
    go_wp2_with fail
    refine (fmay_yes a ha _).mono ?_
    rintro e w1 ⟨rfl, rfl⟩
    go_wp2_with fail
    refine (fmay_yes b hb _).mono ?_
    rintro e w1 ⟨rfl, rfl⟩
    go_wp2_with fail
    refine (HF.out _).mono ?_
    rintro e w2 ⟨rfl, g2⟩
    go_wp2_with fail
    go_ret2
    exact ⟨rfl, g2⟩
  · have hn := hc rfl
    clear hc
    go_enter Tryz.func107, Tryz.ntmps107
    go_wp2_with fail
    refine (fmay_yes a ha _).mono ?_
    rintro e w1 ⟨rfl, rfl⟩
    go_wp2_with fail
    refine (fmay_yes b hb _).mono ?_
    rintro e w1 ⟨rfl, rfl⟩
    go_wp2_with fail
    refine (HF.out _).mono ?_
    rintro e w2 ⟨rfl, g2⟩
    go_wp2_with fail
    refine (fmay_no c hn _).mono ?_
    rintro e w1 ⟨rfl, rfl⟩
    go_wp2_with fail
    go_ret2
    exact ⟨rfl, g2⟩
theorem told_yes_div (a b c : Int) (ha : Pl.fx a) (hb : Pl.fx b) (hc : Pl.fx c)
    (hF : ∀ w, Calls Tryz.prog 112 #[.int .i64 a, .int .i64 b] w fun e w' => e = .returned (.tuple #[.int .i64 c, .bool true]) ∧ Grown w w') (w : World) :
    Calls Tryz.prog 107 #[.int .i64 a, .int .i64 b, .func (.func 112) #[] #[]] w fun e w' => e = .returned (.tuple #[.int .i64 c, .bool true]) ∧ Grown w w' := by
  have HF := Lib.hid hF; clear hF
  go_enter Tryz.func107, Tryz.ntmps107
  go_wp2_with fail
  refine (fmay_yes a ha _).mono ?_
  rintro e w1 ⟨rfl, rfl⟩
  go_wp2_with fail
  refine (fmay_yes b hb _).mono ?_
  rintro e w1 ⟨rfl, rfl⟩
  go_wp2_with fail
  refine (HF.out _).mono ?_
  rintro e w2 ⟨rfl, g2⟩
  go_wp2_with fail
  refine (fmay_yes c hc _).mono ?_
  rintro e w1 ⟨rfl, rfl⟩
  go_wp2_with fail
  go_ret2
  exact ⟨rfl, g2⟩
theorem told_fail_div (a b c : Int) (ok : Bool) (ha : Pl.fx a) (hb : Pl.fx b) (hc : ok = true → ¬ Pl.fx c)
    (hF : ∀ w, Calls Tryz.prog 112 #[.int .i64 a, .int .i64 b] w fun e w' => e = .returned (.tuple #[.int .i64 c, .bool ok]) ∧ Grown w w') (w : World) :
    Calls Tryz.prog 107 #[.int .i64 a, .int .i64 b, .func (.func 112) #[] #[]] w fun e w' => e = .returned (.tuple #[.int .i64 0, .bool false]) ∧ Grown w w' := by
  have HF := Lib.hid hF; clear hF
  cases ok
  · clear hc
    go_enter Tryz.func107, Tryz.ntmps107
    go_wp2_with fail
    refine (fmay_yes a ha _).mono ?_
    rintro e w1 ⟨rfl, rfl⟩
    go_wp2_with fail
    refine (fmay_yes b hb _).mono ?_
    rintro e w1 ⟨rfl, rfl⟩
    go_wp2_with fail
    refine (HF.out _).mono ?_
    rintro e w2 ⟨rfl, g2⟩
    go_wp2_with fail
    go_ret2
    exact ⟨rfl, g2⟩
  · have hn := hc rfl
    clear hc
    go_enter Tryz.func107, Tryz.ntmps107
    go_wp2_with fail
    refine (fmay_yes a ha _).mono ?_
    rintro e w1 ⟨rfl, rfl⟩
    go_wp2_with fail
    refine (fmay_yes b hb _).mono ?_
    rintro e w1 ⟨rfl, rfl⟩
    go_wp2_with fail
    refine (HF.out _).mono ?_
    rintro e w2 ⟨rfl, g2⟩
    go_wp2_with fail
    refine (fmay_no c hn _).mono ?_
    rintro e w1 ⟨rfl, rfl⟩
    go_wp2_with fail
    go_ret2
    exact ⟨rfl, g2⟩
theorem add1_any (a b : Int) (ha : Pl.fx a) (hb : Pl.fx b) (w : World) :
    Calls Tryz.prog 108 #[.int .i64 a, .int .i64 b] w fun e w' => e = .returned (.tuple #[.int .i64 (a + b), .bool true]) ∧ Grown w w' := by
  obtain ⟨h1, h2⟩ := ha
  obtain ⟨h3, h4⟩ := hb
  go_enter Tryz.func108, Tryz.ntmps108
  go_wp2
  go_ret2
  exact ⟨rfl, Grown.refl _⟩
theorem sub1_any (a b : Int) (ha : Pl.fx a) (hb : Pl.fx b) (w : World) :
    Calls Tryz.prog 109 #[.int .i64 a, .int .i64 b] w fun e w' => e = .returned (.tuple #[.int .i64 (a - b), .bool true]) ∧ Grown w w' := by
  obtain ⟨h1, h2⟩ := ha
  obtain ⟨h3, h4⟩ := hb
  go_enter Tryz.func109, Tryz.ntmps109
  go_wp2
  go_ret2
  exact ⟨rfl, Grown.refl _⟩
theorem mul1_any (a b c : Int) (ok : Bool) (h : ∀ w, Calls Tryz.prog 111 #[.int .i64 a, .int .i64 b, .int .i64 65536] w fun e w' => e = .returned (.tuple #[.int .i64 c, .bool ok]) ∧ Grown w w') (w : World) :
    Calls Tryz.prog 110 #[.int .i64 a, .int .i64 b] w fun e w' => e = .returned (.tuple #[.int .i64 c, .bool ok]) ∧ Grown w w' := by
  have H := Lib.hid h; clear h
  go_enter Tryz.func110, Tryz.ntmps110
  go_wp2_with fail
  refine (H.out _).mono ?_
  rintro e w1 ⟨rfl, g1⟩
  go_wp2
  go_ret2
  exact ⟨rfl, g1⟩
theorem div1_any (a b c : Int) (ok : Bool) (h : ∀ w, Calls Tryz.prog 111 #[.int .i64 a, .int .i64 65536, .int .i64 b] w fun e w' => e = .returned (.tuple #[.int .i64 c, .bool ok]) ∧ Grown w w') (w : World) :
    Calls Tryz.prog 112 #[.int .i64 a, .int .i64 b] w fun e w' => e = .returned (.tuple #[.int .i64 c, .bool ok]) ∧ Grown w w' := by
  have H := Lib.hid h; clear h
  go_enter Tryz.func112, Tryz.ntmps112
  go_wp2_with fail
  refine (H.out _).mono ?_
  rintro e w1 ⟨rfl, g1⟩
  go_wp2
  go_ret2
  exact ⟨rfl, g1⟩
theorem fadd_by (a b c : Int) (ok : Bool) (h : ∀ w, Calls Tryz.prog 107 #[.int .i64 a, .int .i64 b, .func (.func 108) #[] #[]] w fun e w' => e = .returned (.tuple #[.int .i64 c, .bool ok]) ∧ Grown w w') (w : World) :
    Calls Tryz.prog 71 #[.int .i64 a, .int .i64 b] w fun e w' => e = .returned (.tuple #[.int .i64 c, .bool ok]) ∧ Grown w w' := by
  have H := Lib.hid h; clear h
  go_enter Tryz.func71, Tryz.ntmps71
  go_wp2_with fail
  refine (H.out _).mono ?_
  rintro e w1 ⟨rfl, g1⟩
  go_wp2
  go_ret2
  exact ⟨rfl, g1⟩
theorem fsub_by (a b c : Int) (ok : Bool) (h : ∀ w, Calls Tryz.prog 107 #[.int .i64 a, .int .i64 b, .func (.func 109) #[] #[]] w fun e w' => e = .returned (.tuple #[.int .i64 c, .bool ok]) ∧ Grown w w') (w : World) :
    Calls Tryz.prog 72 #[.int .i64 a, .int .i64 b] w fun e w' => e = .returned (.tuple #[.int .i64 c, .bool ok]) ∧ Grown w w' := by
  have H := Lib.hid h; clear h
  go_enter Tryz.func72, Tryz.ntmps72
  go_wp2_with fail
  refine (H.out _).mono ?_
  rintro e w1 ⟨rfl, g1⟩
  go_wp2
  go_ret2
  exact ⟨rfl, g1⟩
theorem fmul_by (a b c : Int) (ok : Bool) (h : ∀ w, Calls Tryz.prog 107 #[.int .i64 a, .int .i64 b, .func (.func 110) #[] #[]] w fun e w' => e = .returned (.tuple #[.int .i64 c, .bool ok]) ∧ Grown w w') (w : World) :
    Calls Tryz.prog 73 #[.int .i64 a, .int .i64 b] w fun e w' => e = .returned (.tuple #[.int .i64 c, .bool ok]) ∧ Grown w w' := by
  have H := Lib.hid h; clear h
  go_enter Tryz.func73, Tryz.ntmps73
  go_wp2_with fail
  refine (H.out _).mono ?_
  rintro e w1 ⟨rfl, g1⟩
  go_wp2
  go_ret2
  exact ⟨rfl, g1⟩
theorem fdiv_by (a b c : Int) (ok : Bool) (h : ∀ w, Calls Tryz.prog 107 #[.int .i64 a, .int .i64 b, .func (.func 112) #[] #[]] w fun e w' => e = .returned (.tuple #[.int .i64 c, .bool ok]) ∧ Grown w w') (w : World) :
    Calls Tryz.prog 74 #[.int .i64 a, .int .i64 b] w fun e w' => e = .returned (.tuple #[.int .i64 c, .bool ok]) ∧ Grown w w' := by
  have H := Lib.hid h; clear h
  go_enter Tryz.func74, Tryz.ntmps74
  go_wp2_with fail
  refine (H.out _).mono ?_
  rintro e w1 ⟨rfl, g1⟩
  go_wp2
  go_ret2
  exact ⟨rfl, g1⟩
theorem fadd_ok (a b : Int) (ha : Pl.fx a) (hb : Pl.fx b) (hc : Pl.fx (a + b)) (w : World) :
    Calls Tryz.prog 71 #[.int .i64 a, .int .i64 b] w fun e w' => e = .returned (.tuple #[.int .i64 (a + b), .bool true]) ∧ Grown w w' :=
  fadd_by a b _ true (told_yes_add a b _ ha hb hc (add1_any a b ha hb)) w
theorem fadd_no (a b : Int) (h : ¬ (Pl.fx a ∧ Pl.fx b ∧ Pl.fx (a + b))) (w : World) :
    Calls Tryz.prog 71 #[.int .i64 a, .int .i64 b] w fun e w' => e = .returned (.tuple #[.int .i64 0, .bool false]) ∧ Grown w w' := by
  by_cases hab : Pl.fx a ∧ Pl.fx b
  · exact fadd_by a b 0 false (told_fail_add a b _ true hab.1 hab.2 (fun _ hc => h ⟨hab.1, hab.2, hc⟩) (add1_any a b hab.1 hab.2)) w
  · exact fadd_by a b 0 false (told_no a b _ hab) w
theorem fsub_ok (a b : Int) (ha : Pl.fx a) (hb : Pl.fx b) (hc : Pl.fx (a - b)) (w : World) :
    Calls Tryz.prog 72 #[.int .i64 a, .int .i64 b] w fun e w' => e = .returned (.tuple #[.int .i64 (a - b), .bool true]) ∧ Grown w w' :=
  fsub_by a b _ true (told_yes_sub a b _ ha hb hc (sub1_any a b ha hb)) w
theorem fsub_no (a b : Int) (h : ¬ (Pl.fx a ∧ Pl.fx b ∧ Pl.fx (a - b))) (w : World) :
    Calls Tryz.prog 72 #[.int .i64 a, .int .i64 b] w fun e w' => e = .returned (.tuple #[.int .i64 0, .bool false]) ∧ Grown w w' := by
  by_cases hab : Pl.fx a ∧ Pl.fx b
  · exact fsub_by a b 0 false (told_fail_sub a b _ true hab.1 hab.2 (fun _ hc => h ⟨hab.1, hab.2, hc⟩) (sub1_any a b hab.1 hab.2)) w
  · exact fsub_by a b 0 false (told_no a b _ hab) w
theorem fx_i64 {a : Int} (h : Pl.fx a) : Pl.i64 a := by unfold Pl.fx at h; unfold Pl.i64; omega
theorem fmul_ok (a b : Int) (ha : Pl.fx a) (hb : Pl.fx b) (hc : Pl.fx (Pl.share a b 65536)) (w : World) :
    Calls Tryz.prog 73 #[.int .i64 a, .int .i64 b] w fun e w' => e = .returned (.tuple #[.int .i64 (Pl.share a b 65536), .bool true]) ∧ Grown w w' :=
  fmul_by a b _ true (told_yes_mul a b _ ha hb hc (mul1_any a b _ true (muldiv_ok a b 65536 (fx_i64 ha) (fx_i64 hb) (by decide) (by decide) (fx_i64 hc)))) w
theorem fmul_no (a b : Int) (h : ¬ (Pl.fx a ∧ Pl.fx b ∧ Pl.fx (Pl.share a b 65536))) (w : World) :
    Calls Tryz.prog 73 #[.int .i64 a, .int .i64 b] w fun e w' => e = .returned (.tuple #[.int .i64 0, .bool false]) ∧ Grown w w' := by
  by_cases hab : Pl.fx a ∧ Pl.fx b
  · by_cases hi : Pl.i64 (Pl.share a b 65536)
    · exact fmul_by a b 0 false (told_fail_mul a b _ true hab.1 hab.2 (fun _ hc => h ⟨hab.1, hab.2, hc⟩) (mul1_any a b _ true (muldiv_ok a b 65536 (fx_i64 hab.1) (fx_i64 hab.2) (by decide) (by decide) hi))) w
    · exact fmul_by a b 0 false (told_fail_mul a b _ false hab.1 hab.2 (fun h => by cases h) (mul1_any a b _ false (muldiv_no a b 65536 (fx_i64 hab.1) (fx_i64 hab.2) (by decide) (.inr hi)))) w
  · exact fmul_by a b 0 false (told_no a b _ hab) w
theorem fdiv_ok (a b : Int) (ha : Pl.fx a) (hb : Pl.fx b) (h0 : b ≠ 0) (hc : Pl.fx (Pl.share a 65536 b)) (w : World) :
    Calls Tryz.prog 74 #[.int .i64 a, .int .i64 b] w fun e w' => e = .returned (.tuple #[.int .i64 (Pl.share a 65536 b), .bool true]) ∧ Grown w w' :=
  fdiv_by a b _ true (told_yes_div a b _ ha hb hc (div1_any a b _ true (muldiv_ok a 65536 b (fx_i64 ha) (by decide) (fx_i64 hb) h0 (fx_i64 hc)))) w
theorem fdiv_no (a b : Int) (h : ¬ (Pl.fx a ∧ Pl.fx b ∧ b ≠ 0 ∧ Pl.fx (Pl.share a 65536 b))) (w : World) :
    Calls Tryz.prog 74 #[.int .i64 a, .int .i64 b] w fun e w' => e = .returned (.tuple #[.int .i64 0, .bool false]) ∧ Grown w w' := by
  by_cases hab : Pl.fx a ∧ Pl.fx b
  · by_cases hi : b ≠ 0 ∧ Pl.i64 (Pl.share a 65536 b)
    · exact fdiv_by a b 0 false (told_fail_div a b _ true hab.1 hab.2 (fun _ hc => h ⟨hab.1, hab.2, hi.1, hc⟩) (div1_any a b _ true (muldiv_ok a 65536 b (fx_i64 hab.1) (by decide) (fx_i64 hab.2) hi.1 hi.2))) w
    · refine fdiv_by a b 0 false (told_fail_div a b _ false hab.1 hab.2 (fun h => by cases h) (div1_any a b _ false (muldiv_no a 65536 b (fx_i64 hab.1) (by decide) (fx_i64 hab.2) ?_))) w
      by_cases h0 : b = 0
      · exact .inl h0
      · exact .inr (fun h => hi ⟨h0, h⟩)
  · exact fdiv_by a b 0 false (told_no a b _ hab) w
end Go.Proofs.YtfmmomdmemcbbaaGreat
namespace Go.Proofs.YtfmmomdmemcbbaaGreat.Pl
set_option linter.unusedVariables false
open Go
theorem and_65536_i64 (x : Int) : bits .and .i64 x 65536 = x / 65536 % 2 * 65536 := by
  have h1 := toNat_ofInt64 x
  show IntKind.i64.wrap ((BitVec.ofInt 64 x &&& BitVec.ofInt 64 65536).toNat : Int) = _
  have e : (BitVec.ofInt 64 65536).toNat = 2 ^ 16 := by decide
  rw [BitVec.toNat_and, e]
  have h2 := nat_bit 16 (BitVec.ofInt 64 x).toNat
  rw [h2, IntKind.wrap_i64]
  have h3 : (2 : Nat) ^ 16 = 65536 := by decide
  rw [h3]
  generalize (BitVec.ofInt 64 x).toNat = N at *
  have : ((N / 65536 % 2 * 65536 : Nat) : Int) = (N : Int) / 65536 % 2 * 65536 := by omega
  rw [this, h1]
  omega
attribute [go_sem] and_65536_i64
end Go.Proofs.YtfmmomdmemcbbaaGreat.Pl
namespace Go.Proofs.YtfmmomdmemcbbaaGreat
set_option linter.unusedVariables false
open Go.RowKit
theorem ffrom_ok (v : Int) (h : -16383 ≤ v ∧ v ≤ 16383) (w : World) :
    Calls Tryz.prog 78 #[.int .i64 v] w fun e w' => e = .returned (.tuple #[.int .i64 (v * 65536), .bool true]) ∧ w = w' := by
  go_enter Tryz.func78, Tryz.ntmps78
  go_wp2
  go_ret2
  exact ⟨rfl, rfl⟩
theorem ffrom_no (v : Int) (h : ¬ (-16383 ≤ v ∧ v ≤ 16383)) (w : World) :
    Calls Tryz.prog 78 #[.int .i64 v] w fun e w' => e = .returned (.tuple #[.int .i64 0, .bool false]) ∧ w = w' := by
  have hc : v < -16383 ∨ (-16383 ≤ v ∧ 16383 < v) := by omega
  clear h
  rcases hc with h1 | ⟨h1, h2⟩
  all_goals
    go_enter Tryz.func78, Tryz.ntmps78
    go_wp2
    go_ret2
    exact ⟨rfl, rfl⟩
theorem fnear_any (a : Int) (w : World) : Calls Tryz.prog 76 #[.int .i64 a] w fun e w' => e = .returned (.int .i64 (Pl.clamp a)) ∧ w = w' := by
  have hc : (a < -1073741823 ∧ Hid (Pl.clamp a = -1073741823)) ∨ (1073741823 < a ∧ Hid (Pl.clamp a = 1073741823)) ∨ (-1073741823 ≤ a ∧ a ≤ 1073741823 ∧ Hid (Pl.clamp a = a)) := by
    by_cases h1 : a < -1073741823
    · exact .inl ⟨h1, Lib.hid (by unfold Pl.clamp; rw [if_pos h1])⟩
    · by_cases h2 : 1073741823 < a
      · exact .inr (.inl ⟨h2, Lib.hid (by unfold Pl.clamp; rw [if_neg h1, if_pos h2])⟩)
      · exact .inr (.inr ⟨by omega, by omega, Lib.hid (by unfold Pl.clamp; rw [if_neg h1, if_neg h2])⟩)
  rcases hc with ⟨h1, h2⟩ | ⟨h1, h2⟩ | ⟨h1, h3, h2⟩
  all_goals
    go_enter Tryz.func76, Tryz.ntmps76
    go_wp2
    go_ret
    exact ⟨ret_int (by rw [h2.out]; try omega), rfl⟩
theorem ffloor_any (a : Int) (w : World) : Calls Tryz.prog 47 #[.int .i64 a] w fun e w' => e = .returned (.int .i64 (Pl.ffloor a)) ∧ w = w' := by
  have hb := Pl.clamp_bd a
  go_enter Tryz.func47, Tryz.ntmps47
  go_wp2_with fail
  refine (fnear_any a _).mono ?_
  rintro e w1 ⟨rfl, rfl⟩
  go_wp2
  go_ret
  exact ⟨rfl, rfl⟩
theorem fceil_any (a : Int) (w : World) : Calls Tryz.prog 46 #[.int .i64 a] w fun e w' => e = .returned (.int .i64 (Pl.fceil a)) ∧ w = w' := by
  have hb := Pl.clamp_bd a
  go_enter Tryz.func46, Tryz.ntmps46
  go_wp2_with fail
  refine (fnear_any a _).mono ?_
  rintro e w1 ⟨rfl, rfl⟩
  go_wp2
  go_ret
  exact ⟨rfl, rfl⟩
theorem ftrunc_any (a : Int) (w : World) : Calls Tryz.prog 49 #[.int .i64 a] w fun e w' => e = .returned (.int .i64 (Pl.ftrunc a)) ∧ w = w' := by
  by_cases h : a < 0
  · have ht := Lib.hid (show Pl.ftrunc a = Pl.fceil a by unfold Pl.ftrunc; rw [if_pos h])
    go_enter Tryz.func49, Tryz.ntmps49
    go_wp2_with fail
    refine (fceil_any a _).mono ?_
    rintro e w1 ⟨rfl, rfl⟩
    go_wp2
    go_ret
    exact ⟨ret_int ht.out.symm, rfl⟩
  · have ht := Lib.hid (show Pl.ftrunc a = Pl.ffloor a by unfold Pl.ftrunc; rw [if_neg h])
    go_enter Tryz.func49, Tryz.ntmps49
    go_wp2_with fail
    refine (ffloor_any a _).mono ?_
    rintro e w1 ⟨rfl, rfl⟩
    go_wp2
    go_ret
    exact ⟨ret_int ht.out.symm, rfl⟩
theorem fround_any (a : Int) (w : World) : Calls Tryz.prog 48 #[.int .i64 a] w fun e w' => e = .returned (.int .i64 (Pl.fround a)) ∧ w = w' := by
  have hb := Pl.clamp_bd a
  have he : Pl.ffloor a = Pl.clamp a / 65536 * 65536 := rfl
  have hw : Pl.fwhole a = Pl.clamp a / 65536 := rfl
  have hr : Pl.fround a = if 32768 < Pl.clamp a - Pl.ffloor a ∨ (Pl.clamp a - Pl.ffloor a = 32768 ∧ Pl.fwhole a % 2 = 1) then Pl.ffloor a + 65536 else Pl.ffloor a := rfl
  have hlow : Pl.ffloor a / 65536 % 2 = Pl.fwhole a % 2 := by rw [he, hw]; omega
  have hfb : -1073741824 ≤ Pl.ffloor a ∧ Pl.ffloor a ≤ 1073741823 := by omega
  have hrb : 0 ≤ Pl.clamp a - Pl.ffloor a ∧ Pl.clamp a - Pl.ffloor a ≤ 65535 := by omega
  clear he hw
  have hcase : (32768 < Pl.clamp a - Pl.ffloor a ∧ Hid (Pl.fround a = Pl.ffloor a + 65536)) ∨
      (Pl.clamp a - Pl.ffloor a ≤ 32768 ∧ (Pl.clamp a - Pl.ffloor a == 32768) = true ∧ (Pl.ffloor a / 65536 % 2 * 65536 != 0) = true ∧ Hid (Pl.fround a = Pl.ffloor a + 65536)) ∨
      (Pl.clamp a - Pl.ffloor a ≤ 32768 ∧ (Pl.clamp a - Pl.ffloor a == 32768) = true ∧ (Pl.ffloor a / 65536 % 2 * 65536 != 0) = false ∧ Hid (Pl.fround a = Pl.ffloor a)) ∨
      (Pl.clamp a - Pl.ffloor a ≤ 32768 ∧ (Pl.clamp a - Pl.ffloor a == 32768) = false ∧ Hid (Pl.fround a = Pl.ffloor a)) := by
    by_cases c1 : 32768 < Pl.clamp a - Pl.ffloor a
    · exact .inl ⟨c1, Lib.hid (by rw [hr, if_pos (.inl c1)])⟩
    · by_cases c2 : Pl.clamp a - Pl.ffloor a = 32768
      · by_cases c3 : Pl.fwhole a % 2 = 1
        · exact .inr (.inl ⟨by omega, beq_iff_eq.2 c2, by rw [bne_iff_ne]; omega, Lib.hid (by rw [hr, if_pos (.inr ⟨c2, c3⟩)])⟩)
        · exact .inr (.inr (.inl ⟨by omega, beq_iff_eq.2 c2, by rw [bne_eq_false_iff_eq]; omega, Lib.hid (by rw [hr, if_neg (by omega)])⟩))
      · exact .inr (.inr (.inr ⟨by omega, beq_eq_false_iff_ne.2 c2, Lib.hid (by rw [hr, if_neg (by omega)])⟩))
  clear hr hlow
  rcases hcase with ⟨h1, h4⟩ | ⟨h1, h2, h3, h4⟩ | ⟨h1, h2, h3, h4⟩ | ⟨h1, h2, h4⟩
  all_goals
    go_enter Tryz.func48, Tryz.ntmps48
    go_wp2_with fail
    refine (ffloor_any a _).mono ?_
    rintro e w1 ⟨rfl, rfl⟩
    go_wp2_with fail
    refine (fnear_any a _).mono ?_
    rintro e w1 ⟨rfl, rfl⟩
    go_wp2_with fail
    go_ret
    exact ⟨ret_int h4.out.symm, rfl⟩
theorem fsqrt_ok (a : Int) (h : 0 ≤ a ∧ a ≤ 1073741823) (w : World) :
    Calls Tryz.prog 52 #[.int .i64 a] w fun e w' => e = .returned (.tuple #[.int .i64 (Pl.root (a * 65536)), .bool true]) ∧ w = w' := by
  have hr := Pl.root_spec (a * 65536) (by omega) (by omega)
  have hb : 0 ≤ Pl.root (a * 65536) ∧ Pl.root (a * 65536) ≤ 4294967295 := ⟨hr.1, hr.2.1⟩
  clear hr
  go_enter Tryz.func52, Tryz.ntmps52
  go_wp2_with fail
  refine (fmay_yes a (by unfold Pl.fx; omega) _).mono ?_
  rintro e w1 ⟨rfl, rfl⟩
  go_wp2_with fail
  refine (root_floor (a * 65536) (by omega) _).mono ?_
  rintro e w1 ⟨rfl, rfl⟩
  go_wp2_with fail
  go_ret2
  exact ⟨rfl, rfl⟩
theorem fsqrt_no (a : Int) (h : ¬ (0 ≤ a ∧ a ≤ 1073741823)) (w : World) :
    Calls Tryz.prog 52 #[.int .i64 a] w fun e w' => e = .returned (.tuple #[.int .i64 0, .bool false]) ∧ w = w' := by
  by_cases h0 : a < 0
  · go_enter Tryz.func52, Tryz.ntmps52
    go_wp2_with fail
    go_ret2
    exact ⟨rfl, rfl⟩
  · have hn : ¬ Pl.fx a := by unfold Pl.fx; omega
    clear h
    go_enter Tryz.func52, Tryz.ntmps52
    go_wp2_with fail
    refine (fmay_no a hn _).mono ?_
    rintro e w1 ⟨rfl, rfl⟩
    go_wp2_with fail
    go_ret2
    exact ⟨rfl, rfl⟩
end Go.Proofs.YtfmmomdmemcbbaaGreat
namespace Go.Proofs.YtfmmomdmemcbbaaGreat
set_option linter.unusedVariables false
open Go.RowKit
def Pl.isn (k n : Int) : Prop := (k = 3 ∧ -2147483647 ≤ n ∧ n ≤ 2147483647) ∨ (k = 4 ∧ -1073741823 ≤ n ∧ n ≤ 1073741823)
def Pl.sz (k n : Int) : Int := if k = 3 then n * 65536 else n
theorem size_num (k : Int) (x : Bool) (n : Int) (h : Pl.isn k n) (w : World) :
    Calls Tryz.prog 83 #[obv k x n 0 0 ⟨#[]⟩] w fun e w' => e = Ending.returned (.tuple #[.int .i64 (Pl.sz k n), .bool true]) ∧ Grown w w' := by
  have hs : Hid (Pl.sz k n = if k = 3 then n * 65536 else n) := Lib.hid rfl
  generalize Pl.sz k n = z at *
  rcases h with ⟨rfl, h1, h2⟩ | ⟨rfl, h1, h2⟩
  · have hs := hs.out
    rw [if_pos rfl] at hs
    subst hs
    go_enter Tryz.func83, Tryz.ntmps83
    go_wp2_with fail
    refine (may_int_yes x n h1 h2 _).mono ?_
    rintro e w1 ⟨rfl, g1⟩
    obtain ⟨c0, c1, c2, c3, c4, c5, gw⟩ : ObS w w.heap.size 3 x n 0 0 ⟨#[]⟩ w1 := ObS.grow (by exact ⟨by simp [go_sem], by simp [go_sem], by simp [go_sem], by simp [go_sem], by simp [go_sem], by simp [go_sem], by (repeat (first | exact Grown.refl _ | assumption | apply Grown.drew | apply Grown.alloc))⟩) g1
    clear g1
    go_wp2
    go_ret2
    exact ⟨rfl, gw⟩
  · have hs := hs.out
    rw [if_neg (by omega)] at hs
    subst hs
    go_enter Tryz.func83, Tryz.ntmps83
    go_wp2_with fail
    refine (may_fix_yes x z h1 h2 _).mono ?_
    rintro e w1 ⟨rfl, g1⟩
    obtain ⟨c0, c1, c2, c3, c4, c5, gw⟩ : ObS w w.heap.size 4 x z 0 0 ⟨#[]⟩ w1 := ObS.grow (by exact ⟨by simp [go_sem], by simp [go_sem], by simp [go_sem], by simp [go_sem], by simp [go_sem], by simp [go_sem], by (repeat (first | exact Grown.refl _ | assumption | apply Grown.drew | apply Grown.alloc))⟩) g1
    clear g1
    go_wp2
    go_ret2
    exact ⟨rfl, gw⟩
theorem numbers_num (k : Int) (x : Bool) (n : Int) (h : Pl.isn k n) (k' : Int) (x' : Bool) (n' : Int) (h' : Pl.isn k' n') (w : World) :
    Calls Tryz.prog 56 #[obv k x n 0 0 ⟨#[]⟩, obv k' x' n' 0 0 ⟨#[]⟩] w fun e w' => e = Ending.returned (.tuple #[.int .i64 (Pl.sz k n), .int .i64 (Pl.sz k' n'), .bool true]) ∧ Grown w w' := by
  go_enter Tryz.func56, Tryz.ntmps56
  go_wp2_with fail
  refine (size_num k x n h _).mono ?_
  rintro e w1 ⟨rfl, g1⟩
  obtain ⟨c0, c1, c2, c3, c4, c5, gw⟩ : ObS w (w.heap.size + 1) k' x' n' 0 0 ⟨#[]⟩ w1 := ObS.grow (by exact ⟨by simp [go_sem], by simp [go_sem], by simp [go_sem], by simp [go_sem], by simp [go_sem], by simp [go_sem], by (repeat (first | exact Grown.refl _ | assumption | apply Grown.drew | apply Grown.alloc))⟩) g1
  clear g1
  go_wp2_with fail
  refine (size_num k' x' n' h' _).mono ?_
  rintro e w2 ⟨rfl, g2⟩
  go_wp2
  exact bodyPost_ret (v := .tuple #[.int .i64 (Pl.sz k n), .int .i64 (Pl.sz k' n'), .bool true]) (by simp [results, Tryz.results56, go_sem]) rfl ⟨rfl, grown_trans gw g2⟩
theorem less_num (k : Int) (x : Bool) (n : Int) (h : Pl.isn k n) (k' : Int) (x' : Bool) (n' : Int) (h' : Pl.isn k' n') (w : World) :
    Calls Tryz.prog 23 #[obv k x n 0 0 ⟨#[]⟩, obv k' x' n' 0 0 ⟨#[]⟩] w fun e w' => e = Ending.returned (.tuple #[.bool (decide (Pl.sz k n < Pl.sz k' n')), .bool true]) ∧ Grown w w' := by
  go_enter Tryz.func23, Tryz.ntmps23
  go_wp2_with fail
  refine (numbers_num k x n h k' x' n' h' _).mono ?_
  rintro e w1 ⟨rfl, g1⟩
  go_wp2
  go_ret2
  exact ⟨rfl, grown_trans (by (repeat (first | exact Grown.refl _ | assumption | apply Grown.drew | apply Grown.alloc))) g1⟩
theorem num_int (x : Bool) (n : Int) (h : -16383 ≤ n ∧ n ≤ 16383) (w : World) :
    Calls Tryz.prog 51 #[obv 3 x n 0 0 ⟨#[]⟩] w fun e w' => e = Ending.returned (.tuple #[.int .i64 (n * 65536), .bool true]) ∧ Grown w w' := by
  go_enter Tryz.func51, Tryz.ntmps51
  go_wp2_with fail
  refine (ffrom_ok n h _).mono ?_
  rintro e w1 ⟨rfl, rfl⟩
  go_wp2
  go_ret2
  exact ⟨rfl, by (repeat (first | exact Grown.refl _ | assumption | apply Grown.drew | apply Grown.alloc))⟩
theorem num_fix (x : Bool) (n : Int) (h : Pl.fx n) (w : World) :
    Calls Tryz.prog 51 #[obv 4 x n 0 0 ⟨#[]⟩] w fun e w' => e = Ending.returned (.tuple #[.int .i64 n, .bool true]) ∧ Grown w w' := by
  have hc := Lib.hid (fun W => fadd_ok n 0 h (by unfold Pl.fx; omega) (by rw [Int.add_zero]; exact h) W)
  rw [Int.add_zero] at hc
  go_enter Tryz.func51, Tryz.ntmps51
  go_wp2_with fail
  refine (hc.out _).mono ?_
  rintro e w1 ⟨rfl, g1⟩
  go_wp2
  go_ret2
  exact ⟨rfl, grown_trans (by (repeat (first | exact Grown.refl _ | assumption | apply Grown.drew | apply Grown.alloc))) g1⟩
end Go.Proofs.YtfmmomdmemcbbaaGreat
namespace Go.Proofs.YtfmmomdmemcbbaaGreat
set_option linter.unusedVariables false
open Go.RowKit
def Pl.num (k n a l : Int) (s : ByteArray) : Prop := Pl.isn k n ∧ a = 0 ∧ l = 0 ∧ s = ⟨#[]⟩
theorem Pl.num_may {k n a l : Int} {s : ByteArray} (h : Pl.num k n a l s) : Pl.may k n a l s := by
  obtain ⟨h1, rfl, rfl, rfl⟩ := h
  refine .inr (.inr (.inr ⟨⟨rfl, rfl, rfl⟩, ?_⟩))
  unfold Pl.isn at h1
  rcases h1 with h1 | h1
  · exact .inr (.inl h1)
  · exact .inr (.inr (.inl h1))
theorem Pl.may_num {k n a l : Int} {s : ByteArray} (h : Pl.may k n a l s) (hk : k = 3 ∨ k = 4) : Pl.num k n a l s := by
  rcases h with h | h | h | ⟨⟨h1, h2, h3⟩, h⟩
  · exact absurd h.1 (by omega)
  · exact absurd h.1 (by omega)
  · exact absurd h.1 (by omega)
  · exact ⟨by unfold Pl.isn; omega, h1, h2, h3⟩
end Go.Proofs.YtfmmomdmemcbbaaGreat
namespace Go.Proofs.YtfmmomdmemcbbaaGreat
set_option linter.unusedVariables false
open Go.RowKit
theorem Pl.toList_nil {s : ByteArray} : s.toList = [] ↔ s = ⟨#[]⟩ := ⟨fun h => Classical.byContradiction fun e => Pl.bytes_ne e h, fun h => by rw [h]; simp [ByteArray.toList_eq]⟩
theorem Pl.cut_ne {s : ByteArray} (h : 100 < (s.size : Int)) : ¬ s.toList = (s.extract 0 100).toList := fun e => by
  have e := congrArg List.length e
  simp [ByteArray.toList_eq] at e
  omega
theorem rmay_2 (x : Bool) (n a l : Int) (s : ByteArray) (m : Bool) (hm : m = true ↔ (a = 0 ∧ l = 0 ∧ s.toList = [] ∧ 0 ≤ n ∧ n ≤ 1)) (w : World) :
    Calls Tryz.prog 17 #[obv 2 x n a l s] w fun e w' => e = Ending.returned (.bool m) ∧ Grown w w' := by
  go_enter Tryz.func17, Tryz.ntmps17
  go_wp2
  all_goals
    go_ret
    refine ⟨ret_bool ?_, by (repeat (first | exact Grown.refl _ | assumption | apply Grown.drew | apply Grown.alloc | (refine Grown.setCell ?_ (by simp) _)))⟩
    first | exact (hm.2 (by refine ⟨?_, ?_, ?_, ?_, ?_⟩ <;> first | assumption | omega)).symm | (symm; rw [Bool.eq_false_iff]; intro h; have h := hm.1 h; first | omega | exact absurd h.2.2.1 (by assumption))
theorem rmay_3 (x : Bool) (n a l : Int) (s : ByteArray) (m : Bool) (hm : m = true ↔ (a = 0 ∧ l = 0 ∧ s.toList = [] ∧ -2147483647 ≤ n ∧ n ≤ 2147483647)) (w : World) :
    Calls Tryz.prog 17 #[obv 3 x n a l s] w fun e w' => e = Ending.returned (.bool m) ∧ Grown w w' := by
  go_enter Tryz.func17, Tryz.ntmps17
  go_wp2
  all_goals
    go_ret
    refine ⟨ret_bool ?_, by (repeat (first | exact Grown.refl _ | assumption | apply Grown.drew | apply Grown.alloc | (refine Grown.setCell ?_ (by simp) _)))⟩
    first | exact (hm.2 (by refine ⟨?_, ?_, ?_, ?_, ?_⟩ <;> first | assumption | omega)).symm | (symm; rw [Bool.eq_false_iff]; intro h; have h := hm.1 h; first | omega | exact absurd h.2.2.1 (by assumption))
theorem rmay_4 (x : Bool) (n a l : Int) (s : ByteArray) (m : Bool) (hm : m = true ↔ (a = 0 ∧ l = 0 ∧ s.toList = [] ∧ -1073741823 ≤ n ∧ n ≤ 1073741823)) (w : World) :
    Calls Tryz.prog 17 #[obv 4 x n a l s] w fun e w' => e = Ending.returned (.bool m) ∧ Grown w w' := by
  go_enter Tryz.func17, Tryz.ntmps17
  go_wp2
  all_goals
    go_ret
    refine ⟨ret_bool ?_, by (repeat (first | exact Grown.refl _ | assumption | apply Grown.drew | apply Grown.alloc | (refine Grown.setCell ?_ (by simp) _)))⟩
    first | exact (hm.2 (by refine ⟨?_, ?_, ?_, ?_, ?_⟩ <;> first | assumption | omega)).symm | (symm; rw [Bool.eq_false_iff]; intro h; have h := hm.1 h; first | omega | exact absurd h.2.2.1 (by assumption))
theorem rmay_7 (x : Bool) (n a l : Int) (s : ByteArray) (m : Bool) (hm : m = true ↔ (a = 0 ∧ l = 0 ∧ s.toList = [] ∧ 1 ≤ n ∧ n ≤ 200)) (w : World) :
    Calls Tryz.prog 17 #[obv 7 x n a l s] w fun e w' => e = Ending.returned (.bool m) ∧ Grown w w' := by
  go_enter Tryz.func17, Tryz.ntmps17
  go_wp2
  all_goals
    go_ret
    refine ⟨ret_bool ?_, by (repeat (first | exact Grown.refl _ | assumption | apply Grown.drew | apply Grown.alloc | (refine Grown.setCell ?_ (by simp) _)))⟩
    first | exact (hm.2 (by refine ⟨?_, ?_, ?_, ?_, ?_⟩ <;> first | assumption | omega)).symm | (symm; rw [Bool.eq_false_iff]; intro h; have h := hm.1 h; first | omega | exact absurd h.2.2.1 (by assumption))
theorem rmay_10 (x : Bool) (n a l : Int) (s : ByteArray) (m : Bool) (hm : m = true ↔ (a = 0 ∧ l = 0 ∧ s.toList = [] ∧ 0 ≤ n ∧ n ≤ 40000)) (w : World) :
    Calls Tryz.prog 17 #[obv 10 x n a l s] w fun e w' => e = Ending.returned (.bool m) ∧ Grown w w' := by
  go_enter Tryz.func17, Tryz.ntmps17
  go_wp2
  all_goals
    go_ret
    refine ⟨ret_bool ?_, by (repeat (first | exact Grown.refl _ | assumption | apply Grown.drew | apply Grown.alloc | (refine Grown.setCell ?_ (by simp) _)))⟩
    first | exact (hm.2 (by refine ⟨?_, ?_, ?_, ?_, ?_⟩ <;> first | assumption | omega)).symm | (symm; rw [Bool.eq_false_iff]; intro h; have h := hm.1 h; first | omega | exact absurd h.2.2.1 (by assumption))
theorem rmay_11 (x : Bool) (n a l : Int) (s : ByteArray) (m : Bool) (hm : m = true ↔ (a = 0 ∧ l = 0 ∧ s.toList = [] ∧ 1 ≤ n ∧ n ≤ 2147483647)) (w : World) :
    Calls Tryz.prog 17 #[obv 11 x n a l s] w fun e w' => e = Ending.returned (.bool m) ∧ Grown w w' := by
  go_enter Tryz.func17, Tryz.ntmps17
  go_wp2
  all_goals
    go_ret
    refine ⟨ret_bool ?_, by (repeat (first | exact Grown.refl _ | assumption | apply Grown.drew | apply Grown.alloc | (refine Grown.setCell ?_ (by simp) _)))⟩
    first | exact (hm.2 (by refine ⟨?_, ?_, ?_, ?_, ?_⟩ <;> first | assumption | omega)).symm | (symm; rw [Bool.eq_false_iff]; intro h; have h := hm.1 h; first | omega | exact absurd h.2.2.1 (by assumption))
theorem rmay_1 (x : Bool) (n a l : Int) (s : ByteArray) (m : Bool) (hm : m = true ↔ (a = 0 ∧ l = 0 ∧ s.toList = [] ∧ n = 0 ∧ n = 0)) (w : World) :
    Calls Tryz.prog 17 #[obv 1 x n a l s] w fun e w' => e = Ending.returned (.bool m) ∧ Grown w w' := by
  go_enter Tryz.func17, Tryz.ntmps17
  go_wp2
  all_goals
    go_ret
    refine ⟨ret_bool ?_, by (repeat (first | exact Grown.refl _ | assumption | apply Grown.drew | apply Grown.alloc | (refine Grown.setCell ?_ (by simp) _)))⟩
    first | exact (hm.2 (by refine ⟨?_, ?_, ?_, ?_, ?_⟩ <;> first | assumption | omega)).symm | (symm; rw [Bool.eq_false_iff]; intro h; have h := hm.1 h; first | omega | exact absurd h.2.2.1 (by assumption))
theorem rmay_6 (x : Bool) (n a l : Int) (s : ByteArray) (m : Bool) (hm : m = true ↔ (a = 0 ∧ l = 0 ∧ s.toList = [] ∧ n = 0 ∧ n = 0)) (w : World) :
    Calls Tryz.prog 17 #[obv 6 x n a l s] w fun e w' => e = Ending.returned (.bool m) ∧ Grown w w' := by
  go_enter Tryz.func17, Tryz.ntmps17
  go_wp2
  all_goals
    go_ret
    refine ⟨ret_bool ?_, by (repeat (first | exact Grown.refl _ | assumption | apply Grown.drew | apply Grown.alloc | (refine Grown.setCell ?_ (by simp) _)))⟩
    first | exact (hm.2 (by refine ⟨?_, ?_, ?_, ?_, ?_⟩ <;> first | assumption | omega)).symm | (symm; rw [Bool.eq_false_iff]; intro h; have h := hm.1 h; first | omega | exact absurd h.2.2.1 (by assumption))
theorem rmay_5 (x : Bool) (n a l : Int) (s : ByteArray) (m : Bool) (hm : m = true ↔ (a = 0 ∧ l = 0 ∧ n = 0 ∧ (s.size : Int) ≤ 100)) (w : World) :
    Calls Tryz.prog 17 #[obv 5 x n a l s] w fun e w' => e = Ending.returned (.bool m) ∧ Grown w w' := by
  go_enter Tryz.func17, Tryz.ntmps17
  go_wp2
  all_goals
    go_ret
    refine ⟨ret_bool ?_, by (repeat (first | exact Grown.refl _ | assumption | apply Grown.drew | apply Grown.alloc | (refine Grown.setCell ?_ (by simp) _)))⟩
    first | (exact absurd (‹s.toList = (s.extract 0 100).toList› : s.toList = (s.extract 0 100).toList) (Pl.cut_ne (by assumption))) | exact (hm.2 (by refine ⟨?_, ?_, ?_, ?_⟩ <;> first | assumption | omega)).symm | (symm; rw [Bool.eq_false_iff]; intro h; have h := hm.1 h; omega)
theorem rmay_else (k : Int) (hk : ¬ (k = 1 ∨ k = 2 ∨ k = 3 ∨ k = 4 ∨ k = 5 ∨ k = 6 ∨ k = 7 ∨ k = 8 ∨ k = 9 ∨ k = 10 ∨ k = 11)) (x : Bool) (n a l : Int) (s : ByteArray) (w : World) :
    Calls Tryz.prog 17 #[obv k x n a l s] w fun e w' => e = Ending.returned (.bool false) ∧ Grown w w' := by
  have k1 : (k == 1) = false := Pl.nek (fun e => hk (by simp [e]))
  have k2 : (k == 2) = false := Pl.nek (fun e => hk (by simp [e]))
  have k3 : (k == 3) = false := Pl.nek (fun e => hk (by simp [e]))
  have k4 : (k == 4) = false := Pl.nek (fun e => hk (by simp [e]))
  have k5 : (k == 5) = false := Pl.nek (fun e => hk (by simp [e]))
  have k6 : (k == 6) = false := Pl.nek (fun e => hk (by simp [e]))
  have k7 : (k == 7) = false := Pl.nek (fun e => hk (by simp [e]))
  have k8 : (k == 8) = false := Pl.nek (fun e => hk (by simp [e]))
  have k9 : (k == 9) = false := Pl.nek (fun e => hk (by simp [e]))
  have k10 : (k == 10) = false := Pl.nek (fun e => hk (by simp [e]))
  have k11 : (k == 11) = false := Pl.nek (fun e => hk (by simp [e]))
  clear hk
  go_enter Tryz.func17, Tryz.ntmps17
  go_wp2
  go_ret
  exact ⟨rfl, by (repeat (first | exact Grown.refl _ | assumption | apply Grown.drew | apply Grown.alloc | (refine Grown.setCell ?_ (by simp) _)))⟩
theorem rin_any (v a b : Int) (m : Bool) (hm : m = true ↔ (a ≤ v ∧ v ≤ b)) (w : World) :
    Calls Tryz.prog 32 #[.int .i64 v, .int .i64 a, .int .i64 b] w fun e w' => e = Ending.returned (.bool m) ∧ w = w' := by
  go_enter Tryz.func32, Tryz.ntmps32
  go_wp2
  all_goals
    go_ret
    refine ⟨ret_bool ?_, rfl⟩
    first | exact (hm.2 (by refine ⟨?_, ?_⟩ <;> omega)).symm | (symm; rw [Bool.eq_iff_iff, hm, decide_eq_true_eq]; omega) | (symm; rw [Bool.eq_false_iff]; intro h; have h := hm.1 h; omega)
end Go.Proofs.YtfmmomdmemcbbaaGreat
namespace Go.Proofs.YtfmmomdmemcbbaaGreat
set_option linter.unusedVariables false
open Go.RowKit
theorem rmay_8_s (x : Bool) (n a l : Int) (s : ByteArray) (h1 : (s.toList == []) = false) (h2 : s.toList.isEmpty = false) (h3 : ¬ s.toList = []) (w : World) :
    Calls Tryz.prog 17 #[obv 8 x n a l s] w fun e w' => e = Ending.returned (.bool false) ∧ Grown w w' := by
  go_enter Tryz.func17, Tryz.ntmps17
  go_wp2_with fail
  go_region
  go_wp2_with fail
  go_ret
  exact ⟨rfl, by (repeat (first | exact Grown.refl _ | assumption | apply Grown.drew | apply Grown.alloc | (refine Grown.setCell ?_ (by simp) _)))⟩
theorem rmay_8_n (x : Bool) (n a l : Int) (s : ByteArray) (h1 : (s.toList == []) = true) (h2 : s.toList.isEmpty = true) (h3 : s.toList = []) (pn : ¬ (0 ≤ n ∧ n ≤ 40000)) (w : World) :
    Calls Tryz.prog 17 #[obv 8 x n a l s] w fun e w' => e = Ending.returned (.bool false) ∧ Grown w w' := by
  go_enter Tryz.func17, Tryz.ntmps17
  go_wp2_with fail
  go_region
  go_wp2_with fail
  refine (rin_any n 0 40000 false ⟨fun h => absurd h (by decide), fun h => absurd h pn⟩ _).mono ?_
  rintro e wn ⟨rfl, rfl⟩
  go_wp2_with fail
  go_ret
  exact ⟨rfl, by (repeat (first | exact Grown.refl _ | assumption | apply Grown.drew | apply Grown.alloc | (refine Grown.setCell ?_ (by simp) _)))⟩
theorem rmay_8_a (x : Bool) (n a l : Int) (s : ByteArray) (h1 : (s.toList == []) = true) (h2 : s.toList.isEmpty = true) (h3 : s.toList = []) (pn : 0 ≤ n ∧ n ≤ 40000) (pa : ¬ (0 ≤ a ∧ a ≤ 40000)) (w : World) :
    Calls Tryz.prog 17 #[obv 8 x n a l s] w fun e w' => e = Ending.returned (.bool false) ∧ Grown w w' := by
  go_enter Tryz.func17, Tryz.ntmps17
  go_wp2_with fail
  go_region
  go_wp2_with fail
  refine (rin_any n 0 40000 true ⟨fun _ => pn, fun _ => rfl⟩ _).mono ?_
  rintro e wn ⟨rfl, rfl⟩
  go_wp2_with fail
  refine (rin_any a 0 40000 false ⟨fun h => absurd h (by decide), fun h => absurd h pa⟩ _).mono ?_
  rintro e wa ⟨rfl, rfl⟩
  go_wp2_with fail
  go_ret
  exact ⟨rfl, by (repeat (first | exact Grown.refl _ | assumption | apply Grown.drew | apply Grown.alloc | (refine Grown.setCell ?_ (by simp) _)))⟩
theorem rmay_8_l (x : Bool) (n a l : Int) (s : ByteArray) (h1 : (s.toList == []) = true) (h2 : s.toList.isEmpty = true) (h3 : s.toList = []) (pn : 0 ≤ n ∧ n ≤ 40000) (pa : 0 ≤ a ∧ a ≤ 40000) (pl : ¬ (0 ≤ l ∧ l ≤ 40000)) (w : World) :
    Calls Tryz.prog 17 #[obv 8 x n a l s] w fun e w' => e = Ending.returned (.bool false) ∧ Grown w w' := by
  go_enter Tryz.func17, Tryz.ntmps17
  go_wp2_with fail
  go_region
  go_wp2_with fail
  refine (rin_any n 0 40000 true ⟨fun _ => pn, fun _ => rfl⟩ _).mono ?_
  rintro e wn ⟨rfl, rfl⟩
  go_wp2_with fail
  refine (rin_any a 0 40000 true ⟨fun _ => pa, fun _ => rfl⟩ _).mono ?_
  rintro e wa ⟨rfl, rfl⟩
  go_wp2_with fail
  refine (rin_any l 0 40000 false ⟨fun h => absurd h (by decide), fun h => absurd h pl⟩ _).mono ?_
  rintro e wl ⟨rfl, rfl⟩
  go_wp2_with fail
  go_ret
  exact ⟨rfl, by (repeat (first | exact Grown.refl _ | assumption | apply Grown.drew | apply Grown.alloc | (refine Grown.setCell ?_ (by simp) _)))⟩
theorem rmay_8_yes (x : Bool) (n a l : Int) (s : ByteArray) (h1 : (s.toList == []) = true) (h2 : s.toList.isEmpty = true) (h3 : s.toList = []) (pn : 0 ≤ n ∧ n ≤ 40000) (pa : 0 ≤ a ∧ a ≤ 40000) (pl : 0 ≤ l ∧ l ≤ 40000) (w : World) :
    Calls Tryz.prog 17 #[obv 8 x n a l s] w fun e w' => e = Ending.returned (.bool true) ∧ Grown w w' := by
  go_enter Tryz.func17, Tryz.ntmps17
  go_wp2_with fail
  go_region
  go_wp2_with fail
  refine (rin_any n 0 40000 true ⟨fun _ => pn, fun _ => rfl⟩ _).mono ?_
  rintro e wn ⟨rfl, rfl⟩
  go_wp2_with fail
  refine (rin_any a 0 40000 true ⟨fun _ => pa, fun _ => rfl⟩ _).mono ?_
  rintro e wa ⟨rfl, rfl⟩
  go_wp2_with fail
  refine (rin_any l 0 40000 true ⟨fun _ => pl, fun _ => rfl⟩ _).mono ?_
  rintro e wl ⟨rfl, rfl⟩
  go_wp2_with fail
  go_ret
  exact ⟨rfl, by (repeat (first | exact Grown.refl _ | assumption | apply Grown.drew | apply Grown.alloc | (refine Grown.setCell ?_ (by simp) _)))⟩
theorem rmay_8 (x : Bool) (n a l : Int) (s : ByteArray) (m : Bool) (hm : m = true ↔ (s.toList = [] ∧ (0 ≤ n ∧ n ≤ 40000) ∧ (0 ≤ a ∧ a ≤ 40000) ∧ 0 ≤ l ∧ l ≤ 40000)) (w : World) :
    Calls Tryz.prog 17 #[obv 8 x n a l s] w fun e w' => e = Ending.returned (.bool m) ∧ Grown w w' := by
  by_cases hs : s = ⟨#[]⟩
  case neg =>
    obtain rfl : m = false := Bool.eq_false_iff.2 fun h => Pl.bytes_ne hs (hm.1 h).1
    exact rmay_8_s x n a l s (Pl.bytes_ne1 hs) (Pl.bytes_ne2 hs) (Pl.bytes_ne hs) w
  have e := Pl.toList_nil.2 hs
  have e1 : (s.toList == []) = true := by rw [e]; rfl
  have e2 : s.toList.isEmpty = true := by rw [e]; rfl
  by_cases pn : 0 ≤ n ∧ n ≤ 40000
  case neg =>
    obtain rfl : m = false := Bool.eq_false_iff.2 fun h => pn (hm.1 h).2.1
    exact rmay_8_n x n a l s e1 e2 e pn w
  by_cases pa : 0 ≤ a ∧ a ≤ 40000
  case neg =>
    obtain rfl : m = false := Bool.eq_false_iff.2 fun h => pa (hm.1 h).2.2.1
    exact rmay_8_a x n a l s e1 e2 e pn pa w
  by_cases pl : 0 ≤ l ∧ l ≤ 40000
  case neg =>
    obtain rfl : m = false := Bool.eq_false_iff.2 fun h => pl (hm.1 h).2.2.2
    exact rmay_8_l x n a l s e1 e2 e pn pa pl w
  obtain rfl : m = true := hm.2 ⟨e, pn, pa, pl⟩
  exact rmay_8_yes x n a l s e1 e2 e pn pa pl w
theorem rmay_9_s (x : Bool) (n a l : Int) (s : ByteArray) (h1 : (s.toList == []) = false) (h2 : s.toList.isEmpty = false) (h3 : ¬ s.toList = []) (w : World) :
    Calls Tryz.prog 17 #[obv 9 x n a l s] w fun e w' => e = Ending.returned (.bool false) ∧ Grown w w' := by
  go_enter Tryz.func17, Tryz.ntmps17
  go_wp2_with fail
  go_region
  go_wp2_with fail
  go_ret
  exact ⟨rfl, by (repeat (first | exact Grown.refl _ | assumption | apply Grown.drew | apply Grown.alloc | (refine Grown.setCell ?_ (by simp) _)))⟩
theorem rmay_9_n (x : Bool) (n a l : Int) (s : ByteArray) (h1 : (s.toList == []) = true) (h2 : s.toList.isEmpty = true) (h3 : s.toList = []) (pn : ¬ (0 ≤ n ∧ n ≤ 40000)) (w : World) :
    Calls Tryz.prog 17 #[obv 9 x n a l s] w fun e w' => e = Ending.returned (.bool false) ∧ Grown w w' := by
  go_enter Tryz.func17, Tryz.ntmps17
  go_wp2_with fail
  go_region
  go_wp2_with fail
  refine (rin_any n 0 40000 false ⟨fun h => absurd h (by decide), fun h => absurd h pn⟩ _).mono ?_
  rintro e wn ⟨rfl, rfl⟩
  go_wp2_with fail
  go_ret
  exact ⟨rfl, by (repeat (first | exact Grown.refl _ | assumption | apply Grown.drew | apply Grown.alloc | (refine Grown.setCell ?_ (by simp) _)))⟩
theorem rmay_9_a (x : Bool) (n a l : Int) (s : ByteArray) (h1 : (s.toList == []) = true) (h2 : s.toList.isEmpty = true) (h3 : s.toList = []) (pn : 0 ≤ n ∧ n ≤ 40000) (pa : ¬ (0 ≤ a ∧ a ≤ 40000)) (w : World) :
    Calls Tryz.prog 17 #[obv 9 x n a l s] w fun e w' => e = Ending.returned (.bool false) ∧ Grown w w' := by
  go_enter Tryz.func17, Tryz.ntmps17
  go_wp2_with fail
  go_region
  go_wp2_with fail
  refine (rin_any n 0 40000 true ⟨fun _ => pn, fun _ => rfl⟩ _).mono ?_
  rintro e wn ⟨rfl, rfl⟩
  go_wp2_with fail
  refine (rin_any a 0 40000 false ⟨fun h => absurd h (by decide), fun h => absurd h pa⟩ _).mono ?_
  rintro e wa ⟨rfl, rfl⟩
  go_wp2_with fail
  go_ret
  exact ⟨rfl, by (repeat (first | exact Grown.refl _ | assumption | apply Grown.drew | apply Grown.alloc | (refine Grown.setCell ?_ (by simp) _)))⟩
theorem rmay_9_l (x : Bool) (n a l : Int) (s : ByteArray) (h1 : (s.toList == []) = true) (h2 : s.toList.isEmpty = true) (h3 : s.toList = []) (pn : 0 ≤ n ∧ n ≤ 40000) (pa : 0 ≤ a ∧ a ≤ 40000) (pl : ¬ (0 ≤ l ∧ l ≤ 40000)) (w : World) :
    Calls Tryz.prog 17 #[obv 9 x n a l s] w fun e w' => e = Ending.returned (.bool false) ∧ Grown w w' := by
  go_enter Tryz.func17, Tryz.ntmps17
  go_wp2_with fail
  go_region
  go_wp2_with fail
  refine (rin_any n 0 40000 true ⟨fun _ => pn, fun _ => rfl⟩ _).mono ?_
  rintro e wn ⟨rfl, rfl⟩
  go_wp2_with fail
  refine (rin_any a 0 40000 true ⟨fun _ => pa, fun _ => rfl⟩ _).mono ?_
  rintro e wa ⟨rfl, rfl⟩
  go_wp2_with fail
  refine (rin_any l 0 40000 false ⟨fun h => absurd h (by decide), fun h => absurd h pl⟩ _).mono ?_
  rintro e wl ⟨rfl, rfl⟩
  go_wp2_with fail
  go_ret
  exact ⟨rfl, by (repeat (first | exact Grown.refl _ | assumption | apply Grown.drew | apply Grown.alloc | (refine Grown.setCell ?_ (by simp) _)))⟩
theorem rmay_9_yes (x : Bool) (n a l : Int) (s : ByteArray) (h1 : (s.toList == []) = true) (h2 : s.toList.isEmpty = true) (h3 : s.toList = []) (pn : 0 ≤ n ∧ n ≤ 40000) (pa : 0 ≤ a ∧ a ≤ 40000) (pl : 0 ≤ l ∧ l ≤ 40000) (w : World) :
    Calls Tryz.prog 17 #[obv 9 x n a l s] w fun e w' => e = Ending.returned (.bool true) ∧ Grown w w' := by
  go_enter Tryz.func17, Tryz.ntmps17
  go_wp2_with fail
  go_region
  go_wp2_with fail
  refine (rin_any n 0 40000 true ⟨fun _ => pn, fun _ => rfl⟩ _).mono ?_
  rintro e wn ⟨rfl, rfl⟩
  go_wp2_with fail
  refine (rin_any a 0 40000 true ⟨fun _ => pa, fun _ => rfl⟩ _).mono ?_
  rintro e wa ⟨rfl, rfl⟩
  go_wp2_with fail
  refine (rin_any l 0 40000 true ⟨fun _ => pl, fun _ => rfl⟩ _).mono ?_
  rintro e wl ⟨rfl, rfl⟩
  go_wp2_with fail
  go_ret
  exact ⟨rfl, by (repeat (first | exact Grown.refl _ | assumption | apply Grown.drew | apply Grown.alloc | (refine Grown.setCell ?_ (by simp) _)))⟩
theorem rmay_9 (x : Bool) (n a l : Int) (s : ByteArray) (m : Bool) (hm : m = true ↔ (s.toList = [] ∧ (0 ≤ n ∧ n ≤ 40000) ∧ (0 ≤ a ∧ a ≤ 40000) ∧ 0 ≤ l ∧ l ≤ 40000)) (w : World) :
    Calls Tryz.prog 17 #[obv 9 x n a l s] w fun e w' => e = Ending.returned (.bool m) ∧ Grown w w' := by
  by_cases hs : s = ⟨#[]⟩
  case neg =>
    obtain rfl : m = false := Bool.eq_false_iff.2 fun h => Pl.bytes_ne hs (hm.1 h).1
    exact rmay_9_s x n a l s (Pl.bytes_ne1 hs) (Pl.bytes_ne2 hs) (Pl.bytes_ne hs) w
  have e := Pl.toList_nil.2 hs
  have e1 : (s.toList == []) = true := by rw [e]; rfl
  have e2 : s.toList.isEmpty = true := by rw [e]; rfl
  by_cases pn : 0 ≤ n ∧ n ≤ 40000
  case neg =>
    obtain rfl : m = false := Bool.eq_false_iff.2 fun h => pn (hm.1 h).2.1
    exact rmay_9_n x n a l s e1 e2 e pn w
  by_cases pa : 0 ≤ a ∧ a ≤ 40000
  case neg =>
    obtain rfl : m = false := Bool.eq_false_iff.2 fun h => pa (hm.1 h).2.2.1
    exact rmay_9_a x n a l s e1 e2 e pn pa w
  by_cases pl : 0 ≤ l ∧ l ≤ 40000
  case neg =>
    obtain rfl : m = false := Bool.eq_false_iff.2 fun h => pl (hm.1 h).2.2.2
    exact rmay_9_l x n a l s e1 e2 e pn pa pl w
  obtain rfl : m = true := hm.2 ⟨e, pn, pa, pl⟩
  exact rmay_9_yes x n a l s e1 e2 e pn pa pl w
theorem rmay_any (k : Int) (x : Bool) (n a l : Int) (s : ByteArray) (m : Bool) (hm : m = true ↔ Pl.may k n a l s) (w : World) :
    Calls Tryz.prog 17 #[obv k x n a l s] w fun e w' => e = Ending.returned (.bool m) ∧ Grown w w' := by
  have tu : s = ⟨#[]⟩ ↔ (s.size : Int) = 0 := ⟨fun h => by rw [h]; rfl, fun h => by
    obtain ⟨d⟩ := s
    have h : d.size = 0 := by simpa [ByteArray.size] using h
    rw [Array.eq_empty_of_size_eq_zero h]⟩
  have ts := Pl.toList_nil.trans tu
  unfold Pl.may Pl.bare at hm
  rw [tu] at hm
  generalize hz : (s.size : Int) = z at *
  by_cases hk : k = 1 ∨ k = 2 ∨ k = 3 ∨ k = 4 ∨ k = 5 ∨ k = 6 ∨ k = 7 ∨ k = 8 ∨ k = 9 ∨ k = 10 ∨ k = 11
  · rcases hk with rfl | rfl | rfl | rfl | rfl | rfl | rfl | rfl | rfl | rfl | rfl
    · exact rmay_1 x n a l s m (by rw [ts]; exact hm.trans ⟨fun h => by omega, fun h => by omega⟩) w
    · exact rmay_2 x n a l s m (by rw [ts]; exact hm.trans ⟨fun h => by omega, fun h => by omega⟩) w
    · exact rmay_3 x n a l s m (by rw [ts]; exact hm.trans ⟨fun h => by omega, fun h => by omega⟩) w
    · exact rmay_4 x n a l s m (by rw [ts]; exact hm.trans ⟨fun h => by omega, fun h => by omega⟩) w
    · exact rmay_5 x n a l s m (by rw [hz]; exact hm.trans ⟨fun h => by omega, fun h => by omega⟩) w
    · exact rmay_6 x n a l s m (by rw [ts]; exact hm.trans ⟨fun h => by omega, fun h => by omega⟩) w
    · exact rmay_7 x n a l s m (by rw [ts]; exact hm.trans ⟨fun h => by omega, fun h => by omega⟩) w
    · exact rmay_8 x n a l s m (by rw [ts]; exact hm.trans ⟨fun h => by omega, fun h => by omega⟩) w
    · exact rmay_9 x n a l s m (by rw [ts]; exact hm.trans ⟨fun h => by omega, fun h => by omega⟩) w
    · exact rmay_10 x n a l s m (by rw [ts]; exact hm.trans ⟨fun h => by omega, fun h => by omega⟩) w
    · exact rmay_11 x n a l s m (by rw [ts]; exact hm.trans ⟨fun h => by omega, fun h => by omega⟩) w
  · obtain rfl : m = false := Bool.eq_false_iff.2 fun h => by have := hm.1 h; omega
    exact rmay_else k hk x n a l s w
end Go.Proofs.YtfmmomdmemcbbaaGreat
namespace Go.Proofs.YtfmmomdmemcbbaaGreat
set_option linter.unusedVariables false
open Go.RowKit
theorem rpeek_low (base p : Nat) (v : Value) (L : List Pl.Ob) (i : Int) (hi : i < 0) (W : World) (hS : StkV base p v L W) :
    Calls Tryz.prog 87 #[.pointer (some ⟨p, 0, none⟩), .int .i64 i] W fun e w' => e = .returned (.tuple #[obv 0 false 0 0 0 ⟨#[]⟩, .int .i64 2]) ∧ Grown W w' := by
  clear hS
  go_enter Tryz.func87, Tryz.ntmps87
  go_wp2_with fail
  refine bodyPost_ret (v := .tuple #[obv 0 false 0 0 0 ⟨#[]⟩, .int .i64 2]) (by simp [results, Tryz.results87, go_sem]) rfl ⟨rfl, by (repeat (first | exact Grown.refl _ | assumption | apply Grown.drew | apply Grown.alloc | (refine Grown.setCell ?_ (by simp) _)))⟩
theorem rpeek_under (base p : Nat) (v : Value) (L : List Pl.Ob) (i : Int) (hi0 : 0 ≤ i) (hi : (L.length : Int) ≤ i) (W : World) (hS : StkV base p v L W) :
    Calls Tryz.prog 87 #[.pointer (some ⟨p, 0, none⟩), .int .i64 i] W fun e w' => e = .returned (.tuple #[obv 0 false 0 0 0 ⟨#[]⟩, .int .i64 7]) ∧ Grown W w' := by
  obtain ⟨ao, cap, rfl⟩ := hS.slice
  obtain ⟨h0, h1, hown, hne, hp⟩ := id hS
  clear hS
  have hp0 : ∀ o t, (W.alloc (.cells o t)).cell? ⟨p, 0, none⟩ = some (.slice ao L.length cap) := fun o t => by rw [World.cell?_alloc_past _ _ _ hp]; exact h0
  go_enter Tryz.func87, Tryz.ntmps87
  go_wp2_with fail
  refine bodyPost_ret (v := .tuple #[obv 0 false 0 0 0 ⟨#[]⟩, .int .i64 7]) (by simp [results, Tryz.results87, go_sem]) rfl ⟨rfl, by (repeat (first | exact Grown.refl _ | assumption | apply Grown.drew | apply Grown.alloc | (refine Grown.setCell ?_ (by simp) _)))⟩
theorem rpeek_ok (base p : Nat) (v : Value) (L : List Pl.Ob) (i j : Nat) (k : Int) (x : Bool) (n a l : Int) (s : ByteArray) (hij : i + j + 1 = L.length) (hj : L[j]? = some (k, x, n, a, l, s)) (hlen : L.length ≤ 300) (W : World) (hS : StkV base p v L W) :
    Calls Tryz.prog 87 #[.pointer (some ⟨p, 0, none⟩), .int .i64 (i : Int)] W fun e w' => e = .returned (.tuple #[obv k x n a l s, .int .i64 0]) ∧ Grown W w' := by
  obtain ⟨g, cap, rfl, hcap, c0, c1, c2, c3, c4, c5⟩ := hS.at j _ hj
  obtain ⟨h0, h1, hown, hne, hp⟩ := id hS
  have hg := own_lt hown g rfl
  clear hS
  have hO : ObS W W.heap.size 0 false 0 0 0 ⟨#[]⟩ (W.alloc (.cells #[.int .i64 0, .bool false, .int .i64 0, .int .i64 0, .int .i64 0, .string ⟨#[]⟩] 25)) := ⟨by simp [go_sem], by simp [go_sem], by simp [go_sem], by simp [go_sem], by simp [go_sem], by simp [go_sem], (Grown.refl W).alloc _ _⟩
  have hp0 : ∀ o t, (W.alloc (.cells o t)).cell? ⟨p, 0, none⟩ = some (.slice (some ⟨g, 0, none⟩) L.length cap) := fun o t => by rw [World.cell?_alloc_past _ _ _ hp]; exact h0
  have d0 : ∀ o t, (W.alloc (.cells o t)).cell? ⟨g, j * 6, none⟩ = _ := fun o t => (World.cell?_alloc_past _ _ _ hg).trans c0
  have d1 : ∀ o t, (W.alloc (.cells o t)).cell? ⟨g, j * 6 + 1, none⟩ = _ := fun o t => (World.cell?_alloc_past _ _ _ hg).trans c1
  have d2 : ∀ o t, (W.alloc (.cells o t)).cell? ⟨g, j * 6 + 2, none⟩ = _ := fun o t => (World.cell?_alloc_past _ _ _ hg).trans c2
  have d3 : ∀ o t, (W.alloc (.cells o t)).cell? ⟨g, j * 6 + 3, none⟩ = _ := fun o t => (World.cell?_alloc_past _ _ _ hg).trans c3
  have d4 : ∀ o t, (W.alloc (.cells o t)).cell? ⟨g, j * 6 + 4, none⟩ = _ := fun o t => (World.cell?_alloc_past _ _ _ hg).trans c4
  have d5 : ∀ o t, (W.alloc (.cells o t)).cell? ⟨g, j * 6 + 5, none⟩ = _ := fun o t => (World.cell?_alloc_past _ _ _ hg).trans c5
  have e1 : (L.length : Int) - 1 - i = j := by omega
  have e2 : (j : Int) < L.length := by omega
  have e3 : (i : Int) < L.length := by omega
  have e4 : (L.length : Int) ≤ 300 := by omega
  have e5 : 1 ≤ (L.length : Int) := by omega
  go_enter Tryz.func87, Tryz.ntmps87
  go_wp2_with fail
  go_region
  all_goals
    go_wp2_with fail
    refine bodyPost_ret (v := .tuple #[obv k x n a l s, .int .i64 0]) (by simp [results, Tryz.results87, go_sem]) rfl ⟨rfl, by (repeat (first | exact Grown.refl _ | assumption | apply Grown.drew | apply Grown.alloc | (refine Grown.setCell ?_ (by simp) _)))⟩
theorem rtomark_any (base p : Nat) (v : Value) (L : List Pl.Ob) (hlen : L.length ≤ 300) (W : World) (hS : StkV base p v L W) :
    Calls Tryz.prog 106 #[.pointer (some ⟨p, 0, none⟩)] W fun e w' => e = .returned (.tuple #[.int .i64 (Pl.toMark L).1, .int .i64 (Pl.toMark L).2]) ∧ Grown W w' := by
  have HS := Lib.hid hS
  obtain ⟨ao, cap, rfl⟩ := hS.slice
  have h0 := hS.1
  obtain ⟨M, hM⟩ : ∃ M, M = L.length := ⟨_, rfl⟩
  rw [← hM] at h0
  have HM := Lib.hid hM
  have e1 : (M : Int) ≤ 300 := by omega
  clear hS hM hlen
  go_enter Tryz.func106, Tryz.ntmps106
  go_wp2_with fail
  go_loopw [4] (fun i wr => ∃ k : Nat, i = .int .i64 (k : Int) ∧ k ≤ M ∧ Grown W wr ∧ Hid (∀ (i : Nat) (q : Pl.Ob), i < k → L.reverse[i]? = some q → q.1 ≠ 6)) (fun i _ => ((M : Int) - intOf i).toNat)
  case atStart => exact ⟨0, rfl, by omega, Grown.refl W, Lib.hid (fun i q h => absurd h (by omega))⟩
  case round =>
    obtain ⟨k, rfl, hk, g1, hall⟩ := hrel
    have c0 := grown_cell g1 h0
    rcases Nat.lt_or_eq_of_le hk with hkm | rfl
    · obtain ⟨⟨kk, x, n, a, l, s⟩, hq1, hq2⟩ := Pl.rev_at L k (by have := HM.out; omega)
      obtain ⟨g, cap', hv, hcap, d0, d1, d2, d3, d4, d5⟩ := (HS.out.fr (P := fun _ => False) (Fr.of_grown _ g1) (fun f => f) (fun _ _ f => f)).at _ _ hq2
      injection hv with q1 q2 q3
      subst q1
      clear q2 q3
      obtain ⟨J, hJ⟩ : ∃ J, J = L.length - 1 - k := ⟨_, rfl⟩
      rw [← hJ] at d0
      have e2 : (M : Int) - 1 - (k : Int) = (J : Int) := by have := HM.out; omega
      have e3 : (J : Int) < (M : Int) := by omega
      have e4 : (k : Int) < (M : Int) := by omega
      have HQ := Lib.hid hq1
      clear hq1 hq2 d1 d2 d3 d4 d5 hJ hcap
      go_wp2_with fail
      go_region
      go_wp2_with fail
      · rename_i hkk
        go_ret2
        refine ⟨?_, g1.drew⟩
        rw [Pl.toMark, Pl.fd_some L.reverse k _ HQ.out (by simpa using hkk) hall.out]
        rfl
      · rename_i hkk
        refine ⟨⟨k + 1, by simp, by omega, g1.drew, Lib.hid ?_⟩, by simp [intOf] <;> omega⟩
        intro i q hi hq
        rcases Nat.lt_succ_iff_lt_or_eq.1 hi with h | rfl
        · exact hall.out i q h hq
        · rw [HQ.out] at hq
          injection hq with hq
          rw [← hq]
          simpa using hkk
    · go_wp2_with fail
      go_ret2
      refine ⟨?_, g1⟩
      rw [Pl.toMark, Pl.fd_none L.reverse (fun i q hi hq => hall.out i q (by rw [List.length_reverse] at hi; have := HM.out; omega) hq)]
      rfl
theorem rpop_ok (base p : Nat) (v : Value) (L : List Pl.Ob) (k : Int) (x : Bool) (n a l : Int) (s : ByteArray) (hlen : L.length ≤ 299) (W : World) (hS : StkV base p v (L ++ [(k, x, n, a, l, s)]) W) :
    Calls Tryz.prog 84 #[.pointer (some ⟨p, 0, none⟩)] W fun e w' => e = .returned (.tuple #[obv k x n a l s, .int .i64 0]) ∧ (∃ v', StkV base p v' L w' ∧ v'.ownBlock = v.ownBlock) ∧ Fr (fun c => c = p) W w' := by
  have hl : (L ++ [(k, x, n, a, l, s)]).length = L.length + 1 := by simp
  obtain ⟨g, cap, rfl, hcap, d0, d1, d2, d3, d4, d5⟩ := hS.at L.length (k, x, n, a, l, s) (by simp)
  obtain ⟨h0, h1, hown, hne, hp⟩ := id hS
  have hg := own_lt hown g rfl
  rw [hl] at h0 hcap hown
  obtain ⟨M, hM⟩ : ∃ M, M = L.length := ⟨_, rfl⟩
  rw [← hM] at h0 hcap hown d0 d1 d2 d3 d4 d5 hlen
  have HM := Lib.hid hM
  have c0 : ∀ o t, (W.alloc (.cells o t)).cell? ⟨p, 0, none⟩ = some (.slice (some ⟨g, 0, none⟩) (M + 1) cap) := fun o t => by rw [World.cell?_alloc_past _ _ _ hp]; exact h0
  have b0 : ∀ o t, (W.alloc (.cells o t)).cell? ⟨g, M * 6, none⟩ = some (.int .i64 k) := fun o t => (World.cell?_alloc_past _ _ _ hg).trans d0
  have b1 : ∀ o t, (W.alloc (.cells o t)).cell? ⟨g, M * 6 + 1, none⟩ = some (.bool x) := fun o t => (World.cell?_alloc_past _ _ _ hg).trans d1
  have b2 : ∀ o t, (W.alloc (.cells o t)).cell? ⟨g, M * 6 + 2, none⟩ = some (.int .i64 n) := fun o t => (World.cell?_alloc_past _ _ _ hg).trans d2
  have b3 : ∀ o t, (W.alloc (.cells o t)).cell? ⟨g, M * 6 + 3, none⟩ = some (.int .i64 a) := fun o t => (World.cell?_alloc_past _ _ _ hg).trans d3
  have b4 : ∀ o t, (W.alloc (.cells o t)).cell? ⟨g, M * 6 + 4, none⟩ = some (.int .i64 l) := fun o t => (World.cell?_alloc_past _ _ _ hg).trans d4
  have b5 : ∀ o t, (W.alloc (.cells o t)).cell? ⟨g, M * 6 + 5, none⟩ = some (.string s) := fun o t => (World.cell?_alloc_past _ _ _ hg).trans d5
  have c1 : ∀ o t o2 t2, ((W.alloc (.cells o t)).alloc (.cells o2 t2)).cell? ⟨p, 0, none⟩ = some (.slice (some ⟨g, 0, none⟩) (M + 1) cap) := fun o t o2 t2 => by rw [World.cell?_alloc_past _ _ _ (by simp; omega)]; exact c0 o t
  have hpn : ¬ p = W.heap.size := by omega
  have hpn' : ¬ W.heap.size = p := by omega
  have hpm : ¬ p = W.heap.size + 1 := by omega
  have hpm' : ¬ W.heap.size + 1 = p := by omega
  have e0 : (((M + 1 : Nat) : Int) == 0) = false := beq_eq_false_iff_ne.2 (by omega)
  have e1 : ((M + 1 : Nat) : Int) - 1 = M := by omega
  have e2 : (M : Int) ≤ 299 := by omega
  have e3 : (0 : Int) ≤ M := by omega
  have e4 : (M : Int) ≤ (cap : Int) := by omega
  clear hM
  go_enter Tryz.func84, Tryz.ntmps84
  go_wp2_with fail
  refine bodyPost_ret (v := .tuple #[obv k x n a l s, .int .i64 0]) (by simp [results, Tryz.results84, go_sem]) rfl ?_
  have hgp : ¬ g = p := fun e => hne (by rw [e]; rfl)
  have key : ∀ Z : World, Fr (fun c => c = p) W Z → Z.cell? ⟨p, 0, none⟩ = some (.slice (some ⟨g, 0, none⟩) L.length cap) → Z.frozen? ⟨p, 0, none⟩ = false → (∃ v', StkV base p v' L Z ∧ v'.ownBlock = (Value.slice (some ⟨g, 0, none⟩) (L.length + 1) cap).ownBlock) ∧ Fr (fun c => c = p) W Z :=
    fun Z hFF hc hf => ⟨⟨.slice (some ⟨g, 0, none⟩) L.length cap, ⟨hc, hf, own_fr (own_shrink hown L.length (by have := HM.out; omega) _ (by simp [Pl.flat_append, Pl.flat_len])) hFF (fun g2 q h => hgp ((Option.some.inj q).trans h)), hne, Nat.lt_of_lt_of_le hp hFF.2.2.1⟩, rfl⟩, hFF⟩
  refine ⟨rfl, key _ ?_ ?_ ?_⟩
  · exact ((Fr.setCell (fun c => c = p) W ⟨p, 0, none⟩ _ rfl).trans (Fr.alloc _ _ _)).trans (Fr.alloc _ _ _)
  · rw [← HM.out, World.cell?_alloc_past _ _ _ (by simp; omega), World.cell?_alloc_past _ _ _ (by simp; omega)]
    exact World.cell?_setCell_same' _ _ _ (by rw [h0]; rfl)
  · rw [frozen?_alloc_cells, frozen?_alloc_cells]
    simpa using h1
theorem rpop_none (base p : Nat) (v : Value) (W : World) (hS : StkV base p v [] W) :
    Calls Tryz.prog 84 #[.pointer (some ⟨p, 0, none⟩)] W fun e w' => e = .returned (.tuple #[obv 0 false 0 0 0 ⟨#[]⟩, .int .i64 7]) ∧ Grown W w' := by
  obtain ⟨ao, cap, rfl⟩ := hS.slice
  obtain ⟨h0, h1, hown, hne, hp⟩ := id hS
  have h0 : W.cell? ⟨p, 0, none⟩ = some (.slice ao 0 cap) := h0
  have c0 : ∀ o t, (W.alloc (.cells o t)).cell? ⟨p, 0, none⟩ = some (.slice ao 0 cap) := fun o t => by rw [World.cell?_alloc_past _ _ _ hp]; exact h0
  clear hS hown hne
  go_enter Tryz.func84, Tryz.ntmps84
  go_wp2_with fail
  refine bodyPost_ret (v := .tuple #[obv 0 false 0 0 0 ⟨#[]⟩, .int .i64 7]) (by simp [results, Tryz.results84, go_sem]) rfl ⟨rfl, by (repeat (first | exact Grown.refl _ | assumption | apply Grown.drew | apply Grown.alloc | (refine Grown.setCell ?_ (by simp) _)))⟩
end Go.Proofs.YtfmmomdmemcbbaaGreat
namespace Go.Proofs.YtfmmomdmemcbbaaGreat
set_option linter.unusedVariables false
open Go.RowKit
theorem rbecome_bad (p : Nat) (v : Value) (L : List Pl.Ob) (hlen : L.length ≤ 300) (j : Nat) (o : Pl.Ob) (hj : L[j]? = some o) (ho : ¬ Pl.mayO o) (W : World) (hR : RowV W v L) :
    Calls Tryz.prog 8 #[.pointer (some ⟨p, 0, none⟩), v] W fun e w' => e = .returned (.int .i64 1) ∧ Grown W w' := by
  obtain ⟨ao, cap, rfl, -⟩ := id hR
  have HR := Lib.hid hR
  have hjl := (List.getElem?_eq_some_iff.1 hj).1
  obtain ⟨M, hM⟩ : ∃ M, M = L.length := ⟨_, rfl⟩
  have HM := Lib.hid hM
  have HJ := Lib.hid hj
  have HO := Lib.hid ho
  rw [← hM] at hlen hjl
  rw [← hM]
  clear hR hM hj ho
  go_enter Tryz.func8, Tryz.ntmps8
  go_wp2_with fail
  go_loopw [5] (fun i wr => ∃ k : Nat, i = .int .i64 (k : Int) ∧ k ≤ j ∧ Grown W wr) (fun i _ => ((M : Int) - intOf i).toNat)
  case atStart => exact ⟨0, rfl, by omega, Grown.refl W⟩
  case round =>
    obtain ⟨k, rfl, hk, g1⟩ := hrel
    obtain ⟨⟨kk, x, n, a, l, s⟩, hq⟩ : ∃ q, L[k]? = some q := ⟨_, List.getElem?_eq_getElem (by have := HM.out; omega)⟩
    obtain ⟨ga, oa, ca, hva, hga, a0, a1, a2, a3, a4, a5⟩ := (HR.out.grown g1).at k _ hq
    injection hva with q1 q2 q3
    subst q1
    clear q2 q3
    have HQ := Lib.hid hq
    clear hq
    have hkM : (k : Int) < (M : Int) := by omega
    by_cases hm : Pl.may kk n a l s
    · have CM := Lib.hid (fun W => rmay_any kk x n a l s true (by simp [hm]) W)
      have hkj : k < j := by
        rcases Nat.lt_or_ge k j with h | h
        · exact h
        · obtain rfl : k = j := by omega
          have := HQ.out
          rw [HJ.out] at this
          injection this with this
          exact absurd (by rw [this]; exact hm) HO.out
      clear hm
      go_wp2_with fail
      refine (CM.out _).mono ?_
      rintro e w1 ⟨rfl, g2⟩
      go_wp2_with fail
      exact ⟨⟨k + 1, by simp, by omega, grown_trans g1 g2⟩, by simp [intOf] <;> omega⟩
    · have CM := Lib.hid (fun W => rmay_any kk x n a l s false (by simp [hm]) W)
      clear hm
      go_wp2_with fail
      refine (CM.out _).mono ?_
      rintro e w1 ⟨rfl, g2⟩
      go_wp2_with fail
      go_ret
      exact ⟨rfl, grown_trans g1 g2⟩
theorem rbecome_over (base p : Nat) (v v0 : Value) (L : List Pl.Ob) (hlen : 200 < L.length ∧ L.length ≤ 400) (hall : ∀ (j : Nat) (o : Pl.Ob), L[j]? = some o → Pl.mayO o) (W : World) (hR : RowV W v L) (h0 : W.cell? ⟨p, 0, none⟩ = some v0) (h1 : W.frozen? ⟨p, 0, none⟩ = false) (hp : p < W.heap.size) (hb : base ≤ W.heap.size) :
    Calls Tryz.prog 8 #[.pointer (some ⟨p, 0, none⟩), v] W fun e w' => e = .returned (.int .i64 8) ∧ Grown W w' := by
  obtain ⟨i0, hi, hz0, hz1, hz2⟩ := info_parts Tryz.objInfo
  obtain ⟨ao, cap, rfl, -⟩ := id hR
  have HR := Lib.hid hR
  obtain ⟨M, hM⟩ : ∃ M, M = L.length := ⟨_, rfl⟩
  have HM := Lib.hid hM
  have HA := Lib.hid hall
  have HFL : Hid ((Pl.flat L).length = M * 6) := Lib.hid (by rw [Pl.flat_len, hM])
  have HF := Lib.hid (Pl.flat_one L)
  rw [← hM] at hlen
  rw [← hM]
  clear hR hM hall
  go_enter Tryz.func8, Tryz.ntmps8
  go_wp2_with fail
  go_loopw [5] (fun i wr => ∃ k : Nat, i = .int .i64 (k : Int) ∧ k ≤ M ∧ Grown W wr) (fun i _ => ((M : Int) - intOf i).toNat)
  case atStart => exact ⟨0, rfl, by omega, Grown.refl W⟩
  case round =>
    obtain ⟨k, rfl, hk, g1⟩ := hrel
    rcases Nat.lt_or_eq_of_le hk with hkm | hkm
    · obtain ⟨⟨kk, x, n, a, l, s⟩, hq⟩ : ∃ q, L[k]? = some q := ⟨_, List.getElem?_eq_getElem (by have := HM.out; omega)⟩
      obtain ⟨ga, oa, ca, hva, hga, a0, a1, a2, a3, a4, a5⟩ := (HR.out.grown g1).at k _ hq
      injection hva with q1 q2 q3
      subst q1
      clear q2 q3
      have CM := Lib.hid (fun W => rmay_any kk x n a l s true (by simp only [true_iff]; exact HA.out _ _ hq) W)
      clear hq
      have hkM : (k : Int) < (M : Int) := by omega
      go_wp2_with fail
      refine (CM.out _).mono ?_
      rintro e w1 ⟨rfl, g2⟩
      go_wp2_with fail
      exact ⟨⟨k + 1, by simp, by omega, grown_trans g1 g2⟩, by simp [intOf] <;> omega⟩
    · subst hkm
      have hsz := g1.2.2
      have f1 : wr.frozen? ⟨p, 0, none⟩ = false := by rw [g1.2.1]; exact h1
      have c1 := grown_cell g1 h0
      have HS1 := Lib.hid (HR.out.grown g1).src
      have hsz1 : W.heap.size ≤ wr.heap.size := hsz
      go_wp2_with fail
      go_ret
      exact ⟨rfl, g1⟩
theorem rbecome_ok (base p : Nat) (v v0 : Value) (L : List Pl.Ob) (hlen : L.length ≤ 200) (hall : ∀ (j : Nat) (o : Pl.Ob), L[j]? = some o → Pl.mayO o) (W : World) (hR : RowV W v L) (h0 : W.cell? ⟨p, 0, none⟩ = some v0) (h1 : W.frozen? ⟨p, 0, none⟩ = false) (hp : p < W.heap.size) (hb : base ≤ W.heap.size) :
    Calls Tryz.prog 8 #[.pointer (some ⟨p, 0, none⟩), v] W fun e w' => e = .returned (.int .i64 0) ∧
      (∃ v', StkV base p v' L w' ∧ ∀ g, v'.ownBlock = some g → W.heap.size ≤ g) ∧ Fr (fun c => c = p) W w' := by
  obtain ⟨i0, hi, hz0, hz1, hz2⟩ := info_parts Tryz.objInfo
  obtain ⟨ao, cap, rfl, -⟩ := id hR
  have HR := Lib.hid hR
  obtain ⟨M, hM⟩ : ∃ M, M = L.length := ⟨_, rfl⟩
  have HM := Lib.hid hM
  have HA := Lib.hid hall
  have HFL : Hid ((Pl.flat L).length = M * 6) := Lib.hid (by rw [Pl.flat_len, hM])
  have HF := Lib.hid (Pl.flat_one L)
  rw [← hM] at hlen
  rw [← hM]
  clear hR hM hall
  go_enter Tryz.func8, Tryz.ntmps8
  go_wp2_with fail
  go_loopw [5] (fun i wr => ∃ k : Nat, i = .int .i64 (k : Int) ∧ k ≤ M ∧ Grown W wr) (fun i _ => ((M : Int) - intOf i).toNat)
  case atStart => exact ⟨0, rfl, by omega, Grown.refl W⟩
  case round =>
    obtain ⟨k, rfl, hk, g1⟩ := hrel
    rcases Nat.lt_or_eq_of_le hk with hkm | hkm
    · obtain ⟨⟨kk, x, n, a, l, s⟩, hq⟩ : ∃ q, L[k]? = some q := ⟨_, List.getElem?_eq_getElem (by have := HM.out; omega)⟩
      obtain ⟨ga, oa, ca, hva, hga, a0, a1, a2, a3, a4, a5⟩ := (HR.out.grown g1).at k _ hq
      injection hva with q1 q2 q3
      subst q1
      clear q2 q3
      have CM := Lib.hid (fun W => rmay_any kk x n a l s true (by simp only [true_iff]; exact HA.out _ _ hq) W)
      clear hq
      have hkM : (k : Int) < (M : Int) := by omega
      go_wp2_with fail
      refine (CM.out _).mono ?_
      rintro e w1 ⟨rfl, g2⟩
      go_wp2_with fail
      exact ⟨⟨k + 1, by simp, by omega, grown_trans g1 g2⟩, by simp [intOf] <;> omega⟩
    · subst hkm
      have hsz := g1.2.2
      have f1 : wr.frozen? ⟨p, 0, none⟩ = false := by rw [g1.2.1]; exact h1
      have c1 := grown_cell g1 h0
      have HS1 := Lib.hid (HR.out.grown g1).src
      have hsz1 : W.heap.size ≤ wr.heap.size := hsz
      go_wp2_with (at_builtin; refine wpList_append_all _ base 22 25 i0 _ 6 56 Tryz.underlying22 hi hz0 hz1 hz2 rfl (by decide) (.slice none 0 0) 0 [] (World.ownsRow_nil _ _ _ _) ao k cap (Pl.flat L) (by rw [HM.out]; exact HS1.out.1) HFL.out HS1.out.2 HF.out (by unfold maxLen; omega) (by omega) (by omega) (hgd := rfl) (.const (.slice none 0 0)) (.tmp 22) rfl (by simp [Act.eval]) (by simp [Act.eval]) ?hnext)
      case hnext =>
        intro v' w' hown' hgr hbl
        obtain ⟨ao', cap', rfl⟩ := own_slice hown'
        have hne' : ∀ g, (Value.slice ao' k cap').ownBlock = some g → W.heap.size ≤ g := fun g q => (hbl g q).elim (fun h => by simp [Value.ownBlock] at h) (fun h => by omega)
        have Hown := Lib.hid hown'
        have Hgr := Lib.hid hgr
        have Hne := Lib.hid hne'
        have cp := Hgr.out.cell c1 (by simp [Value.ownBlock])
        have fp : w'.frozen? ⟨p, 0, none⟩ = false := (World.frozen?_of_block (a := ⟨p, 0, none⟩) (Hgr.out.block p (by omega) (by simp [Value.ownBlock]))).trans f1
        clear hown' hgr hbl hne'
        go_wp2_with fail
        go_ret
        have hF : Fr (fun c => c = p) W (w'.setCell ⟨p, 0, none⟩ (.slice ao' k cap')) :=
          ((Fr.of_grown _ g1).trans (Fr.grown _ Hgr.out (fun k q => (by simp [Value.ownBlock] at q)))).trans (Fr.setCell _ _ _ _ rfl)
        refine ⟨rfl, ⟨.slice ao' k cap', ⟨World.cell?_setCell_same' _ _ _ (by rw [cp]; rfl), by simpa using fp, ?_, fun q => by have := Hne.out p q; omega, Nat.lt_of_lt_of_le hp hF.2.2.1⟩, fun g q => Hne.out g q⟩, hF⟩
        have h := Hown.out
        rw [← HM.out]
        exact own_fr (P := fun c => c = p) h (Fr.setCell _ _ _ _ rfl) (fun g q h => by have := Hne.out g q; omega)
end Go.Proofs.YtfmmomdmemcbbaaGreat
namespace Go.Proofs.YtfmmomdmemcbbaaGreat
set_option linter.unusedVariables false
open Go.RowKit
end Go.Proofs.YtfmmomdmemcbbaaGreat
namespace Go.Proofs.YtfmmomdmemcbbaaGreat
set_option linter.unusedVariables false
open Go.RowKit
end Go.Proofs.YtfmmomdmemcbbaaGreat
