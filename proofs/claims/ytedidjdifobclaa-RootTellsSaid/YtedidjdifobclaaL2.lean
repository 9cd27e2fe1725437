/- The walks of the laws of layer 2 (roots) that have no reference. -/
import Derived.Test.YtedidjdifobclaaW7
import Derived.Test.YtedidjdifobclaaPlLaw1
namespace Go.Proofs.Ytedidjdifobclaa
set_option linter.unusedVariables false
open Go.RowKit

theorem known2 (w : World) : Calls Try.prog 37 #[] w fun e w' => e = .returned (.bool true) ∧ Grown w w' := by
  go_enter Try.func37, Try.ntmps37
  go_wp2_with fail
  refine (rsign_ok (-3) 2 2 (by omega) (by unfold Pl.okq; omega) _).mono ?_
  rintro e w1 ⟨rfl, g1⟩
  rw [show Pl.rsign (-3) 2 2 = -1 from by decide +kernel]
  go_wp2_with fail
  refine (cut_ok 0 (-1) 2 1 (by unfold Pl.okc Pl.okq; omega) _).mono ?_
  rintro e w2 ⟨rfl, g2⟩
  rw [show (0 + Pl.srt (Pl.ss (-1) * 2)) / 1 = -2 from by decide +kernel]
  go_wp2_with fail
  refine (root_floor 8 (by omega) _).mono ?_
  rintro e w3 ⟨rfl, rfl⟩
  rw [show Pl.root 8 = 2 from by decide +kernel]
  go_wp2_with fail
  refine (root_ceil 8 (by omega) _).mono ?_
  rintro e w3 ⟨rfl, rfl⟩
  rw [show Pl.ceilr 8 = 3 from by decide +kernel]
  go_wp2
  go_ret
  exact ⟨rfl, grown_trans g1 g2⟩

theorem bdu64 {v : Int} (h : (Lit.int .u64 v).wf = true) : 0 ≤ v ∧ v ≤ 18446744073709551615 := by
  simp [Lit.wf, IntKind.min, IntKind.max, IntKind.signed, IntKind.bits] at h
  omega

theorem squares_core (n r : Int) (hn : 0 ≤ n ∧ n ≤ 18446744073709551615) (hr : Hid (Pl.root n = r)) (w : World) :
    Calls Try.prog 9 #[.int .u64 n] w fun e w' => e = .returned (.bool true) ∧ Grown w w' := by
  have hs := Pl.root_spec n hn.1 (by omega)
  rw [hr.out] at hs
  obtain ⟨r0, r1, r2, r3⟩ := hs
  have hq := Pl.sq_le32 r r0 r1
  have hc : Pl.ceilr n = if r * r < n then r + 1 else r := by unfold Pl.ceilr; rw [hr.out]
  obtain ⟨x, hx⟩ : ∃ x, r * r = x := ⟨_, rfl⟩
  have hx1 : (r + 1) * (r + 1) = x + 2 * r + 1 := by rw [Int.add_mul, Int.mul_add, hx]; omega
  rw [hx1] at r3
  rw [hx] at r2 hq hc
  have CF := Lib.hid (fun w => root_floor n hn w)
  have CC := Lib.hid (fun w => root_ceil n hn w)
  rw [hr.out] at CF
  rw [hc] at CC
  clear hc
  have c4 : (r + 1 == r + 1) = true := by simp
  have c5 : (r == r) = true := by simp
  by_cases c2 : x < n
  · rw [if_pos c2] at CC
    have c3 : (x == n) = false := beq_eq_false_iff_ne.2 (by omega)
    by_cases c1 : r < 4294967295
    all_goals
      go_enter Try.func9, Try.ntmps9
      go_wp2_with fail
      refine (known2 _).mono ?_
      rintro e w1 ⟨rfl, g1⟩
      go_wp2_with fail
      refine (CF.out _).mono ?_
      rintro e w2 ⟨rfl, rfl⟩
      go_wp2_with fail
      refine (CC.out _).mono ?_
      rintro e w2 ⟨rfl, rfl⟩
      go_wp2_with fail
      go_ret
      exact ⟨rfl, g1⟩
  · rw [if_neg c2] at CC
    have c3 : (x == n) = true := beq_iff_eq.2 (by omega)
    by_cases c1 : r < 4294967295
    all_goals
      go_enter Try.func9, Try.ntmps9
      go_wp2_with fail
      refine (known2 _).mono ?_
      rintro e w1 ⟨rfl, g1⟩
      go_wp2_with fail
      refine (CF.out _).mono ?_
      rintro e w2 ⟨rfl, rfl⟩
      go_wp2_with fail
      refine (CC.out _).mono ?_
      rintro e w2 ⟨rfl, rfl⟩
      go_wp2_with fail
      go_ret
      exact ⟨rfl, g1⟩

theorem walk_RootSquares (n : Int) (w0 : (Lit.int .u64 n).wf = true) (w : World) :
    Calls Try.prog 9 #[.int .u64 n] w fun e w' => e = .returned (.bool true) ∧ Grown w w' :=
  squares_core n _ (bdu64 w0) (Lib.hid rfl) w

theorem bd32' {v : Int} (h : (Lit.int .i32 v).wf = true) : -2147483648 ≤ v ∧ v ≤ 2147483647 := by
  simp [Lit.wf, IntKind.min, IntKind.max, IntKind.signed, IntKind.bits] at h
  omega
theorem bd64' {v : Int} (h : (Lit.int .i64 v).wf = true) : -9223372036854775808 ≤ v ∧ v ≤ 9223372036854775807 := by
  simp [Lit.wf, IntKind.min, IntKind.max, IntKind.signed, IntKind.bits] at h
  omega
theorem bdu32' {v : Int} (h : (Lit.int .u32 v).wf = true) : 0 ≤ v ∧ v ≤ 4294967295 := by
  simp [Lit.wf, IntKind.min, IntKind.max, IntKind.signed, IntKind.bits] at h
  omega
theorem bdu16' {v : Int} (h : (Lit.int .u16 v).wf = true) : 0 ≤ v ∧ v ≤ 65535 := by
  simp [Lit.wf, IntKind.min, IntKind.max, IntKind.signed, IntKind.bits] at h
  omega
theorem bd16' {v : Int} (h : (Lit.int .i16 v).wf = true) : -32768 ≤ v ∧ v ≤ 32767 := by
  simp [Lit.wf, IntKind.min, IntKind.max, IntKind.signed, IntKind.bits] at h
  omega
theorem bd8' {v : Int} (h : (Lit.int .i8 v).wf = true) : -128 ≤ v ∧ v ≤ 127 := by
  simp [Lit.wf, IntKind.min, IntKind.max, IntKind.signed, IntKind.bits] at h
  omega

/-- RootFlips: a is what is left of p by 2^61 -/
theorem flips_core (p q d less a n s : Int) (ha : -2305843009213693952 < a ∧ a < 2305843009213693952) (hq : -2147483648 ≤ q ∧ q ≤ 2147483647) (hd : -2147483648 ≤ d ∧ d ≤ 2147483647) (hl : 0 ≤ less ∧ less ≤ 4294967295)
    (hp : -9223372036854775808 ≤ p ∧ p ≤ 9223372036854775807)
    (hae : p.tmod 2305843009213693952 = a) (hn0 : 0 ≤ d → n = d) (hn1 : d < 0 → n = -(d + 1)) (hs : Hid (Pl.rsign a q n = s)) (w : World) :
    Calls Try.prog 11 #[.int .i64 p, .int .i32 q, .int .i32 d, .int .u32 less] w fun e w' => e = .returned (.bool true) ∧ Grown w w' := by
  have hn : 0 ≤ n ∧ n ≤ 2147483647 := by by_cases c : 0 ≤ d; (have := hn0 c; omega); (have := hn1 (by omega); omega)
  have e2 : Pl.rsign (-a) (-q) n = -s := by
    rw [← hs.out]; unfold Pl.rsign; rw [Pl.ss_flip, Pl.ss_flip, ← Pl.sg_neg]
    congr 1; rw [Int.neg_mul]; omega
  have e3 : Pl.rsign (a - less) q n ≤ s := by
    rw [← hs.out]; unfold Pl.rsign
    apply Pl.sg_mono
    have := Pl.ss_le (a := a - less) (b := a) (by omega)
    omega
  have hb := Pl.rsign_bd a q n
  rw [hs.out] at hb
  obtain ⟨u, hu⟩ : ∃ u, Pl.rsign (a - less) q n = u := ⟨_, rfl⟩
  rw [hu] at e3
  have C1 := Lib.hid (fun w => rsign_ok a q n (by omega) (by unfold Pl.okq; omega) w)
  have C2 := Lib.hid (fun w => rsign_ok (-a) (-q) n (by omega) (by unfold Pl.okq; omega) w)
  have C3 := Lib.hid (fun w => rsign_ok (a - less) q n (by omega) (by unfold Pl.okq; omega) w)
  rw [hs.out] at C1
  rw [e2] at C2
  rw [hu] at C3
  have hss : (s == - -s) = true := by simp
  have hss' : (s == s) = true := by simp
  clear hu e2
  by_cases c : d < 0
  · have hn' := hn1 c
    have hx : -(d + 1) = n := hn'.symm
    clear hn0 hn1 hn'
    go_enter Try.func11, Try.ntmps11
    go_wp2_with fail
    refine (known2 _).mono ?_
    rintro e w1 ⟨rfl, g1⟩
    go_wp2_with fail
    refine (C1.out _).mono ?_
    rintro e w2 ⟨rfl, g2⟩
    go_wp2_with fail
    refine (C2.out _).mono ?_
    rintro e w3 ⟨rfl, g3⟩
    go_wp2_with fail
    refine (C3.out _).mono ?_
    rintro e w4 ⟨rfl, g4⟩
    go_wp2_with fail
    go_ret
    exact ⟨rfl, grown_trans g1 (grown_trans g2 (grown_trans g3 g4))⟩
  · have hn' := hn0 (by omega)
    subst hn'
    clear hn0 hn1
    go_enter Try.func11, Try.ntmps11
    go_wp2_with fail
    refine (known2 _).mono ?_
    rintro e w1 ⟨rfl, g1⟩
    go_wp2_with fail
    refine (C1.out _).mono ?_
    rintro e w2 ⟨rfl, g2⟩
    go_wp2_with fail
    refine (C2.out _).mono ?_
    rintro e w3 ⟨rfl, g3⟩
    go_wp2_with fail
    refine (C3.out _).mono ?_
    rintro e w4 ⟨rfl, g4⟩
    go_wp2_with fail
    go_ret
    exact ⟨rfl, grown_trans g1 (grown_trans g2 (grown_trans g3 g4))⟩

theorem walk_RootFlips (p q d less : Int) (w0 : (Lit.int .i64 p).wf = true) (w1 : (Lit.int .i32 q).wf = true) (w2 : (Lit.int .i32 d).wf = true) (w3 : (Lit.int .u32 less).wf = true) (w : World) :
    Calls Try.prog 11 #[.int .i64 p, .int .i32 q, .int .i32 d, .int .u32 less] w fun e w' => e = .returned (.bool true) ∧ Grown w w' := by
  have ha := Pl.tmod_bd p 2305843009213693952 (by omega)
  exact flips_core p q d less (p.tmod 2305843009213693952) (if d < 0 then -(d + 1) else d) _ ha (bd32' w1) (bd32' w2) (bdu32' w3) (bd64' w0) rfl (fun h => by rw [if_neg (by omega)]) (fun h => by rw [if_pos h]) (Lib.hid rfl) w
end Go.Proofs.Ytedidjdifobclaa
