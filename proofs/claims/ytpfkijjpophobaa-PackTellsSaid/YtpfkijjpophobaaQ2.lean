/- The reference's MulDiv of small numbers from 0 on; its Mag. -/
import Derived.Test.YtpfkijjpophobaaQ1
import Derived.Test.YtpfkijjpophobaaPlWide
import Derived.Test.YtpfkijjpophobaaPlBits
namespace Go.Proofs.Ytpfkijjpophobaa
set_option linter.unusedVariables false
open Go.RowKit

theorem mag1_any (v : Int) (hv : -9223372036854775808 ≤ v ∧ v ≤ 9223372036854775807) (w : World) :
    Calls Try.prog 46 #[.int .i64 v] w fun e w' => e = .returned (.int .u64 (v.natAbs : Int)) ∧ w = w' := by
  by_cases h : v < 0
  · go_enter Try.func46, Try.ntmps46
    go_wp2
    go_ret
    exact ⟨ret_int (by omega), rfl⟩
  · go_enter Try.func46, Try.ntmps46
    go_wp2
    go_ret
    exact ⟨ret_int (by omega), rfl⟩
theorem Pl.mul64_parts (a b w1 w2 : Int) (h1 : w1 = (a / 4294967296) * (b % 4294967296) + (a % 4294967296) * (b % 4294967296) / 4294967296)
    (h2 : w2 = w1 % 4294967296 + (a % 4294967296) * (b / 4294967296)) :
    (a / 4294967296) * (b / 4294967296) + w1 / 4294967296 + w2 / 4294967296 = a * b / 18446744073709551616 := by
  have := (Pl.prod_parts a b _ rfl).1
  rw [← this]
  generalize (a / 4294967296) * (b / 4294967296) = p3 at *
  generalize (a / 4294967296) * (b % 4294967296) = p1 at *
  generalize (a % 4294967296) * (b / 4294967296) = p2 at *
  generalize (a % 4294967296) * (b % 4294967296) = p0 at *
  omega

theorem mul64_any (a b : Int) (ha : 0 ≤ a ∧ a ≤ 18446744073709551615) (hb : 0 ≤ b ∧ b ≤ 18446744073709551615) (w : World) :
    Calls Try.prog 75 #[.int .u64 a, .int .u64 b] w fun e w' => e = .returned (.tuple #[.int .u64 (a * b / 18446744073709551616), .int .u64 (a * b % 18446744073709551616)]) ∧ w = w' := by
  have p0 := Pl.mul_lt32 (a % 4294967296) (b % 4294967296) (by omega) (by omega) (by omega) (by omega)
  have p1 := Pl.mul_lt32 (a / 4294967296) (b % 4294967296) (by omega) (by omega) (by omega) (by omega)
  have p2 := Pl.mul_lt32 (a % 4294967296) (b / 4294967296) (by omega) (by omega) (by omega) (by omega)
  have p3 := Pl.mul_lt32 (a / 4294967296) (b / 4294967296) (by omega) (by omega) (by omega) (by omega)
  go_enter Try.func75, Try.ntmps75
  go_wp2
  go_ret2
  refine ⟨ret2_int ?_ ?_, rfl⟩
  · exact Pl.mul64_parts a b _ _ rfl rfl
  · rw [IntKind.wrap_u64]

theorem div64_small (lo y : Int) (h1 : 0 < y) (y1 : y ≤ 18446744073709551615) (l0 : 0 ≤ lo) (l1 : lo ≤ 18446744073709551615) (w : World) :
    Calls Try.prog 76 #[.int .u64 0, .int .u64 lo, .int .u64 y] w fun e w' => e = .returned (.tuple #[.int .u64 (lo / y), .int .u64 (lo % y)]) ∧ Grown w w' := by
  have q0 : 0 ≤ lo / y := Int.ediv_nonneg l0 (by omega)
  have q1 : lo / y ≤ lo := Int.ediv_le_self _ l0
  have e1 : lo.tdiv y = lo / y := Int.tdiv_eq_ediv_of_nonneg l0
  have e2 : lo.tmod y = lo % y := Int.tmod_eq_emod_of_nonneg l0
  have n0 : (y == 0) = false := by rw [beq_eq_false_iff_ne]; omega
  have m0 := Int.emod_nonneg lo (show y ≠ 0 by omega)
  have m1 := Int.emod_lt_of_pos lo h1
  have w1 : IntKind.u64.wrap (lo / y) = lo / y := by rw [IntKind.wrap_u64]; omega
  have w2 : IntKind.u64.wrap (lo % y) = lo % y := by rw [IntKind.wrap_u64]; omega
  go_enter Try.func76, Try.ntmps76
  go_wp2_with fail
  go_region
  go_wp2
  go_ret2
  exact ⟨rfl, by (repeat (first | exact Grown.refl _ | assumption | apply Grown.drew | apply Grown.alloc))⟩
theorem signedr_pos (q : Int) (q0 : 0 ≤ q) (h : q ≤ 9223372036854775807) (w : World) :
    Calls Try.prog 68 #[.int .u64 q, .bool false] w fun e w' => e = .returned (.tuple #[.int .i64 q, .bool true]) ∧ w = w' := by
  by_cases hz : q = 0
  · subst hz
    go_enter Try.func68, Try.ntmps68
    go_wp2
    go_ret2
    exact ⟨rfl, rfl⟩
  have z : (q == 0) = false := beq_eq_false_iff_ne.2 hz
  go_enter Try.func68, Try.ntmps68
  go_wp2
  go_ret2
  exact ⟨rfl, rfl⟩

theorem share_small (a b d P : Int) (ha : 0 ≤ a ∧ a ≤ 4611686018427387904) (hb : 0 ≤ b ∧ b ≤ 4611686018427387904) (hd : 1 ≤ d ∧ d ≤ 4611686018427387904) (hP : a * b = P) (hP1 : P ≤ 4611686018427387904) (w : World) :
    Calls Try.prog 67 #[.int .i64 a, .int .i64 b, .int .i64 d] w fun e w' => e = .returned (.tuple #[.int .u64 (P / d), .int .u64 (P % d), .bool false, .bool true]) ∧ Grown w w' := by
  have P0 : 0 ≤ P := by rw [← hP]; exact Int.mul_nonneg ha.1 hb.1
  have M := fun w => mul64_any a b ⟨ha.1, by omega⟩ ⟨hb.1, by omega⟩ w
  rw [hP, show P / 18446744073709551616 = 0 by omega, show P % 18446744073709551616 = P by omega] at M
  have V := fun w => div64_small P d (by omega) (by omega) P0 (by omega) w
  have M := Lib.hid M
  have V := Lib.hid V
  have A := mag1_any a (by omega)
  rw [show ((a.natAbs : Nat) : Int) = a by omega] at A
  have A := Lib.hid A
  have B := mag1_any b (by omega)
  rw [show ((b.natAbs : Nat) : Int) = b by omega] at B
  have B := Lib.hid B
  have C := mag1_any d (by omega)
  rw [show ((d.natAbs : Nat) : Int) = d by omega] at C
  have C := Lib.hid C
  have d0 : decide (d ≤ 0) = false := decide_eq_false (by omega)
  have sa : decide (a < 0) = false := decide_eq_false (by omega)
  have sb : decide (b < 0) = false := decide_eq_false (by omega)
  have sd : decide (d < 0) = false := decide_eq_false (by omega)
  clear ha hb hd hP P0 hP1
  go_enter Try.func67, Try.ntmps67
  go_wp2_with fail
  refine (A.out _).mono ?_
  rintro e w1 ⟨rfl, rfl⟩
  go_wp2_with fail
  refine (B.out _).mono ?_
  rintro e w1 ⟨rfl, rfl⟩
  go_wp2_with fail
  refine (M.out _).mono ?_
  rintro e w1 ⟨rfl, rfl⟩
  go_wp2_with fail
  refine (C.out _).mono ?_
  rintro e w1 ⟨rfl, rfl⟩
  go_wp2_with fail
  refine (V.out _).mono ?_
  rintro e w1 ⟨rfl, g1⟩
  go_wp2
  refine bodyPost_ret (v := .tuple #[.int .u64 (P / d), .int .u64 (P % d), .bool false, .bool true]) (by simp [results, Try.results67, go_sem]) rfl ⟨rfl, g1⟩
set_option maxRecDepth 100000 in
theorem muldiv_small (a b d P : Int) (ha : 0 ≤ a ∧ a ≤ 4611686018427387904) (hb : 0 ≤ b ∧ b ≤ 4611686018427387904) (hd : 1 ≤ d ∧ d ≤ 4611686018427387904) (hP : a * b = P) (hP1 : P ≤ 4611686018427387904) (w : World) :
    Calls Try.prog 48 #[.int .i64 a, .int .i64 b, .int .i64 d] w fun e w' => e = .returned (.tuple #[.int .i64 (Pl.nst P d), .bool true]) ∧ Grown w w' := by
  have P0 : 0 ≤ P := by rw [← hP]; exact Int.mul_nonneg ha.1 hb.1
  have S := Lib.hid (fun w => share_small a b d P ha hb hd hP hP1 w)
  have C := mag1_any d (by omega)
  rw [show ((d.natAbs : Nat) : Int) = d by omega] at C
  have C := Lib.hid C
  have r0 := Int.emod_nonneg P (show d ≠ 0 by omega)
  have r1 := Int.emod_lt_of_pos P (show 0 < d by omega)
  have q0 : 0 ≤ P / d := Int.ediv_nonneg P0 (by omega)
  have q1 : P / d ≤ P := Int.ediv_le_self d P0
  have hN : Hid (Pl.nst P d = if P % d > d - P % d ∨ (P % d = d - P % d ∧ (P / d) % 2 = 1) then P / d + 1 else P / d) := Lib.hid rfl
  obtain ⟨q, hqq⟩ : ∃ q, q = P / d := ⟨_, rfl⟩
  obtain ⟨r, hrr⟩ : ∃ r, r = P % d := ⟨_, rfl⟩
  rw [← hqq, ← hrr] at hN S
  rw [← hqq] at q0 q1
  rw [← hrr] at r0 r1
  obtain ⟨l, hl⟩ : ∃ l, l = d - r := ⟨_, rfl⟩
  rw [← hl] at hN
  have hle : d - r = l := hl.symm
  have l0 : 1 ≤ l := by omega
  have l1 : l ≤ 4611686018427387904 := by omega
  have G0 := Lib.hid (fun w => signedr_pos q q0 (by omega) w)
  have G1 := Lib.hid (fun w => signedr_pos (q + 1) (by omega) (by omega) w)
  obtain ⟨hd0, hd1⟩ := hd
  have q3 : q ≤ 4611686018427387904 := by omega
  have hmax : (q == 18446744073709551615) = false := beq_eq_false_iff_ne.2 (by omega)
  clear hqq hrr hl hP ha hb
  by_cases hup : r > l ∨ (r = l ∧ q % 2 = 1)
  · have hN2 : Hid (Pl.nst P d = q + 1) := Lib.hid (by rw [hN.out, if_pos hup])
    clear hN
    have hc : (r > l ∧ ¬ r = l) ∨ (r = l ∧ q % 2 = 1) := by omega
    clear hup
    rcases hc with ⟨h, h'⟩ | ⟨h, h'⟩
    rotate_left
    subst h
    all_goals
      go_enter Try.func48, Try.ntmps48
      go_wp2_with fail
      refine (S.out _).mono ?_
      rintro e w1 ⟨rfl, g1⟩
      go_wp2_with fail
      refine (C.out _).mono ?_
      rintro e w2 ⟨rfl, rfl⟩
      go_wp2_with fail
      refine (G1.out _).mono ?_
      rintro e w3 ⟨rfl, rfl⟩
      go_wp2_with fail
      go_ret2
      exact ⟨by rw [hN2.out]; rfl, g1⟩
  · have hN2 : Hid (Pl.nst P d = q) := Lib.hid (by rw [hN.out, if_neg hup])
    clear hN
    have hc : (r < l ∧ ¬ r = l) ∨ (r = l ∧ q % 2 = 0) := by omega
    clear hup
    rcases hc with ⟨h, h'⟩ | ⟨h, h'⟩
    rotate_left
    subst h
    all_goals
      go_enter Try.func48, Try.ntmps48
      go_wp2_with fail
      refine (S.out _).mono ?_
      rintro e w1 ⟨rfl, g1⟩
      go_wp2_with fail
      refine (C.out _).mono ?_
      rintro e w2 ⟨rfl, rfl⟩
      go_wp2_with fail
      refine (G0.out _).mono ?_
      rintro e w3 ⟨rfl, rfl⟩
      go_wp2_with fail
      go_ret2
      exact ⟨by rw [hN2.out]; rfl, g1⟩
set_option maxRecDepth 100000 in
theorem rint_any (v : Int) (hv : -9223372036854775808 ≤ v ∧ v ≤ 9223372036854775807) (W : World) :
    Calls Try.prog 20 #[.int .i64 v] W fun e w' => e = .returned (.string ⟨(Pl.intText v).toArray⟩) ∧ Grown W w' := by
  obtain ⟨h0, h1⟩ := hv
  by_cases hn : v < 0
  · have CM := Lib.hid (fun Z => mag1_any v ⟨h0, h1⟩ Z)
    have CP := Lib.hid (fun Z => positive6 v.natAbs (by omega) Z)
    have HT : Hid (Pl.intText v = [45] ++ Pl.dec v.natAbs) := Lib.hid (by unfold Pl.intText; rw [if_pos hn])
    have hl := Pl.dec_len v.natAbs
    obtain ⟨D, hD⟩ : ∃ D : ByteArray, D = ⟨(Pl.dec v.natAbs).toArray⟩ := ⟨_, rfl⟩
    rw [← hD] at CP
    have hDs : D.size ≤ 20 := by rw [hD]; simpa [ByteArray.size] using hl
    have HD := Lib.hid hD
    obtain ⟨n, hN⟩ : ∃ n : Nat, n = v.natAbs := ⟨_, rfl⟩
    rw [← hN] at CM CP
    have hsz : ¬ (9223372036854775807 < (ByteArray.mk #[45]).size + D.size) := by rw [show (ByteArray.mk #[45]).size = 1 from rfl]; omega
    clear hD hl hN
    go_enter Try.func20, Try.ntmps20
    go_wp2_with fail
    refine (CM.out _).mono ?_
    rintro e w1 ⟨rfl, rfl⟩
    go_wp2_with fail
    refine (CP.out _).mono ?_
    rintro e w2 ⟨rfl, g2⟩
    go_wp2_with fail
    go_ret
    refine ⟨?_, g2⟩
    show Ending.returned (.string (ByteArray.mk #[45] ++ D)) = _
    rw [HT.out, HD.out, show (ByteArray.mk #[45] : ByteArray) = ByteArray.mk ([45] : List UInt8).toArray from rfl, ByteArray.mk_append_mk]
  · obtain ⟨n, hN⟩ : ∃ n : Nat, v = (n : Int) := ⟨v.natAbs, by omega⟩
    subst hN
    have CP := Lib.hid (fun Z => positive6 n (by omega) Z)
    go_enter Try.func20, Try.ntmps20
    go_wp2_with fail
    refine (CP.out _).mono ?_
    rintro e w2 ⟨rfl, g2⟩
    go_wp2_with fail
    go_ret
    refine ⟨?_, g2⟩
    unfold Pl.intText
    rw [if_neg (by omega), List.nil_append, Int.natAbs_natCast]
    rfl
end Go.Proofs.Ytpfkijjpophobaa
