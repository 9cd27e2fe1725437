/- The walk of tympanlaw15.OpNames. -/
import Derived.Test.YtenmbkngkabonaaP6
namespace Go.Proofs.Ytenmbkngkabonaa
set_option linter.unusedVariables false
open Go.RowKit

theorem known15 (w : World) : Calls Try.prog 15 #[] w fun e w' => e = .returned (.bool true) ∧ Grown w w' := by
  obtain ⟨k1, k2, k3, k4⟩ := opT_known
  have A := fun w => number_any _ Pl.opT_is ⟨#[97, 100, 100]⟩ w
  have B := fun w => name_any _ Pl.opT_is 1 w
  have C := fun w => family_any _ Pl.opT_is 11 w
  rw [k1, k2] at A
  rw [k3] at B
  rw [k4] at C
  have A := Lib.hid A
  have B := Lib.hid B
  have C := Lib.hid C
  clear k1 k2 k3 k4
  go_enter Try.func15, Try.ntmps15
  go_wp2_with fail
  refine (A.out _).mono ?_
  rintro e w1 ⟨rfl, g1⟩
  go_wp2_with fail
  refine (B.out _).mono ?_
  rintro e w2 ⟨rfl, g2⟩
  go_wp2_with fail
  refine (C.out _).mono ?_
  rintro e w3 ⟨rfl, g3⟩
  go_wp2_with fail
  go_ret
  exact ⟨rfl, grown_trans g1 (grown_trans g2 g3)⟩

set_option maxHeartbeats 1000000 in
set_option maxRecDepth 100000 in
theorem names_core (a b A B x y p q : Int) (X P Q : ByteArray) (fp fq v0 : Int) (c : Bool) (a0 : 0 ≤ a) (a1 : a ≤ 255) (b0 : 0 ≤ b) (b1 : b ≤ 255)
    (hA : a.tmod 162 = A) (A0 : 0 ≤ A) (A1 : A ≤ 161) (hB : b.tmod 162 = B) (B0 : 0 ≤ B) (B1 : B ≤ 161) (hx : 1 + A = x) (hy : 1 + B = y) (x0 : 1 ≤ x) (x1 : x ≤ 162) (y0 : 1 ≤ y) (y1 : y ≤ 162)
    (hpq : (x ≤ y ∧ p = x ∧ q = y) ∨ (y < x ∧ p = y ∧ q = x))
    (NX : Hid (∀ w, Calls Try.prog 20 #[.int .i64 x] w fun e w' => e = .returned (.string X) ∧ Grown w w'))
    (UX : Hid (∀ w, Calls Try.prog 16 #[.string X] w fun e w' => e = .returned (.tuple #[.int .i64 x, .bool true]) ∧ Grown w w'))
    (UE : Hid (∀ w, Calls Try.prog 16 #[.string ⟨#[]⟩] w fun e w' => e = .returned (.tuple #[.int .i64 v0, .bool false]) ∧ Grown w w'))
    (NP : Hid (∀ w, Calls Try.prog 20 #[.int .i64 p] w fun e w' => e = .returned (.string P) ∧ Grown w w'))
    (NQ : Hid (∀ w, Calls Try.prog 20 #[.int .i64 q] w fun e w' => e = .returned (.string Q) ∧ Grown w w'))
    (FP : Hid (∀ w, Calls Try.prog 22 #[.int .i64 p] w fun e w' => e = .returned (.int .i64 fp) ∧ Grown w w'))
    (FQ : Hid (∀ w, Calls Try.prog 22 #[.int .i64 q] w fun e w' => e = .returned (.int .i64 fq) ∧ Grown w w'))
    (N0 : Hid (∀ w, Calls Try.prog 20 #[.int .i64 0] w fun e w' => e = .returned (.string ⟨#[]⟩) ∧ Grown w w'))
    (NE : Hid (∀ w, Calls Try.prog 20 #[.int .i64 163] w fun e w' => e = .returned (.string ⟨#[]⟩) ∧ Grown w w'))
    (FE : Hid (∀ w, Calls Try.prog 22 #[.int .i64 163] w fun e w' => e = .returned (.int .i64 0) ∧ Grown w w'))
    (hP1 : (P.toList == []) = false) (hP2 : P.toList.isEmpty = false) (hP3 : ¬ P.toList = []) (hc : (P.toList == Q.toList) = c) (hc2 : (p == q) = c) (f0 : 1 ≤ fp) (f1 : fp ≤ fq) (f2 : fq ≤ 6) (w : World) :
    Calls Try.prog 4 #[.int .u8 a, .int .u8 b] w fun e w' => e = .returned (.bool true) ∧ Grown w w' := by
  rcases hpq with ⟨hxy, rfl, rfl⟩ | ⟨hxy, rfl, rfl⟩
  all_goals
    go_enter Try.func4, Try.ntmps4
    go_wp2_with fail
    refine (known15 _).mono ?_
    rintro e w1 ⟨rfl, g1⟩
    go_wp2_with fail
    refine (count_any _).mono ?_
    rintro e w2 ⟨rfl, g2⟩
    go_wp2_with fail
    go_region
    go_wp2_with fail
    refine (NX.out _).mono ?_
    rintro e w3 ⟨rfl, g3⟩
    go_wp2_with fail
    refine (UX.out _).mono ?_
    rintro e w4 ⟨rfl, g4⟩
    go_wp2_with fail
    refine (UE.out _).mono ?_
    rintro e w5 ⟨rfl, g5⟩
    go_wp2_with fail
    refine (NP.out _).mono ?_
    rintro e w6 ⟨rfl, g6⟩
    go_wp2_with fail
    refine (NP.out _).mono ?_
    rintro e w7 ⟨rfl, g7⟩
    go_wp2_with fail
    refine (NQ.out _).mono ?_
    rintro e w8 ⟨rfl, g8⟩
    go_wp2_with fail
    refine (FP.out _).mono ?_
    rintro e w9 ⟨rfl, g9⟩
    go_wp2_with fail
    refine (FQ.out _).mono ?_
    rintro e w10 ⟨rfl, g10⟩
    go_wp2_with fail
    refine (FP.out _).mono ?_
    rintro e w11 ⟨rfl, g11⟩
    go_wp2_with fail
    refine (FQ.out _).mono ?_
    rintro e w12 ⟨rfl, g12⟩
    go_wp2_with fail
    refine (N0.out _).mono ?_
    rintro e w13 ⟨rfl, g13⟩
    go_wp2_with fail
    refine (NE.out _).mono ?_
    rintro e w14 ⟨rfl, g14⟩
    go_wp2_with fail
    refine (FE.out _).mono ?_
    rintro e w15 ⟨rfl, g15⟩
    go_wp2_with fail
    go_ret
    exact ⟨rfl, grown_trans g1 (grown_trans g2 (grown_trans (Grown.drew g3) (grown_trans g4 (grown_trans g5 (grown_trans g6 (grown_trans g7 (grown_trans g8 (grown_trans g9 (grown_trans g10 (grown_trans g11 (grown_trans g12 (grown_trans g13 (grown_trans g14 g15)))))))))))))⟩
end Go.Proofs.Ytenmbkngkabonaa
