/- The walk of tympanlaw3.FixTells (printed by wip/gen_fixtells.py). -/
import Derived.Test.YtedidjdifobclaaW19
import Derived.Test.YtedidjdifobclaaL3
namespace Go.Proofs.Ytedidjdifobclaa
set_option linter.unusedVariables false
open Go.RowKit

set_option maxHeartbeats 2000000 in
set_option maxRecDepth 100000 in
theorem tells3_core (a b v u x0 x1 x2 x3 q y0 y1 y2 y3 y4 : Int) (ou o0 o1 o2 o3 oq : Bool)
    (F1 : Hid (∀ w, Calls Try.prog 57 #[.int .i64 v] w fun e w' => e = .returned (.tuple #[.int .i64 u, .bool ou]) ∧ w = w')) (F2 : Hid (∀ w, Calls Try.prog 58 #[.int .i64 v] w fun e w' => e = .returned (.tuple #[.int .i64 u, .bool ou]) ∧ w = w'))
    (A0 : Hid (∀ w, Calls Try.prog 42 #[.int .i64 a, .int .i64 b] w fun e w' => e = .returned (.tuple #[.int .i64 x0, .bool o0]) ∧ Grown w w')) (B0 : Hid (∀ w, Calls Try.prog 59 #[.int .i64 a, .int .i64 b] w fun e w' => e = .returned (.tuple #[.int .i64 x0, .bool o0]) ∧ Grown w w'))
    (A1 : Hid (∀ w, Calls Try.prog 43 #[.int .i64 a, .int .i64 b] w fun e w' => e = .returned (.tuple #[.int .i64 x1, .bool o1]) ∧ Grown w w')) (B1 : Hid (∀ w, Calls Try.prog 60 #[.int .i64 a, .int .i64 b] w fun e w' => e = .returned (.tuple #[.int .i64 x1, .bool o1]) ∧ Grown w w'))
    (A2 : Hid (∀ w, Calls Try.prog 31 #[.int .i64 a, .int .i64 b] w fun e w' => e = .returned (.tuple #[.int .i64 x2, .bool o2]) ∧ Grown w w')) (B2 : Hid (∀ w, Calls Try.prog 61 #[.int .i64 a, .int .i64 b] w fun e w' => e = .returned (.tuple #[.int .i64 x2, .bool o2]) ∧ Grown w w'))
    (A3 : Hid (∀ w, Calls Try.prog 30 #[.int .i64 a, .int .i64 b] w fun e w' => e = .returned (.tuple #[.int .i64 x3, .bool o3]) ∧ Grown w w')) (B3 : Hid (∀ w, Calls Try.prog 62 #[.int .i64 a, .int .i64 b] w fun e w' => e = .returned (.tuple #[.int .i64 x3, .bool o3]) ∧ Grown w w'))
    (Q1 : Hid (∀ w, Calls Try.prog 44 #[.int .i64 a] w fun e w' => e = .returned (.tuple #[.int .i64 q, .bool oq]) ∧ w = w')) (Q2 : Hid (∀ w, Calls Try.prog 63 #[.int .i64 a] w fun e w' => e = .returned (.tuple #[.int .i64 q, .bool oq]) ∧ w = w'))
    (G0 : Hid (∀ w, Calls Try.prog 32 #[.int .i64 a] w fun e w' => e = .returned (.int .i64 y0) ∧ w = w')) (R0 : Hid (∀ w, Calls Try.prog 64 #[.int .i64 a] w fun e w' => e = .returned (.int .i64 y0) ∧ w = w'))
    (G1 : Hid (∀ w, Calls Try.prog 33 #[.int .i64 a] w fun e w' => e = .returned (.int .i64 y1) ∧ w = w')) (R1 : Hid (∀ w, Calls Try.prog 65 #[.int .i64 a] w fun e w' => e = .returned (.int .i64 y1) ∧ w = w'))
    (G2 : Hid (∀ w, Calls Try.prog 34 #[.int .i64 a] w fun e w' => e = .returned (.int .i64 y2) ∧ w = w')) (R2 : Hid (∀ w, Calls Try.prog 66 #[.int .i64 a] w fun e w' => e = .returned (.int .i64 y2) ∧ w = w'))
    (G3 : Hid (∀ w, Calls Try.prog 35 #[.int .i64 a] w fun e w' => e = .returned (.int .i64 y3) ∧ w = w')) (R3 : Hid (∀ w, Calls Try.prog 67 #[.int .i64 a] w fun e w' => e = .returned (.int .i64 y3) ∧ w = w'))
    (G4 : Hid (∀ w, Calls Try.prog 36 #[.int .i64 a] w fun e w' => e = .returned (.int .i64 y4) ∧ w = w')) (R4 : Hid (∀ w, Calls Try.prog 68 #[.int .i64 a] w fun e w' => e = .returned (.int .i64 y4) ∧ w = w'))
    (w : World) :
    Calls Try.prog 21 #[.int .i64 a, .int .i64 b, .int .i64 v] w fun e w' => e = .returned (.bool true) ∧ Grown w w' := by
  go_enter Try.func21, Try.ntmps21
  go_wp2_with fail
  refine (known3 _).mono ?_
  rintro e w1 ⟨rfl, g1⟩
  go_wp2_with fail
  refine (F1.out _).mono ?_
  rintro e w2 ⟨rfl, rfl⟩
  go_wp2_with fail
  refine (F2.out _).mono ?_
  rintro e w2 ⟨rfl, rfl⟩
  go_wp2_with fail
  go_loopw [7, 8, 9, 10, 11] (fun s t s' t' i wr => ∃ (k X : Int) (O : Bool), 0 ≤ k ∧ k ≤ 4 ∧ i = .int .i64 k ∧ s = .int .i64 X ∧ t = .bool O ∧ s' = .int .i64 X ∧ t' = .bool O ∧ Grown w wr) (fun _ _ _ _ i _ => (4 - intOf i).toNat)
  case atStart => exact ⟨0, u, ou, by omega, by omega, rfl, rfl, rfl, rfl, rfl, g1⟩
  case round =>
    obtain ⟨k, X, O, hk0, hk, rfl, rfl, rfl, rfl, rfl, hg⟩ := hrel
    have hc : k = 0 ∨ k = 1 ∨ k = 2 ∨ k = 3 ∨ k = 4 := by omega
    rcases hc with rfl | rfl | rfl | rfl | rfl
    · clear hk0 hk
      go_wp2_with fail
      refine (A0.out _).mono ?_
      rintro e w3 ⟨rfl, g3⟩
      go_wp2_with fail
      refine (B0.out _).mono ?_
      rintro e w4 ⟨rfl, g4⟩
      go_wp2_with fail
      go_roundw
      case rel => exact ⟨1, x0, o0, by omega, by omega, rfl, rfl, rfl, rfl, rfl, grown_trans hg (grown_trans g3 g4)⟩
      case measure => simp [intOf] <;> omega
    · clear hk0 hk
      go_wp2_with fail
      refine (A1.out _).mono ?_
      rintro e w3 ⟨rfl, g3⟩
      go_wp2_with fail
      refine (B1.out _).mono ?_
      rintro e w4 ⟨rfl, g4⟩
      go_wp2_with fail
      go_roundw
      case rel => exact ⟨2, x1, o1, by omega, by omega, rfl, rfl, rfl, rfl, rfl, grown_trans hg (grown_trans g3 g4)⟩
      case measure => simp [intOf] <;> omega
    · clear hk0 hk
      go_wp2_with fail
      refine (A2.out _).mono ?_
      rintro e w3 ⟨rfl, g3⟩
      go_wp2_with fail
      refine (B2.out _).mono ?_
      rintro e w4 ⟨rfl, g4⟩
      go_wp2_with fail
      go_roundw
      case rel => exact ⟨3, x2, o2, by omega, by omega, rfl, rfl, rfl, rfl, rfl, grown_trans hg (grown_trans g3 g4)⟩
      case measure => simp [intOf] <;> omega
    · clear hk0 hk
      go_wp2_with fail
      refine (A3.out _).mono ?_
      rintro e w3 ⟨rfl, g3⟩
      go_wp2_with fail
      refine (B3.out _).mono ?_
      rintro e w4 ⟨rfl, g4⟩
      go_wp2_with fail
      go_roundw
      case rel => exact ⟨4, x3, o3, by omega, by omega, rfl, rfl, rfl, rfl, rfl, grown_trans hg (grown_trans g3 g4)⟩
      case measure => simp [intOf] <;> omega
    · clear hk0 hk
      go_wp2_with fail
      refine (Q1.out _).mono ?_
      rintro e w3 ⟨rfl, rfl⟩
      go_wp2_with fail
      refine (Q2.out _).mono ?_
      rintro e w3 ⟨rfl, rfl⟩
      go_wp2_with fail
      refine (G0.out _).mono ?_
      rintro e w3 ⟨rfl, rfl⟩
      go_wp2_with fail
      refine (R0.out _).mono ?_
      rintro e w3 ⟨rfl, rfl⟩
      go_wp2_with fail
      refine (G1.out _).mono ?_
      rintro e w3 ⟨rfl, rfl⟩
      go_wp2_with fail
      refine (R1.out _).mono ?_
      rintro e w3 ⟨rfl, rfl⟩
      go_wp2_with fail
      refine (G2.out _).mono ?_
      rintro e w3 ⟨rfl, rfl⟩
      go_wp2_with fail
      refine (R2.out _).mono ?_
      rintro e w3 ⟨rfl, rfl⟩
      go_wp2_with fail
      refine (G3.out _).mono ?_
      rintro e w3 ⟨rfl, rfl⟩
      go_wp2_with fail
      refine (R3.out _).mono ?_
      rintro e w3 ⟨rfl, rfl⟩
      go_wp2_with fail
      refine (G4.out _).mono ?_
      rintro e w3 ⟨rfl, rfl⟩
      go_wp2_with fail
      refine (R4.out _).mono ?_
      rintro e w3 ⟨rfl, rfl⟩
      go_wp2_with fail
      go_ret
      exact ⟨ret_bool (by first | rfl | assumption), hg⟩

theorem walk_FixTells (a b v : Int) (w0 : (Lit.int .i64 a).wf = true) (w1 : (Lit.int .i64 b).wf = true) (w2 : (Lit.int .i64 v).wf = true) (w : World) :
    Calls Try.prog 21 #[.int .i64 a, .int .i64 b, .int .i64 v] w fun e w' => e = .returned (.bool true) ∧ Grown w w' := by
  obtain ⟨u, ou, F1, F2⟩ := from2_ex v
  obtain ⟨x0, o0, A0, B0⟩ := add2_ex a b
  obtain ⟨x1, o1, A1, B1⟩ := sub2_ex a b
  obtain ⟨x2, o2, A2, B2⟩ := mul2_ex a b
  obtain ⟨x3, o3, A3, B3⟩ := div2_ex a b
  obtain ⟨q, oq, Q1, Q2⟩ := sqrt2_ex a
  exact tells3_core a b v u x0 x1 x2 x3 q _ _ _ _ _ ou o0 o1 o2 o3 oq (Lib.hid F1) (Lib.hid F2) (Lib.hid A0) (Lib.hid B0) (Lib.hid A1) (Lib.hid B1) (Lib.hid A2) (Lib.hid B2) (Lib.hid A3) (Lib.hid B3) (Lib.hid Q1) (Lib.hid Q2)
    (Lib.hid fun w => ffloor_any a w) (Lib.hid fun w => rfloor3_any a w) (Lib.hid fun w => fceil_any a w) (Lib.hid fun w => rceil3_any a w) (Lib.hid fun w => fround_any a w) (Lib.hid fun w => rround3_any a w)
    (Lib.hid fun w => ftrunc_any a w) (Lib.hid fun w => rtrunc3_any a w) (Lib.hid fun w => fwhole_any a w) (Lib.hid fun w => rwhole3_any a w) w
end Go.Proofs.Ytedidjdifobclaa
