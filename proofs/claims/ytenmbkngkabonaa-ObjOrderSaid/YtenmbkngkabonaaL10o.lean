/- The walk of tympanlaw10.ObjOrder. -/
import Derived.Test.YtenmbkngkabonaaL10
import Derived.Deep.RegionHeld3
namespace Go.Proofs.Ytenmbkngkabonaa
set_option linter.unusedVariables false
open Go.RowKit

theorem order_lt (a b c : Int) (x y z : Bool) (k1 n1 k2 n2 k3 n3 : Int) (f g : Bool) (hf : f = false ∨ (f = true ∧ g = true))
    (C1 : Hid (∀ W, Calls Try.prog 32 #[.int .i64 a, .bool x] W fun e w' => e = Ending.returned (obv k1 false n1 0 0 ⟨#[]⟩) ∧ Grown W w'))
    (C2 : Hid (∀ W, Calls Try.prog 32 #[.int .i64 b, .bool y] W fun e w' => e = Ending.returned (obv k2 false n2 0 0 ⟨#[]⟩) ∧ Grown W w'))
    (C3 : Hid (∀ W, Calls Try.prog 32 #[.int .i64 c, .bool z] W fun e w' => e = Ending.returned (obv k3 false n3 0 0 ⟨#[]⟩) ∧ Grown W w'))
    (CL : Hid (∀ W, Calls Try.prog 33 #[obv k1 false n1 0 0 ⟨#[]⟩, obv k2 false n2 0 0 ⟨#[]⟩] W fun e w' => e = Ending.returned (.tuple #[.bool true, .bool true]) ∧ Grown W w'))
    (CM : Hid (∀ W, Calls Try.prog 33 #[obv k2 false n2 0 0 ⟨#[]⟩, obv k1 false n1 0 0 ⟨#[]⟩] W fun e w' => e = Ending.returned (.tuple #[.bool false, .bool true]) ∧ Grown W w'))
    (CE : Hid (∀ W, Calls Try.prog 34 #[obv k1 false n1 0 0 ⟨#[]⟩, obv k2 false n2 0 0 ⟨#[]⟩] W fun r w' => r = Ending.returned (.bool false) ∧ Grown W w'))
    (CF : Hid (∀ W, Calls Try.prog 33 #[obv k2 false n2 0 0 ⟨#[]⟩, obv k3 false n3 0 0 ⟨#[]⟩] W fun e w' => e = Ending.returned (.tuple #[.bool f, .bool true]) ∧ Grown W w'))
    (CG : Hid (∀ W, Calls Try.prog 33 #[obv k1 false n1 0 0 ⟨#[]⟩, obv k3 false n3 0 0 ⟨#[]⟩] W fun e w' => e = Ending.returned (.tuple #[.bool g, .bool true]) ∧ Grown W w'))
    (CY : Hid (∀ W, Calls Try.prog 35 #[obv k1 false n1 0 0 ⟨#[]⟩] W fun e w' => e = Ending.returned (.bool true) ∧ Grown W w'))
    (w : World) :
    Calls Try.prog 6 #[.int .i64 a, .int .i64 b, .int .i64 c, .bool x, .bool y, .bool z] w fun e w' => e = Ending.returned (.bool true) ∧ Grown w w' := by
  have i0 : ∀ w, (Instr.index 45 (.agg #[.bool true, .bool false, .bool false]) (.int .i64 0)).run Try.prog w = .ok (.bool true) w := fun _ => by kernel_rfl
  have i1 : ∀ w, (Instr.index 45 (.agg #[.bool true, .bool false, .bool false]) (.int .i64 1)).run Try.prog w = .ok (.bool false) w := fun _ => by kernel_rfl
  have i2 : ∀ w, (Instr.index 45 (.agg #[.bool true, .bool false, .bool false]) (.int .i64 2)).run Try.prog w = .ok (.bool false) w := fun _ => by kernel_rfl
  go_enter Try.func6, Try.ntmps6
  go_wp2_with fail
  refine (known_yes _).mono ?_
  rintro e w1 ⟨rfl, g1⟩
  go_wp2_with fail
  refine (C1.out _).mono ?_
  rintro e w2 ⟨rfl, g2⟩
  go_wp2_with fail
  refine (C2.out _).mono ?_
  rintro e w3 ⟨rfl, g3⟩
  go_wp2_with fail
  refine (C3.out _).mono ?_
  rintro e w4 ⟨rfl, g4⟩
  go_wp2_with fail
  refine (CL.out _).mono ?_
  rintro e w5 ⟨rfl, g5⟩
  have hP : ObS w4 w4.heap.size k1 false n1 0 0 ⟨#[]⟩ w5 := ObS.grow (by exact ⟨by simp [go_sem], by simp [go_sem], by simp [go_sem], by simp [go_sem], by simp [go_sem], by simp [go_sem], by (repeat (first | exact Grown.refl _ | assumption | apply Grown.drew | apply Grown.alloc))⟩) g5
  have hQ : ObS w4 (w4.heap.size + 1) k2 false n2 0 0 ⟨#[]⟩ w5 := ObS.grow (by exact ⟨by simp [go_sem], by simp [go_sem], by simp [go_sem], by simp [go_sem], by simp [go_sem], by simp [go_sem], by (repeat (first | exact Grown.refl _ | assumption | apply Grown.drew | apply Grown.alloc))⟩) g5
  have hR : ObS w4 (w4.heap.size + 1 + 1) k3 false n3 0 0 ⟨#[]⟩ w5 := ObS.grow (by exact ⟨by simp [go_sem], by simp [go_sem], by simp [go_sem], by simp [go_sem], by simp [go_sem], by simp [go_sem], by (repeat (first | exact Grown.refl _ | assumption | apply Grown.drew | apply Grown.alloc))⟩) g5
  have g6 : Grown w w4 := grown_trans g1 (grown_trans g2 (grown_trans g3 g4))
  clear g1 g2 g3 g4 g5
  generalize w4.heap.size = B at *
  obtain ⟨p0, p1, p2, p3, p4, p5, gp⟩ := id hP
  obtain ⟨q0, q1, q2, q3, q4, q5, gq⟩ := id hQ
  go_wp2_with fail
  refine (CM.out _).mono ?_
  rintro e w6 ⟨rfl, g7⟩
  clear p0 p1 p2 p3 p4 p5 gp q0 q1 q2 q3 q4 q5 gq
  replace hP := hP.grow g7
  replace hQ := hQ.grow g7
  replace hR := hR.grow g7
  clear g7
  obtain ⟨p0, p1, p2, p3, p4, p5, gp⟩ := id hP
  obtain ⟨q0, q1, q2, q3, q4, q5, gq⟩ := id hQ
  go_wp2_with fail
  refine (CE.out _).mono ?_
  rintro r w7 ⟨rfl, g8⟩
  clear p0 p1 p2 p3 p4 p5 gp q0 q1 q2 q3 q4 q5 gq
  replace hP := hP.grow g8
  replace hQ := hQ.grow g8
  replace hR := hR.grow g8
  clear g8
  go_wp2_with fail
  go_loop [20, 56] (fun n i => (n = .int .i64 0 ∧ i = .int .i64 0) ∨ (n = .int .i64 1 ∧ i = .int .i64 1) ∨ (n = .int .i64 1 ∧ i = .int .i64 2) ∨ (n = .int .i64 1 ∧ i = .int .i64 3)) (fun _ i => (3 - intOf i).toNat)
  case atStart => exact .inl ⟨rfl, rfl⟩
  case round =>
    rcases hrel with ⟨rfl, rfl⟩ | ⟨rfl, rfl⟩ | ⟨rfl, rfl⟩ | ⟨rfl, rfl⟩
    · go_wp2_with fail
      go_round
      case rel => exact .inr (.inl ⟨rfl, rfl⟩)
      case measure => simp [intOf] <;> omega
    · go_wp2_with fail
      go_round
      case rel => exact .inr (.inr (.inl ⟨rfl, rfl⟩))
      case measure => simp [intOf] <;> omega
    · go_wp2_with fail
      go_round
      case rel => exact .inr (.inr (.inr ⟨rfl, rfl⟩))
      case measure => simp [intOf] <;> omega
    · clear i0 i1 i2
      obtain ⟨q0, q1, q2, q3, q4, q5, gq⟩ := id hQ
      obtain ⟨r0, r1, r2, r3, r4, r5, gr⟩ := id hR
      go_wp2_with fail
      refine (CF.out _).mono ?_
      rintro r w8 ⟨rfl, g9⟩
      clear q0 q1 q2 q3 q4 q5 gq r0 r1 r2 r3 r4 r5 gr
      replace hP := hP.grow g9
      replace hR := hR.grow g9
      clear g9
      obtain ⟨p0, p1, p2, p3, p4, p5, gp⟩ := id hP
      obtain ⟨r0, r1, r2, r3, r4, r5, gr⟩ := id hR
      go_wp2_with fail
      refine (CG.out _).mono ?_
      rintro r w9 ⟨rfl, g10⟩
      clear p0 p1 p2 p3 p4 p5 gp r0 r1 r2 r3 r4 r5 gr hR hQ
      replace hP := hP.grow g10
      clear g10
      obtain ⟨p0, p1, p2, p3, p4, p5, gp⟩ := id hP
      rcases hf with rfl | ⟨rfl, rfl⟩
      all_goals
        go_wp2_with fail
        refine (CY.out _).mono ?_
        rintro r w10 ⟨rfl, g11⟩
        go_wp2_with fail
        go_ret
        exact ⟨rfl, grown_trans g6 (grown_trans gp g11)⟩
theorem order_gt (a b c : Int) (x y z : Bool) (k1 n1 k2 n2 k3 n3 : Int) (f g : Bool)
    (C1 : Hid (∀ W, Calls Try.prog 32 #[.int .i64 a, .bool x] W fun e w' => e = Ending.returned (obv k1 false n1 0 0 ⟨#[]⟩) ∧ Grown W w'))
    (C2 : Hid (∀ W, Calls Try.prog 32 #[.int .i64 b, .bool y] W fun e w' => e = Ending.returned (obv k2 false n2 0 0 ⟨#[]⟩) ∧ Grown W w'))
    (C3 : Hid (∀ W, Calls Try.prog 32 #[.int .i64 c, .bool z] W fun e w' => e = Ending.returned (obv k3 false n3 0 0 ⟨#[]⟩) ∧ Grown W w'))
    (CL : Hid (∀ W, Calls Try.prog 33 #[obv k1 false n1 0 0 ⟨#[]⟩, obv k2 false n2 0 0 ⟨#[]⟩] W fun e w' => e = Ending.returned (.tuple #[.bool false, .bool true]) ∧ Grown W w'))
    (CM : Hid (∀ W, Calls Try.prog 33 #[obv k2 false n2 0 0 ⟨#[]⟩, obv k1 false n1 0 0 ⟨#[]⟩] W fun e w' => e = Ending.returned (.tuple #[.bool true, .bool true]) ∧ Grown W w'))
    (CE : Hid (∀ W, Calls Try.prog 34 #[obv k1 false n1 0 0 ⟨#[]⟩, obv k2 false n2 0 0 ⟨#[]⟩] W fun r w' => r = Ending.returned (.bool false) ∧ Grown W w'))
    (CF : Hid (∀ W, Calls Try.prog 33 #[obv k2 false n2 0 0 ⟨#[]⟩, obv k3 false n3 0 0 ⟨#[]⟩] W fun e w' => e = Ending.returned (.tuple #[.bool f, .bool true]) ∧ Grown W w'))
    (CG : Hid (∀ W, Calls Try.prog 33 #[obv k1 false n1 0 0 ⟨#[]⟩, obv k3 false n3 0 0 ⟨#[]⟩] W fun e w' => e = Ending.returned (.tuple #[.bool g, .bool true]) ∧ Grown W w'))
    (CY : Hid (∀ W, Calls Try.prog 35 #[obv k1 false n1 0 0 ⟨#[]⟩] W fun e w' => e = Ending.returned (.bool true) ∧ Grown W w'))
    (w : World) :
    Calls Try.prog 6 #[.int .i64 a, .int .i64 b, .int .i64 c, .bool x, .bool y, .bool z] w fun e w' => e = Ending.returned (.bool true) ∧ Grown w w' := by
  have i0 : ∀ w, (Instr.index 45 (.agg #[.bool false, .bool true, .bool false]) (.int .i64 0)).run Try.prog w = .ok (.bool false) w := fun _ => by kernel_rfl
  have i1 : ∀ w, (Instr.index 45 (.agg #[.bool false, .bool true, .bool false]) (.int .i64 1)).run Try.prog w = .ok (.bool true) w := fun _ => by kernel_rfl
  have i2 : ∀ w, (Instr.index 45 (.agg #[.bool false, .bool true, .bool false]) (.int .i64 2)).run Try.prog w = .ok (.bool false) w := fun _ => by kernel_rfl
  go_enter Try.func6, Try.ntmps6
  go_wp2_with fail
  refine (known_yes _).mono ?_
  rintro e w1 ⟨rfl, g1⟩
  go_wp2_with fail
  refine (C1.out _).mono ?_
  rintro e w2 ⟨rfl, g2⟩
  go_wp2_with fail
  refine (C2.out _).mono ?_
  rintro e w3 ⟨rfl, g3⟩
  go_wp2_with fail
  refine (C3.out _).mono ?_
  rintro e w4 ⟨rfl, g4⟩
  go_wp2_with fail
  refine (CL.out _).mono ?_
  rintro e w5 ⟨rfl, g5⟩
  have hP : ObS w4 w4.heap.size k1 false n1 0 0 ⟨#[]⟩ w5 := ObS.grow (by exact ⟨by simp [go_sem], by simp [go_sem], by simp [go_sem], by simp [go_sem], by simp [go_sem], by simp [go_sem], by (repeat (first | exact Grown.refl _ | assumption | apply Grown.drew | apply Grown.alloc))⟩) g5
  have hQ : ObS w4 (w4.heap.size + 1) k2 false n2 0 0 ⟨#[]⟩ w5 := ObS.grow (by exact ⟨by simp [go_sem], by simp [go_sem], by simp [go_sem], by simp [go_sem], by simp [go_sem], by simp [go_sem], by (repeat (first | exact Grown.refl _ | assumption | apply Grown.drew | apply Grown.alloc))⟩) g5
  have hR : ObS w4 (w4.heap.size + 1 + 1) k3 false n3 0 0 ⟨#[]⟩ w5 := ObS.grow (by exact ⟨by simp [go_sem], by simp [go_sem], by simp [go_sem], by simp [go_sem], by simp [go_sem], by simp [go_sem], by (repeat (first | exact Grown.refl _ | assumption | apply Grown.drew | apply Grown.alloc))⟩) g5
  have g6 : Grown w w4 := grown_trans g1 (grown_trans g2 (grown_trans g3 g4))
  clear g1 g2 g3 g4 g5
  generalize w4.heap.size = B at *
  obtain ⟨p0, p1, p2, p3, p4, p5, gp⟩ := id hP
  obtain ⟨q0, q1, q2, q3, q4, q5, gq⟩ := id hQ
  go_wp2_with fail
  refine (CM.out _).mono ?_
  rintro e w6 ⟨rfl, g7⟩
  clear p0 p1 p2 p3 p4 p5 gp q0 q1 q2 q3 q4 q5 gq
  replace hP := hP.grow g7
  replace hQ := hQ.grow g7
  replace hR := hR.grow g7
  clear g7
  obtain ⟨p0, p1, p2, p3, p4, p5, gp⟩ := id hP
  obtain ⟨q0, q1, q2, q3, q4, q5, gq⟩ := id hQ
  go_wp2_with fail
  refine (CE.out _).mono ?_
  rintro r w7 ⟨rfl, g8⟩
  clear p0 p1 p2 p3 p4 p5 gp q0 q1 q2 q3 q4 q5 gq
  replace hP := hP.grow g8
  replace hQ := hQ.grow g8
  replace hR := hR.grow g8
  clear g8
  go_wp2_with fail
  go_loop [20, 56] (fun n i => (n = .int .i64 0 ∧ i = .int .i64 0) ∨ (n = .int .i64 0 ∧ i = .int .i64 1) ∨ (n = .int .i64 1 ∧ i = .int .i64 2) ∨ (n = .int .i64 1 ∧ i = .int .i64 3)) (fun _ i => (3 - intOf i).toNat)
  case atStart => exact .inl ⟨rfl, rfl⟩
  case round =>
    rcases hrel with ⟨rfl, rfl⟩ | ⟨rfl, rfl⟩ | ⟨rfl, rfl⟩ | ⟨rfl, rfl⟩
    · go_wp2_with fail
      go_round
      case rel => exact .inr (.inl ⟨rfl, rfl⟩)
      case measure => simp [intOf] <;> omega
    · go_wp2_with fail
      go_round
      case rel => exact .inr (.inr (.inl ⟨rfl, rfl⟩))
      case measure => simp [intOf] <;> omega
    · go_wp2_with fail
      go_round
      case rel => exact .inr (.inr (.inr ⟨rfl, rfl⟩))
      case measure => simp [intOf] <;> omega
    · clear i0 i1 i2
      obtain ⟨q0, q1, q2, q3, q4, q5, gq⟩ := id hQ
      obtain ⟨r0, r1, r2, r3, r4, r5, gr⟩ := id hR
      go_wp2_with fail
      refine (CF.out _).mono ?_
      rintro r w8 ⟨rfl, g9⟩
      clear q0 q1 q2 q3 q4 q5 gq r0 r1 r2 r3 r4 r5 gr
      replace hP := hP.grow g9
      replace hR := hR.grow g9
      clear g9
      obtain ⟨p0, p1, p2, p3, p4, p5, gp⟩ := id hP
      obtain ⟨r0, r1, r2, r3, r4, r5, gr⟩ := id hR
      go_wp2_with fail
      refine (CG.out _).mono ?_
      rintro r w9 ⟨rfl, g10⟩
      clear p0 p1 p2 p3 p4 p5 gp r0 r1 r2 r3 r4 r5 gr hR hQ
      replace hP := hP.grow g10
      clear g10
      obtain ⟨p0, p1, p2, p3, p4, p5, gp⟩ := id hP
      all_goals
        go_wp2_with fail
        refine (CY.out _).mono ?_
        rintro r w10 ⟨rfl, g11⟩
        go_wp2_with fail
        go_ret
        exact ⟨rfl, grown_trans g6 (grown_trans gp g11)⟩
theorem order_eq (a b c : Int) (x y z : Bool) (k1 n1 k2 n2 k3 n3 : Int) (f g : Bool)
    (C1 : Hid (∀ W, Calls Try.prog 32 #[.int .i64 a, .bool x] W fun e w' => e = Ending.returned (obv k1 false n1 0 0 ⟨#[]⟩) ∧ Grown W w'))
    (C2 : Hid (∀ W, Calls Try.prog 32 #[.int .i64 b, .bool y] W fun e w' => e = Ending.returned (obv k2 false n2 0 0 ⟨#[]⟩) ∧ Grown W w'))
    (C3 : Hid (∀ W, Calls Try.prog 32 #[.int .i64 c, .bool z] W fun e w' => e = Ending.returned (obv k3 false n3 0 0 ⟨#[]⟩) ∧ Grown W w'))
    (CL : Hid (∀ W, Calls Try.prog 33 #[obv k1 false n1 0 0 ⟨#[]⟩, obv k2 false n2 0 0 ⟨#[]⟩] W fun e w' => e = Ending.returned (.tuple #[.bool false, .bool true]) ∧ Grown W w'))
    (CM : Hid (∀ W, Calls Try.prog 33 #[obv k2 false n2 0 0 ⟨#[]⟩, obv k1 false n1 0 0 ⟨#[]⟩] W fun e w' => e = Ending.returned (.tuple #[.bool false, .bool true]) ∧ Grown W w'))
    (CE : Hid (∀ W, Calls Try.prog 34 #[obv k1 false n1 0 0 ⟨#[]⟩, obv k2 false n2 0 0 ⟨#[]⟩] W fun r w' => r = Ending.returned (.bool true) ∧ Grown W w'))
    (CF : Hid (∀ W, Calls Try.prog 33 #[obv k2 false n2 0 0 ⟨#[]⟩, obv k3 false n3 0 0 ⟨#[]⟩] W fun e w' => e = Ending.returned (.tuple #[.bool f, .bool true]) ∧ Grown W w'))
    (CG : Hid (∀ W, Calls Try.prog 33 #[obv k1 false n1 0 0 ⟨#[]⟩, obv k3 false n3 0 0 ⟨#[]⟩] W fun e w' => e = Ending.returned (.tuple #[.bool g, .bool true]) ∧ Grown W w'))
    (CY : Hid (∀ W, Calls Try.prog 35 #[obv k1 false n1 0 0 ⟨#[]⟩] W fun e w' => e = Ending.returned (.bool true) ∧ Grown W w'))
    (w : World) :
    Calls Try.prog 6 #[.int .i64 a, .int .i64 b, .int .i64 c, .bool x, .bool y, .bool z] w fun e w' => e = Ending.returned (.bool true) ∧ Grown w w' := by
  have i0 : ∀ w, (Instr.index 45 (.agg #[.bool false, .bool false, .bool true]) (.int .i64 0)).run Try.prog w = .ok (.bool false) w := fun _ => by kernel_rfl
  have i1 : ∀ w, (Instr.index 45 (.agg #[.bool false, .bool false, .bool true]) (.int .i64 1)).run Try.prog w = .ok (.bool false) w := fun _ => by kernel_rfl
  have i2 : ∀ w, (Instr.index 45 (.agg #[.bool false, .bool false, .bool true]) (.int .i64 2)).run Try.prog w = .ok (.bool true) w := fun _ => by kernel_rfl
  go_enter Try.func6, Try.ntmps6
  go_wp2_with fail
  refine (known_yes _).mono ?_
  rintro e w1 ⟨rfl, g1⟩
  go_wp2_with fail
  refine (C1.out _).mono ?_
  rintro e w2 ⟨rfl, g2⟩
  go_wp2_with fail
  refine (C2.out _).mono ?_
  rintro e w3 ⟨rfl, g3⟩
  go_wp2_with fail
  refine (C3.out _).mono ?_
  rintro e w4 ⟨rfl, g4⟩
  go_wp2_with fail
  refine (CL.out _).mono ?_
  rintro e w5 ⟨rfl, g5⟩
  have hP : ObS w4 w4.heap.size k1 false n1 0 0 ⟨#[]⟩ w5 := ObS.grow (by exact ⟨by simp [go_sem], by simp [go_sem], by simp [go_sem], by simp [go_sem], by simp [go_sem], by simp [go_sem], by (repeat (first | exact Grown.refl _ | assumption | apply Grown.drew | apply Grown.alloc))⟩) g5
  have hQ : ObS w4 (w4.heap.size + 1) k2 false n2 0 0 ⟨#[]⟩ w5 := ObS.grow (by exact ⟨by simp [go_sem], by simp [go_sem], by simp [go_sem], by simp [go_sem], by simp [go_sem], by simp [go_sem], by (repeat (first | exact Grown.refl _ | assumption | apply Grown.drew | apply Grown.alloc))⟩) g5
  have hR : ObS w4 (w4.heap.size + 1 + 1) k3 false n3 0 0 ⟨#[]⟩ w5 := ObS.grow (by exact ⟨by simp [go_sem], by simp [go_sem], by simp [go_sem], by simp [go_sem], by simp [go_sem], by simp [go_sem], by (repeat (first | exact Grown.refl _ | assumption | apply Grown.drew | apply Grown.alloc))⟩) g5
  have g6 : Grown w w4 := grown_trans g1 (grown_trans g2 (grown_trans g3 g4))
  clear g1 g2 g3 g4 g5
  generalize w4.heap.size = B at *
  obtain ⟨p0, p1, p2, p3, p4, p5, gp⟩ := id hP
  obtain ⟨q0, q1, q2, q3, q4, q5, gq⟩ := id hQ
  go_wp2_with fail
  refine (CM.out _).mono ?_
  rintro e w6 ⟨rfl, g7⟩
  clear p0 p1 p2 p3 p4 p5 gp q0 q1 q2 q3 q4 q5 gq
  replace hP := hP.grow g7
  replace hQ := hQ.grow g7
  replace hR := hR.grow g7
  clear g7
  obtain ⟨p0, p1, p2, p3, p4, p5, gp⟩ := id hP
  obtain ⟨q0, q1, q2, q3, q4, q5, gq⟩ := id hQ
  go_wp2_with fail
  refine (CE.out _).mono ?_
  rintro r w7 ⟨rfl, g8⟩
  clear p0 p1 p2 p3 p4 p5 gp q0 q1 q2 q3 q4 q5 gq
  replace hP := hP.grow g8
  replace hQ := hQ.grow g8
  replace hR := hR.grow g8
  clear g8
  go_wp2_with fail
  go_loop [20, 56] (fun n i => (n = .int .i64 0 ∧ i = .int .i64 0) ∨ (n = .int .i64 0 ∧ i = .int .i64 1) ∨ (n = .int .i64 0 ∧ i = .int .i64 2) ∨ (n = .int .i64 1 ∧ i = .int .i64 3)) (fun _ i => (3 - intOf i).toNat)
  case atStart => exact .inl ⟨rfl, rfl⟩
  case round =>
    rcases hrel with ⟨rfl, rfl⟩ | ⟨rfl, rfl⟩ | ⟨rfl, rfl⟩ | ⟨rfl, rfl⟩
    · go_wp2_with fail
      go_round
      case rel => exact .inr (.inl ⟨rfl, rfl⟩)
      case measure => simp [intOf] <;> omega
    · go_wp2_with fail
      go_round
      case rel => exact .inr (.inr (.inl ⟨rfl, rfl⟩))
      case measure => simp [intOf] <;> omega
    · go_wp2_with fail
      go_round
      case rel => exact .inr (.inr (.inr ⟨rfl, rfl⟩))
      case measure => simp [intOf] <;> omega
    · clear i0 i1 i2
      obtain ⟨q0, q1, q2, q3, q4, q5, gq⟩ := id hQ
      obtain ⟨r0, r1, r2, r3, r4, r5, gr⟩ := id hR
      go_wp2_with fail
      refine (CF.out _).mono ?_
      rintro r w8 ⟨rfl, g9⟩
      clear q0 q1 q2 q3 q4 q5 gq r0 r1 r2 r3 r4 r5 gr
      replace hP := hP.grow g9
      replace hR := hR.grow g9
      clear g9
      obtain ⟨p0, p1, p2, p3, p4, p5, gp⟩ := id hP
      obtain ⟨r0, r1, r2, r3, r4, r5, gr⟩ := id hR
      go_wp2_with fail
      refine (CG.out _).mono ?_
      rintro r w9 ⟨rfl, g10⟩
      clear p0 p1 p2 p3 p4 p5 gp r0 r1 r2 r3 r4 r5 gr hR hQ
      replace hP := hP.grow g10
      clear g10
      obtain ⟨p0, p1, p2, p3, p4, p5, gp⟩ := id hP
      all_goals
        go_wp2_with fail
        refine (CY.out _).mono ?_
        rintro r w10 ⟨rfl, g11⟩
        go_wp2_with fail
        go_ret
        exact ⟨rfl, grown_trans g6 (grown_trans gp g11)⟩

theorem walk_ObjOrder (a b c : Int) (x y z : Bool) (w0 : (Lit.int .i64 a).wf = true) (w1 : (Lit.int .i64 b).wf = true) (w2 : (Lit.int .i64 c).wf = true) (w : World) :
    Calls Try.prog 6 #[.int .i64 a, .int .i64 b, .int .i64 c, .bool x, .bool y, .bool z] w fun e w' => e = .returned (.bool true) ∧ Grown w w' := by
  have N1 := Pl.isn_nn a x
  have N2 := Pl.isn_nn b y
  have N3 := Pl.isn_nn c z
  have CL := fun W => less_num _ false _ N1 _ false _ N2 W
  have CM := fun W => less_num _ false _ N2 _ false _ N1 W
  have CE := fun W => same_num _ false _ N1 _ false _ N2 W
  have CF := Lib.hid (fun W => less_num _ false _ N2 _ false _ N3 W)
  have CG := Lib.hid (fun W => less_num _ false _ N1 _ false _ N3 W)
  have CY := Lib.hid (fun W => may_num _ false _ N1 W)
  have D1 := Lib.hid (fun W => number_any a x W)
  have D2 := Lib.hid (fun W => number_any b y W)
  have D3 := Lib.hid (fun W => number_any c z W)
  by_cases h1 : Pl.sz (Pl.nk x) (Pl.nn a x) < Pl.sz (Pl.nk y) (Pl.nn b y)
  · rw [decide_eq_true h1] at CL
    rw [decide_eq_false (by omega)] at CM
    rw [beq_eq_false_iff_ne.2 (by omega)] at CE
    refine order_lt a b c x y z _ _ _ _ _ _ _ _ ?_ D1 D2 D3 (Lib.hid CL) (Lib.hid CM) (Lib.hid CE) CF CG CY w
    by_cases h2 : Pl.sz (Pl.nk y) (Pl.nn b y) < Pl.sz (Pl.nk z) (Pl.nn c z)
    · exact .inr ⟨decide_eq_true h2, decide_eq_true (by omega)⟩
    · exact .inl (decide_eq_false h2)
  · by_cases h2 : Pl.sz (Pl.nk y) (Pl.nn b y) < Pl.sz (Pl.nk x) (Pl.nn a x)
    · rw [decide_eq_false h1] at CL
      rw [decide_eq_true h2] at CM
      rw [beq_eq_false_iff_ne.2 (by omega)] at CE
      exact order_gt a b c x y z _ _ _ _ _ _ _ _ D1 D2 D3 (Lib.hid CL) (Lib.hid CM) (Lib.hid CE) CF CG CY w
    · rw [decide_eq_false h1] at CL
      rw [decide_eq_false h2] at CM
      rw [beq_iff_eq.2 (by omega)] at CE
      exact order_eq a b c x y z _ _ _ _ _ _ _ _ D1 D2 D3 (Lib.hid CL) (Lib.hid CM) (Lib.hid CE) CF CG CY w
end Go.Proofs.Ytenmbkngkabonaa
