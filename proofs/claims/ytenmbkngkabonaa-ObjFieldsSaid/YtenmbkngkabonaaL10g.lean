/- The walk of tympanlaw10.ObjFields. -/
import Derived.Test.YtenmbkngkabonaaO5
import Derived.Test.YtenmbkngkabonaaO6
import Derived.Test.YtenmbkngkabonaaL10
import Derived.Deep.RegionHeld3
namespace Go.Proofs.Ytenmbkngkabonaa
set_option linter.unusedVariables false
open Go.RowKit

abbrev Ob2 (w0 : World) (b D : Nat) (k : Int) (x : Bool) (n a l : Int) (s : ByteArray) (n' a' l' : Int) (s' : ByteArray) (W : World) : Prop :=
  W.cell? ⟨b, 0, none⟩ = some (.int .i64 k) ∧ W.cell? ⟨b, 1, none⟩ = some (.bool x) ∧ W.cell? ⟨b, 2, none⟩ = some (.int .i64 n) ∧ W.cell? ⟨b, 3, none⟩ = some (.int .i64 a) ∧ W.cell? ⟨b, 4, none⟩ = some (.int .i64 l) ∧ W.cell? ⟨b, 5, none⟩ = some (.string s) ∧ W.cell? ⟨D, 0, none⟩ = some (.int .i64 k) ∧ W.cell? ⟨D, 1, none⟩ = some (.bool x) ∧ W.cell? ⟨D, 2, none⟩ = some (.int .i64 n') ∧ W.cell? ⟨D, 3, none⟩ = some (.int .i64 a') ∧ W.cell? ⟨D, 4, none⟩ = some (.int .i64 l') ∧ W.cell? ⟨D, 5, none⟩ = some (.string s') ∧ Grown w0 W
theorem Ob2.grow {w0 W W' : World} {b D : Nat} {k : Int} {x : Bool} {n a l : Int} {s : ByteArray} {n' a' l' : Int} {s' : ByteArray} (h : Ob2 w0 b D k x n a l s n' a' l' s' W) (hg : Grown W W') : Ob2 w0 b D k x n a l s n' a' l' s' W' :=
  ⟨grown_cell hg h.1, grown_cell hg h.2.1, grown_cell hg h.2.2.1, grown_cell hg h.2.2.2.1, grown_cell hg h.2.2.2.2.1, grown_cell hg h.2.2.2.2.2.1, grown_cell hg h.2.2.2.2.2.2.1, grown_cell hg h.2.2.2.2.2.2.2.1, grown_cell hg h.2.2.2.2.2.2.2.2.1, grown_cell hg h.2.2.2.2.2.2.2.2.2.1, grown_cell hg h.2.2.2.2.2.2.2.2.2.2.1, grown_cell hg h.2.2.2.2.2.2.2.2.2.2.2.1, grown_trans h.2.2.2.2.2.2.2.2.2.2.2.2 hg⟩
theorem fields_none (k : Int) (x : Bool) (n a l : Int) (s : ByteArray) (u : Int) (CM : Hid (∀ W, MayIs false k x n a l s W)) (w : World) :
    Calls Try.prog 7 #[obv k x n a l s, .int .u8 u] w fun e w' => e = Ending.returned (.bool true) ∧ Grown w w' := by
  go_enter Try.func7, Try.ntmps7
  go_wp2_with fail
  refine (known_yes _).mono ?_
  rintro e w1 ⟨rfl, g1⟩
  have hP : ObS w w.heap.size k x n a l s w1 := ObS.grow (by exact ⟨by simp [go_sem], by simp [go_sem], by simp [go_sem], by simp [go_sem], by simp [go_sem], by simp [go_sem], by (repeat (first | exact Grown.refl _ | assumption | apply Grown.drew | apply Grown.alloc | (refine Grown.setCell ?_ (by simp) _)))⟩) g1
  clear g1
  obtain ⟨p0, p1, p2, p3, p4, p5, gp⟩ := id hP
  go_wp2_with fail
  refine (CM.out _).mono ?_
  rintro e w2 ⟨rfl, g2⟩
  go_wp2_with fail
  go_ret
  exact ⟨rfl, grown_trans gp g2⟩

theorem fields_m0 (k : Int) (x : Bool) (n a l : Int) (s : ByteArray) (u : Int) (hu : u.tmod 4 = 0) (u1 : 0 ≤ u) (u2 : u ≤ 255) (CM : Hid (∀ W, MayIs true k x n a l s W)) (CX : Hid (∀ W, MayIs false k x n a l ⟨#[120]⟩ W))
    (T : ByteArray) (hT : (T.toList == T.toList) = true)
    (CT : Hid (∀ n a l s W, Calls Try.prog 36 #[obv k x n a l s] W fun e w' => e = Ending.returned (.string T) ∧ Grown W w'))
    (k5 : (k == 5) = false) (hrow : ((k == 8) = true) ∨ ((k == 8) = false ∧ (k == 9) = true) ∨ ((k == 8) = false ∧ (k == 9) = false)) (w : World) :
    Calls Try.prog 7 #[obv k x n a l s, .int .u8 u] w fun e w' => e = Ending.returned (.bool true) ∧ Grown w w' := by
  rcases hrow with k8 | ⟨k8, k9⟩ | ⟨k8, k9⟩
  all_goals
    go_enter Try.func7, Try.ntmps7
    go_wp2_with fail
    refine (known_yes _).mono ?_
    rintro e w1 ⟨rfl, g1⟩
    have hP : ObS w w.heap.size k x n a l s w1 := ObS.grow (by exact ⟨by simp [go_sem], by simp [go_sem], by simp [go_sem], by simp [go_sem], by simp [go_sem], by simp [go_sem], by (repeat (first | exact Grown.refl _ | assumption | apply Grown.drew | apply Grown.alloc | (refine Grown.setCell ?_ (by simp) _)))⟩) g1
    clear g1
    obtain ⟨p0, p1, p2, p3, p4, p5, gp⟩ := id hP
    go_wp2_with fail
    refine (CM.out _).mono ?_
    rintro e w2 ⟨rfl, g2⟩
    have hP2 := hP.grow g2
    clear p0 p1 p2 p3 p4 p5 gp hP g2
    have p0 := fun o t => (hP2.grow ((Grown.refl _).alloc o t)).1
    have p1 := fun o t => (hP2.grow ((Grown.refl _).alloc o t)).2.1
    have p2 := fun o t => (hP2.grow ((Grown.refl _).alloc o t)).2.2.1
    have p3 := fun o t => (hP2.grow ((Grown.refl _).alloc o t)).2.2.2.1
    have p4 := fun o t => (hP2.grow ((Grown.refl _).alloc o t)).2.2.2.2.1
    have p5 := fun o t => (hP2.grow ((Grown.refl _).alloc o t)).2.2.2.2.2.1
    obtain ⟨q0, q1, q2, q3, q4, q5, gp⟩ := id hP2
    go_wp2_with fail
    obtain ⟨D, hD⟩ : ∃ D, w2.heap.size = D := ⟨_, rfl⟩
    have DX := Lib.hid (fun W (h : Ob2 w w.heap.size D k x n a l s n a l ⟨#[120]⟩ W) => (CX.out W).mono fun e W' ⟨he, hg⟩ => (⟨he, h.grow hg⟩ : e = Ending.returned (.bool false) ∧ Ob2 w w.heap.size D k x n a l s n a l ⟨#[120]⟩ W'))
    have DT := Lib.hid (fun n' a' l' s' W (h : Ob2 w w.heap.size D k x n a l s n a l ⟨#[120]⟩ W) => (CT.out n' a' l' s' W).mono fun e W' ⟨he, hg⟩ => (⟨he, h.grow hg⟩ : e = Ending.returned (.string T) ∧ Ob2 w w.heap.size D k x n a l s n a l ⟨#[120]⟩ W'))
    have hC := fun W (g : Grown w2 W) => hP2.grow g
    clear p0 p1 p2 p3 p4 p5 q0 q1 q2 q3 q4 q5 gp
    go_region_held3 (fun W => W.cell? ⟨w.heap.size, 0, none⟩ = some (.int .i64 k) ∧ W.cell? ⟨w.heap.size, 1, none⟩ = some (.bool x) ∧ W.cell? ⟨w.heap.size, 2, none⟩ = some (.int .i64 n) ∧ W.cell? ⟨w.heap.size, 3, none⟩ = some (.int .i64 a) ∧ W.cell? ⟨w.heap.size, 4, none⟩ = some (.int .i64 l) ∧ W.cell? ⟨w.heap.size, 5, none⟩ = some (.string s) ∧ W.cell? ⟨D, 0, none⟩ = some (.int .i64 k) ∧ W.cell? ⟨D, 1, none⟩ = some (.bool x) ∧ W.cell? ⟨D, 2, none⟩ = some (.int .i64 n) ∧ W.cell? ⟨D, 3, none⟩ = some (.int .i64 a) ∧ W.cell? ⟨D, 4, none⟩ = some (.int .i64 l) ∧ W.cell? ⟨D, 5, none⟩ = some (.string ⟨#[120]⟩) ∧ Grown w W)
      (first | assumption | (subst hD; exact ⟨(hC _ (by (repeat (first | exact Grown.refl _ | apply Grown.drew | apply Grown.alloc | (refine Grown.setCell ?_ (by simp) _))))).1, (hC _ (by (repeat (first | exact Grown.refl _ | apply Grown.drew | apply Grown.alloc | (refine Grown.setCell ?_ (by simp) _))))).2.1, (hC _ (by (repeat (first | exact Grown.refl _ | apply Grown.drew | apply Grown.alloc | (refine Grown.setCell ?_ (by simp) _))))).2.2.1, (hC _ (by (repeat (first | exact Grown.refl _ | apply Grown.drew | apply Grown.alloc | (refine Grown.setCell ?_ (by simp) _))))).2.2.2.1, (hC _ (by (repeat (first | exact Grown.refl _ | apply Grown.drew | apply Grown.alloc | (refine Grown.setCell ?_ (by simp) _))))).2.2.2.2.1, (hC _ (by (repeat (first | exact Grown.refl _ | apply Grown.drew | apply Grown.alloc | (refine Grown.setCell ?_ (by simp) _))))).2.2.2.2.2.1, by simp [go_sem], by simp [go_sem], by simp [go_sem], by simp [go_sem], by simp [go_sem], by simp [go_sem], (hC _ (by (repeat (first | exact Grown.refl _ | apply Grown.drew | apply Grown.alloc | (refine Grown.setCell ?_ (by simp) _))))).2.2.2.2.2.2⟩))
      (first | (go_at_call 35; refine (DX.out _ ?_).mono ?_; (assumption); rintro e w' ⟨rfl, hS⟩) | (go_at_call 36; refine (DT.out _ _ _ _ _ ?_).mono ?_; (assumption); rintro e w' ⟨rfl, hS⟩))
    rename_i hSw
    go_wp2_with fail
    go_ret
    exact ⟨rfl, hSw.2.2.2.2.2.2.2.2.2.2.2.2⟩

theorem fields_m1 (k : Int) (x : Bool) (n a l : Int) (s : ByteArray) (u : Int) (hu : u.tmod 4 = 1) (u1 : 0 ≤ u) (u2 : u ≤ 255) (CM : Hid (∀ W, MayIs true k x n a l s W)) (CX : Hid (∀ W, MayIs false k x n 1 l s W))
    (T : ByteArray) (hT : (T.toList == T.toList) = true)
    (CT : Hid (∀ n a l s W, Calls Try.prog 36 #[obv k x n a l s] W fun e w' => e = Ending.returned (.string T) ∧ Grown W w'))
    (k8 : (k == 8) = false) (k9 : (k == 9) = false) (w : World) :
    Calls Try.prog 7 #[obv k x n a l s, .int .u8 u] w fun e w' => e = Ending.returned (.bool true) ∧ Grown w w' := by
  all_goals
    go_enter Try.func7, Try.ntmps7
    go_wp2_with fail
    refine (known_yes _).mono ?_
    rintro e w1 ⟨rfl, g1⟩
    have hP : ObS w w.heap.size k x n a l s w1 := ObS.grow (by exact ⟨by simp [go_sem], by simp [go_sem], by simp [go_sem], by simp [go_sem], by simp [go_sem], by simp [go_sem], by (repeat (first | exact Grown.refl _ | assumption | apply Grown.drew | apply Grown.alloc | (refine Grown.setCell ?_ (by simp) _)))⟩) g1
    clear g1
    obtain ⟨p0, p1, p2, p3, p4, p5, gp⟩ := id hP
    go_wp2_with fail
    refine (CM.out _).mono ?_
    rintro e w2 ⟨rfl, g2⟩
    have hP2 := hP.grow g2
    clear p0 p1 p2 p3 p4 p5 gp hP g2
    have p0 := fun o t => (hP2.grow ((Grown.refl _).alloc o t)).1
    have p1 := fun o t => (hP2.grow ((Grown.refl _).alloc o t)).2.1
    have p2 := fun o t => (hP2.grow ((Grown.refl _).alloc o t)).2.2.1
    have p3 := fun o t => (hP2.grow ((Grown.refl _).alloc o t)).2.2.2.1
    have p4 := fun o t => (hP2.grow ((Grown.refl _).alloc o t)).2.2.2.2.1
    have p5 := fun o t => (hP2.grow ((Grown.refl _).alloc o t)).2.2.2.2.2.1
    obtain ⟨q0, q1, q2, q3, q4, q5, gp⟩ := id hP2
    go_wp2_with fail
    obtain ⟨D, hD⟩ : ∃ D, w2.heap.size = D := ⟨_, rfl⟩
    have DX := Lib.hid (fun W (h : Ob2 w w.heap.size D k x n a l s n 1 l s W) => (CX.out W).mono fun e W' ⟨he, hg⟩ => (⟨he, h.grow hg⟩ : e = Ending.returned (.bool false) ∧ Ob2 w w.heap.size D k x n a l s n 1 l s W'))
    have DT := Lib.hid (fun n' a' l' s' W (h : Ob2 w w.heap.size D k x n a l s n 1 l s W) => (CT.out n' a' l' s' W).mono fun e W' ⟨he, hg⟩ => (⟨he, h.grow hg⟩ : e = Ending.returned (.string T) ∧ Ob2 w w.heap.size D k x n a l s n 1 l s W'))
    have hC := fun W (g : Grown w2 W) => hP2.grow g
    clear p0 p1 p2 p3 p4 p5 q0 q1 q2 q3 q4 q5 gp
    go_region_held3 (fun W => W.cell? ⟨w.heap.size, 0, none⟩ = some (.int .i64 k) ∧ W.cell? ⟨w.heap.size, 1, none⟩ = some (.bool x) ∧ W.cell? ⟨w.heap.size, 2, none⟩ = some (.int .i64 n) ∧ W.cell? ⟨w.heap.size, 3, none⟩ = some (.int .i64 a) ∧ W.cell? ⟨w.heap.size, 4, none⟩ = some (.int .i64 l) ∧ W.cell? ⟨w.heap.size, 5, none⟩ = some (.string s) ∧ W.cell? ⟨D, 0, none⟩ = some (.int .i64 k) ∧ W.cell? ⟨D, 1, none⟩ = some (.bool x) ∧ W.cell? ⟨D, 2, none⟩ = some (.int .i64 n) ∧ W.cell? ⟨D, 3, none⟩ = some (.int .i64 1) ∧ W.cell? ⟨D, 4, none⟩ = some (.int .i64 l) ∧ W.cell? ⟨D, 5, none⟩ = some (.string s) ∧ Grown w W)
      (first | assumption | (subst hD; exact ⟨(hC _ (by (repeat (first | exact Grown.refl _ | apply Grown.drew | apply Grown.alloc | (refine Grown.setCell ?_ (by simp) _))))).1, (hC _ (by (repeat (first | exact Grown.refl _ | apply Grown.drew | apply Grown.alloc | (refine Grown.setCell ?_ (by simp) _))))).2.1, (hC _ (by (repeat (first | exact Grown.refl _ | apply Grown.drew | apply Grown.alloc | (refine Grown.setCell ?_ (by simp) _))))).2.2.1, (hC _ (by (repeat (first | exact Grown.refl _ | apply Grown.drew | apply Grown.alloc | (refine Grown.setCell ?_ (by simp) _))))).2.2.2.1, (hC _ (by (repeat (first | exact Grown.refl _ | apply Grown.drew | apply Grown.alloc | (refine Grown.setCell ?_ (by simp) _))))).2.2.2.2.1, (hC _ (by (repeat (first | exact Grown.refl _ | apply Grown.drew | apply Grown.alloc | (refine Grown.setCell ?_ (by simp) _))))).2.2.2.2.2.1, by simp [go_sem], by simp [go_sem], by simp [go_sem], by simp [go_sem], by simp [go_sem], by simp [go_sem], (hC _ (by (repeat (first | exact Grown.refl _ | apply Grown.drew | apply Grown.alloc | (refine Grown.setCell ?_ (by simp) _))))).2.2.2.2.2.2⟩))
      (first | (go_at_call 35; refine (DX.out _ ?_).mono ?_; (assumption); rintro e w' ⟨rfl, hS⟩) | (go_at_call 36; refine (DT.out _ _ _ _ _ ?_).mono ?_; (assumption); rintro e w' ⟨rfl, hS⟩))
    rename_i hSw
    go_wp2_with fail
    go_ret
    exact ⟨rfl, hSw.2.2.2.2.2.2.2.2.2.2.2.2⟩

theorem fields_m2 (k : Int) (x : Bool) (n a l : Int) (s : ByteArray) (u : Int) (hu : u.tmod 4 = 2) (u1 : 0 ≤ u) (u2 : u ≤ 255) (CM : Hid (∀ W, MayIs true k x n a l s W)) (CX : Hid (∀ W, MayIs false k x n a 1 s W))
    (T : ByteArray) (hT : (T.toList == T.toList) = true)
    (CT : Hid (∀ n a l s W, Calls Try.prog 36 #[obv k x n a l s] W fun e w' => e = Ending.returned (.string T) ∧ Grown W w'))
    (k8 : (k == 8) = false) (k9 : (k == 9) = false) (w : World) :
    Calls Try.prog 7 #[obv k x n a l s, .int .u8 u] w fun e w' => e = Ending.returned (.bool true) ∧ Grown w w' := by
  all_goals
    go_enter Try.func7, Try.ntmps7
    go_wp2_with fail
    refine (known_yes _).mono ?_
    rintro e w1 ⟨rfl, g1⟩
    have hP : ObS w w.heap.size k x n a l s w1 := ObS.grow (by exact ⟨by simp [go_sem], by simp [go_sem], by simp [go_sem], by simp [go_sem], by simp [go_sem], by simp [go_sem], by (repeat (first | exact Grown.refl _ | assumption | apply Grown.drew | apply Grown.alloc | (refine Grown.setCell ?_ (by simp) _)))⟩) g1
    clear g1
    obtain ⟨p0, p1, p2, p3, p4, p5, gp⟩ := id hP
    go_wp2_with fail
    refine (CM.out _).mono ?_
    rintro e w2 ⟨rfl, g2⟩
    have hP2 := hP.grow g2
    clear p0 p1 p2 p3 p4 p5 gp hP g2
    have p0 := fun o t => (hP2.grow ((Grown.refl _).alloc o t)).1
    have p1 := fun o t => (hP2.grow ((Grown.refl _).alloc o t)).2.1
    have p2 := fun o t => (hP2.grow ((Grown.refl _).alloc o t)).2.2.1
    have p3 := fun o t => (hP2.grow ((Grown.refl _).alloc o t)).2.2.2.1
    have p4 := fun o t => (hP2.grow ((Grown.refl _).alloc o t)).2.2.2.2.1
    have p5 := fun o t => (hP2.grow ((Grown.refl _).alloc o t)).2.2.2.2.2.1
    obtain ⟨q0, q1, q2, q3, q4, q5, gp⟩ := id hP2
    go_wp2_with fail
    obtain ⟨D, hD⟩ : ∃ D, w2.heap.size = D := ⟨_, rfl⟩
    have DX := Lib.hid (fun W (h : Ob2 w w.heap.size D k x n a l s n a 1 s W) => (CX.out W).mono fun e W' ⟨he, hg⟩ => (⟨he, h.grow hg⟩ : e = Ending.returned (.bool false) ∧ Ob2 w w.heap.size D k x n a l s n a 1 s W'))
    have DT := Lib.hid (fun n' a' l' s' W (h : Ob2 w w.heap.size D k x n a l s n a 1 s W) => (CT.out n' a' l' s' W).mono fun e W' ⟨he, hg⟩ => (⟨he, h.grow hg⟩ : e = Ending.returned (.string T) ∧ Ob2 w w.heap.size D k x n a l s n a 1 s W'))
    have hC := fun W (g : Grown w2 W) => hP2.grow g
    clear p0 p1 p2 p3 p4 p5 q0 q1 q2 q3 q4 q5 gp
    go_region_held3 (fun W => W.cell? ⟨w.heap.size, 0, none⟩ = some (.int .i64 k) ∧ W.cell? ⟨w.heap.size, 1, none⟩ = some (.bool x) ∧ W.cell? ⟨w.heap.size, 2, none⟩ = some (.int .i64 n) ∧ W.cell? ⟨w.heap.size, 3, none⟩ = some (.int .i64 a) ∧ W.cell? ⟨w.heap.size, 4, none⟩ = some (.int .i64 l) ∧ W.cell? ⟨w.heap.size, 5, none⟩ = some (.string s) ∧ W.cell? ⟨D, 0, none⟩ = some (.int .i64 k) ∧ W.cell? ⟨D, 1, none⟩ = some (.bool x) ∧ W.cell? ⟨D, 2, none⟩ = some (.int .i64 n) ∧ W.cell? ⟨D, 3, none⟩ = some (.int .i64 a) ∧ W.cell? ⟨D, 4, none⟩ = some (.int .i64 1) ∧ W.cell? ⟨D, 5, none⟩ = some (.string s) ∧ Grown w W)
      (first | assumption | (subst hD; exact ⟨(hC _ (by (repeat (first | exact Grown.refl _ | apply Grown.drew | apply Grown.alloc | (refine Grown.setCell ?_ (by simp) _))))).1, (hC _ (by (repeat (first | exact Grown.refl _ | apply Grown.drew | apply Grown.alloc | (refine Grown.setCell ?_ (by simp) _))))).2.1, (hC _ (by (repeat (first | exact Grown.refl _ | apply Grown.drew | apply Grown.alloc | (refine Grown.setCell ?_ (by simp) _))))).2.2.1, (hC _ (by (repeat (first | exact Grown.refl _ | apply Grown.drew | apply Grown.alloc | (refine Grown.setCell ?_ (by simp) _))))).2.2.2.1, (hC _ (by (repeat (first | exact Grown.refl _ | apply Grown.drew | apply Grown.alloc | (refine Grown.setCell ?_ (by simp) _))))).2.2.2.2.1, (hC _ (by (repeat (first | exact Grown.refl _ | apply Grown.drew | apply Grown.alloc | (refine Grown.setCell ?_ (by simp) _))))).2.2.2.2.2.1, by simp [go_sem], by simp [go_sem], by simp [go_sem], by simp [go_sem], by simp [go_sem], by simp [go_sem], (hC _ (by (repeat (first | exact Grown.refl _ | apply Grown.drew | apply Grown.alloc | (refine Grown.setCell ?_ (by simp) _))))).2.2.2.2.2.2⟩))
      (first | (go_at_call 35; refine (DX.out _ ?_).mono ?_; (assumption); rintro e w' ⟨rfl, hS⟩) | (go_at_call 36; refine (DT.out _ _ _ _ _ ?_).mono ?_; (assumption); rintro e w' ⟨rfl, hS⟩))
    rename_i hSw
    go_wp2_with fail
    go_ret
    exact ⟨rfl, hSw.2.2.2.2.2.2.2.2.2.2.2.2⟩

theorem fields_m3 (k : Int) (x : Bool) (n a l : Int) (s : ByteArray) (u : Int) (hu : u.tmod 4 = 3) (u1 : 0 ≤ u) (u2 : u ≤ 255) (CM : Hid (∀ W, MayIs true k x n a l s W)) (CX : Hid (∀ W, MayIs false k x 1 a l s W))
    (T : ByteArray) (hT : (T.toList == T.toList) = true)
    (CT : Hid (∀ n a l s W, Calls Try.prog 36 #[obv k x n a l s] W fun e w' => e = Ending.returned (.string T) ∧ Grown W w'))
    (hk : (k != 1) = false ∨ ((k != 1) = true ∧ (k != 6) = false) ∨ ((k != 1) = true ∧ (k != 6) = true ∧ (k != 5) = false)) (k8 : (k == 8) = false) (k9 : (k == 9) = false) (w : World) :
    Calls Try.prog 7 #[obv k x n a l s, .int .u8 u] w fun e w' => e = Ending.returned (.bool true) ∧ Grown w w' := by
  rcases hk with k1 | ⟨k1, k6⟩ | ⟨k1, k6, k5⟩
  all_goals
    go_enter Try.func7, Try.ntmps7
    go_wp2_with fail
    refine (known_yes _).mono ?_
    rintro e w1 ⟨rfl, g1⟩
    have hP : ObS w w.heap.size k x n a l s w1 := ObS.grow (by exact ⟨by simp [go_sem], by simp [go_sem], by simp [go_sem], by simp [go_sem], by simp [go_sem], by simp [go_sem], by (repeat (first | exact Grown.refl _ | assumption | apply Grown.drew | apply Grown.alloc | (refine Grown.setCell ?_ (by simp) _)))⟩) g1
    clear g1
    obtain ⟨p0, p1, p2, p3, p4, p5, gp⟩ := id hP
    go_wp2_with fail
    refine (CM.out _).mono ?_
    rintro e w2 ⟨rfl, g2⟩
    have hP2 := hP.grow g2
    clear p0 p1 p2 p3 p4 p5 gp hP g2
    have p0 := fun o t => (hP2.grow ((Grown.refl _).alloc o t)).1
    have p1 := fun o t => (hP2.grow ((Grown.refl _).alloc o t)).2.1
    have p2 := fun o t => (hP2.grow ((Grown.refl _).alloc o t)).2.2.1
    have p3 := fun o t => (hP2.grow ((Grown.refl _).alloc o t)).2.2.2.1
    have p4 := fun o t => (hP2.grow ((Grown.refl _).alloc o t)).2.2.2.2.1
    have p5 := fun o t => (hP2.grow ((Grown.refl _).alloc o t)).2.2.2.2.2.1
    obtain ⟨q0, q1, q2, q3, q4, q5, gp⟩ := id hP2
    go_wp2_with fail
    obtain ⟨D, hD⟩ : ∃ D, w2.heap.size = D := ⟨_, rfl⟩
    have DX := Lib.hid (fun W (h : Ob2 w w.heap.size D k x n a l s 1 a l s W) => (CX.out W).mono fun e W' ⟨he, hg⟩ => (⟨he, h.grow hg⟩ : e = Ending.returned (.bool false) ∧ Ob2 w w.heap.size D k x n a l s 1 a l s W'))
    have DT := Lib.hid (fun n' a' l' s' W (h : Ob2 w w.heap.size D k x n a l s 1 a l s W) => (CT.out n' a' l' s' W).mono fun e W' ⟨he, hg⟩ => (⟨he, h.grow hg⟩ : e = Ending.returned (.string T) ∧ Ob2 w w.heap.size D k x n a l s 1 a l s W'))
    have hC := fun W (g : Grown w2 W) => hP2.grow g
    clear p0 p1 p2 p3 p4 p5 q0 q1 q2 q3 q4 q5 gp
    go_region_held3 (fun W => W.cell? ⟨w.heap.size, 0, none⟩ = some (.int .i64 k) ∧ W.cell? ⟨w.heap.size, 1, none⟩ = some (.bool x) ∧ W.cell? ⟨w.heap.size, 2, none⟩ = some (.int .i64 n) ∧ W.cell? ⟨w.heap.size, 3, none⟩ = some (.int .i64 a) ∧ W.cell? ⟨w.heap.size, 4, none⟩ = some (.int .i64 l) ∧ W.cell? ⟨w.heap.size, 5, none⟩ = some (.string s) ∧ W.cell? ⟨D, 0, none⟩ = some (.int .i64 k) ∧ W.cell? ⟨D, 1, none⟩ = some (.bool x) ∧ W.cell? ⟨D, 2, none⟩ = some (.int .i64 1) ∧ W.cell? ⟨D, 3, none⟩ = some (.int .i64 a) ∧ W.cell? ⟨D, 4, none⟩ = some (.int .i64 l) ∧ W.cell? ⟨D, 5, none⟩ = some (.string s) ∧ Grown w W)
      (first | assumption | (subst hD; exact ⟨(hC _ (by (repeat (first | exact Grown.refl _ | apply Grown.drew | apply Grown.alloc | (refine Grown.setCell ?_ (by simp) _))))).1, (hC _ (by (repeat (first | exact Grown.refl _ | apply Grown.drew | apply Grown.alloc | (refine Grown.setCell ?_ (by simp) _))))).2.1, (hC _ (by (repeat (first | exact Grown.refl _ | apply Grown.drew | apply Grown.alloc | (refine Grown.setCell ?_ (by simp) _))))).2.2.1, (hC _ (by (repeat (first | exact Grown.refl _ | apply Grown.drew | apply Grown.alloc | (refine Grown.setCell ?_ (by simp) _))))).2.2.2.1, (hC _ (by (repeat (first | exact Grown.refl _ | apply Grown.drew | apply Grown.alloc | (refine Grown.setCell ?_ (by simp) _))))).2.2.2.2.1, (hC _ (by (repeat (first | exact Grown.refl _ | apply Grown.drew | apply Grown.alloc | (refine Grown.setCell ?_ (by simp) _))))).2.2.2.2.2.1, by simp [go_sem], by simp [go_sem], by simp [go_sem], by simp [go_sem], by simp [go_sem], by simp [go_sem], (hC _ (by (repeat (first | exact Grown.refl _ | apply Grown.drew | apply Grown.alloc | (refine Grown.setCell ?_ (by simp) _))))).2.2.2.2.2.2⟩))
      (first | (go_at_call 35; refine (DX.out _ ?_).mono ?_; (assumption); rintro e w' ⟨rfl, hS⟩) | (go_at_call 36; refine (DT.out _ _ _ _ _ ?_).mono ?_; (assumption); rintro e w' ⟨rfl, hS⟩))
    rename_i hSw
    go_wp2_with fail
    go_ret
    exact ⟨rfl, hSw.2.2.2.2.2.2.2.2.2.2.2.2⟩

theorem fields_e0 (k : Int) (x : Bool) (n a l : Int) (s : ByteArray) (u : Int) (hu : u.tmod 4 = 0) (u1 : 0 ≤ u) (u2 : u ≤ 255) (CM : Hid (∀ W, MayIs true k x n a l s W))
    (k5 : (k == 5) = true) (k8 : (k == 8) = false) (k9 : (k == 9) = false) (w : World) :
    Calls Try.prog 7 #[obv k x n a l s, .int .u8 u] w fun e w' => e = Ending.returned (.bool true) ∧ Grown w w' := by
  all_goals
    go_enter Try.func7, Try.ntmps7
    go_wp2_with fail
    refine (known_yes _).mono ?_
    rintro e w1 ⟨rfl, g1⟩
    have hP : ObS w w.heap.size k x n a l s w1 := ObS.grow (by exact ⟨by simp [go_sem], by simp [go_sem], by simp [go_sem], by simp [go_sem], by simp [go_sem], by simp [go_sem], by (repeat (first | exact Grown.refl _ | assumption | apply Grown.drew | apply Grown.alloc | (refine Grown.setCell ?_ (by simp) _)))⟩) g1
    clear g1
    obtain ⟨p0, p1, p2, p3, p4, p5, gp⟩ := id hP
    go_wp2_with fail
    refine (CM.out _).mono ?_
    rintro e w2 ⟨rfl, g2⟩
    have hP2 := hP.grow g2
    clear p0 p1 p2 p3 p4 p5 gp hP g2
    have p0 := fun o t => (hP2.grow ((Grown.refl _).alloc o t)).1
    have p1 := fun o t => (hP2.grow ((Grown.refl _).alloc o t)).2.1
    have p2 := fun o t => (hP2.grow ((Grown.refl _).alloc o t)).2.2.1
    have p3 := fun o t => (hP2.grow ((Grown.refl _).alloc o t)).2.2.2.1
    have p4 := fun o t => (hP2.grow ((Grown.refl _).alloc o t)).2.2.2.2.1
    have p5 := fun o t => (hP2.grow ((Grown.refl _).alloc o t)).2.2.2.2.2.1
    obtain ⟨q0, q1, q2, q3, q4, q5, gp⟩ := id hP2
    go_wp2_with fail
    go_ret
    exact ⟨rfl, gp.alloc _ _⟩

theorem fields_e1 (k : Int) (x : Bool) (n a l : Int) (s : ByteArray) (u : Int) (hu : u.tmod 4 = 1) (u1 : 0 ≤ u) (u2 : u ≤ 255) (CM : Hid (∀ W, MayIs true k x n a l s W))
    (hrow : (k == 8) = true ∨ ((k == 8) = false ∧ (k == 9) = true)) (w : World) :
    Calls Try.prog 7 #[obv k x n a l s, .int .u8 u] w fun e w' => e = Ending.returned (.bool true) ∧ Grown w w' := by
  rcases hrow with k8 | ⟨k8, k9⟩
  all_goals
    go_enter Try.func7, Try.ntmps7
    go_wp2_with fail
    refine (known_yes _).mono ?_
    rintro e w1 ⟨rfl, g1⟩
    have hP : ObS w w.heap.size k x n a l s w1 := ObS.grow (by exact ⟨by simp [go_sem], by simp [go_sem], by simp [go_sem], by simp [go_sem], by simp [go_sem], by simp [go_sem], by (repeat (first | exact Grown.refl _ | assumption | apply Grown.drew | apply Grown.alloc | (refine Grown.setCell ?_ (by simp) _)))⟩) g1
    clear g1
    obtain ⟨p0, p1, p2, p3, p4, p5, gp⟩ := id hP
    go_wp2_with fail
    refine (CM.out _).mono ?_
    rintro e w2 ⟨rfl, g2⟩
    have hP2 := hP.grow g2
    clear p0 p1 p2 p3 p4 p5 gp hP g2
    have p0 := fun o t => (hP2.grow ((Grown.refl _).alloc o t)).1
    have p1 := fun o t => (hP2.grow ((Grown.refl _).alloc o t)).2.1
    have p2 := fun o t => (hP2.grow ((Grown.refl _).alloc o t)).2.2.1
    have p3 := fun o t => (hP2.grow ((Grown.refl _).alloc o t)).2.2.2.1
    have p4 := fun o t => (hP2.grow ((Grown.refl _).alloc o t)).2.2.2.2.1
    have p5 := fun o t => (hP2.grow ((Grown.refl _).alloc o t)).2.2.2.2.2.1
    obtain ⟨q0, q1, q2, q3, q4, q5, gp⟩ := id hP2
    go_wp2_with fail
    go_ret
    exact ⟨rfl, gp.alloc _ _⟩

theorem fields_e2 (k : Int) (x : Bool) (n a l : Int) (s : ByteArray) (u : Int) (hu : u.tmod 4 = 2) (u1 : 0 ≤ u) (u2 : u ≤ 255) (CM : Hid (∀ W, MayIs true k x n a l s W))
    (hrow : (k == 8) = true ∨ ((k == 8) = false ∧ (k == 9) = true)) (w : World) :
    Calls Try.prog 7 #[obv k x n a l s, .int .u8 u] w fun e w' => e = Ending.returned (.bool true) ∧ Grown w w' := by
  rcases hrow with k8 | ⟨k8, k9⟩
  all_goals
    go_enter Try.func7, Try.ntmps7
    go_wp2_with fail
    refine (known_yes _).mono ?_
    rintro e w1 ⟨rfl, g1⟩
    have hP : ObS w w.heap.size k x n a l s w1 := ObS.grow (by exact ⟨by simp [go_sem], by simp [go_sem], by simp [go_sem], by simp [go_sem], by simp [go_sem], by simp [go_sem], by (repeat (first | exact Grown.refl _ | assumption | apply Grown.drew | apply Grown.alloc | (refine Grown.setCell ?_ (by simp) _)))⟩) g1
    clear g1
    obtain ⟨p0, p1, p2, p3, p4, p5, gp⟩ := id hP
    go_wp2_with fail
    refine (CM.out _).mono ?_
    rintro e w2 ⟨rfl, g2⟩
    have hP2 := hP.grow g2
    clear p0 p1 p2 p3 p4 p5 gp hP g2
    have p0 := fun o t => (hP2.grow ((Grown.refl _).alloc o t)).1
    have p1 := fun o t => (hP2.grow ((Grown.refl _).alloc o t)).2.1
    have p2 := fun o t => (hP2.grow ((Grown.refl _).alloc o t)).2.2.1
    have p3 := fun o t => (hP2.grow ((Grown.refl _).alloc o t)).2.2.2.1
    have p4 := fun o t => (hP2.grow ((Grown.refl _).alloc o t)).2.2.2.2.1
    have p5 := fun o t => (hP2.grow ((Grown.refl _).alloc o t)).2.2.2.2.2.1
    obtain ⟨q0, q1, q2, q3, q4, q5, gp⟩ := id hP2
    go_wp2_with fail
    go_ret
    exact ⟨rfl, gp.alloc _ _⟩

theorem fields_e3 (k : Int) (x : Bool) (n a l : Int) (s : ByteArray) (u : Int) (hu : u.tmod 4 = 3) (u1 : 0 ≤ u) (u2 : u ≤ 255) (CM : Hid (∀ W, MayIs true k x n a l s W))
    (k1 : (k != 1) = true) (k6 : (k != 6) = true) (k5 : (k != 5) = true) (hrow : ((k == 8) = true) ∨ ((k == 8) = false ∧ (k == 9) = true) ∨ ((k == 8) = false ∧ (k == 9) = false)) (w : World) :
    Calls Try.prog 7 #[obv k x n a l s, .int .u8 u] w fun e w' => e = Ending.returned (.bool true) ∧ Grown w w' := by
  rcases hrow with k8 | ⟨k8, k9⟩ | ⟨k8, k9⟩
  all_goals
    go_enter Try.func7, Try.ntmps7
    go_wp2_with fail
    refine (known_yes _).mono ?_
    rintro e w1 ⟨rfl, g1⟩
    have hP : ObS w w.heap.size k x n a l s w1 := ObS.grow (by exact ⟨by simp [go_sem], by simp [go_sem], by simp [go_sem], by simp [go_sem], by simp [go_sem], by simp [go_sem], by (repeat (first | exact Grown.refl _ | assumption | apply Grown.drew | apply Grown.alloc | (refine Grown.setCell ?_ (by simp) _)))⟩) g1
    clear g1
    obtain ⟨p0, p1, p2, p3, p4, p5, gp⟩ := id hP
    go_wp2_with fail
    refine (CM.out _).mono ?_
    rintro e w2 ⟨rfl, g2⟩
    have hP2 := hP.grow g2
    clear p0 p1 p2 p3 p4 p5 gp hP g2
    have p0 := fun o t => (hP2.grow ((Grown.refl _).alloc o t)).1
    have p1 := fun o t => (hP2.grow ((Grown.refl _).alloc o t)).2.1
    have p2 := fun o t => (hP2.grow ((Grown.refl _).alloc o t)).2.2.1
    have p3 := fun o t => (hP2.grow ((Grown.refl _).alloc o t)).2.2.2.1
    have p4 := fun o t => (hP2.grow ((Grown.refl _).alloc o t)).2.2.2.2.1
    have p5 := fun o t => (hP2.grow ((Grown.refl _).alloc o t)).2.2.2.2.2.1
    obtain ⟨q0, q1, q2, q3, q4, q5, gp⟩ := id hP2
    go_wp2_with fail
    go_ret
    exact ⟨rfl, gp.alloc _ _⟩
end Go.Proofs.Ytenmbkngkabonaa

