/- BowSays: the walk. -/
import Derived.Test.YtnienpalbfgflaaC14
import Derived.Test.YtnienpalbfgflaaC16
import Derived.Deep.RegionHeld3
namespace Go.Proofs.Ytnienpalbfgflaa
set_option linter.unusedVariables false
open Go.RowKit

/-- seven edges in seven blocks -/
abbrev Sev (w : World) (p0 p1 p2 p3 p4 p5 p6 : Nat) (x00 : Int) (y00 : Int) (b0 : Bool) (cx0 : Int) (cy0 : Int) (x10 : Int) (y10 : Int) (x01 : Int) (y01 : Int) (b1 : Bool) (cx1 : Int) (cy1 : Int) (x11 : Int) (y11 : Int) (x02 : Int) (y02 : Int) (b2 : Bool) (cx2 : Int) (cy2 : Int) (x12 : Int) (y12 : Int) (x03 : Int) (y03 : Int) (b3 : Bool) (cx3 : Int) (cy3 : Int) (x13 : Int) (y13 : Int) (Z : World) : Prop := Z.cell? ⟨p0, 0, none⟩ = some (.int .i64 x00) ∧ Z.cell? ⟨p0, 1, none⟩ = some (.int .i64 y00) ∧ Z.cell? ⟨p0, 2, none⟩ = some (.bool b0) ∧ Z.cell? ⟨p0, 3, none⟩ = some (.int .i64 cx0) ∧ Z.cell? ⟨p0, 4, none⟩ = some (.int .i64 cy0) ∧ Z.cell? ⟨p0, 5, none⟩ = some (.int .i64 x10) ∧ Z.cell? ⟨p0, 6, none⟩ = some (.int .i64 y10) ∧ Z.cell? ⟨p1, 0, none⟩ = some (.int .i64 x01) ∧ Z.cell? ⟨p1, 1, none⟩ = some (.int .i64 y01) ∧ Z.cell? ⟨p1, 2, none⟩ = some (.bool b1) ∧ Z.cell? ⟨p1, 3, none⟩ = some (.int .i64 cx1) ∧ Z.cell? ⟨p1, 4, none⟩ = some (.int .i64 cy1) ∧ Z.cell? ⟨p1, 5, none⟩ = some (.int .i64 x11) ∧ Z.cell? ⟨p1, 6, none⟩ = some (.int .i64 y11) ∧ Z.cell? ⟨p2, 0, none⟩ = some (.int .i64 x01) ∧ Z.cell? ⟨p2, 1, none⟩ = some (.int .i64 y01) ∧ Z.cell? ⟨p2, 2, none⟩ = some (.bool b1) ∧ Z.cell? ⟨p2, 3, none⟩ = some (.int .i64 cx1) ∧ Z.cell? ⟨p2, 4, none⟩ = some (.int .i64 cy1) ∧ Z.cell? ⟨p2, 5, none⟩ = some (.int .i64 x11) ∧ Z.cell? ⟨p2, 6, none⟩ = some (.int .i64 y11) ∧ Z.cell? ⟨p3, 0, none⟩ = some (.int .i64 x02) ∧ Z.cell? ⟨p3, 1, none⟩ = some (.int .i64 y02) ∧ Z.cell? ⟨p3, 2, none⟩ = some (.bool b2) ∧ Z.cell? ⟨p3, 3, none⟩ = some (.int .i64 cx2) ∧ Z.cell? ⟨p3, 4, none⟩ = some (.int .i64 cy2) ∧ Z.cell? ⟨p3, 5, none⟩ = some (.int .i64 x12) ∧ Z.cell? ⟨p3, 6, none⟩ = some (.int .i64 y12) ∧ Z.cell? ⟨p4, 0, none⟩ = some (.int .i64 x03) ∧ Z.cell? ⟨p4, 1, none⟩ = some (.int .i64 y03) ∧ Z.cell? ⟨p4, 2, none⟩ = some (.bool b3) ∧ Z.cell? ⟨p4, 3, none⟩ = some (.int .i64 cx3) ∧ Z.cell? ⟨p4, 4, none⟩ = some (.int .i64 cy3) ∧ Z.cell? ⟨p4, 5, none⟩ = some (.int .i64 x13) ∧ Z.cell? ⟨p4, 6, none⟩ = some (.int .i64 y13) ∧ Z.cell? ⟨p5, 0, none⟩ = some (.int .i64 x02) ∧ Z.cell? ⟨p5, 1, none⟩ = some (.int .i64 y02) ∧ Z.cell? ⟨p5, 2, none⟩ = some (.bool b2) ∧ Z.cell? ⟨p5, 3, none⟩ = some (.int .i64 cx2) ∧ Z.cell? ⟨p5, 4, none⟩ = some (.int .i64 cy2) ∧ Z.cell? ⟨p5, 5, none⟩ = some (.int .i64 x12) ∧ Z.cell? ⟨p5, 6, none⟩ = some (.int .i64 y12) ∧ Z.cell? ⟨p6, 0, none⟩ = some (.int .i64 x03) ∧ Z.cell? ⟨p6, 1, none⟩ = some (.int .i64 y03) ∧ Z.cell? ⟨p6, 2, none⟩ = some (.bool b3) ∧ Z.cell? ⟨p6, 3, none⟩ = some (.int .i64 cx3) ∧ Z.cell? ⟨p6, 4, none⟩ = some (.int .i64 cy3) ∧ Z.cell? ⟨p6, 5, none⟩ = some (.int .i64 x13) ∧ Z.cell? ⟨p6, 6, none⟩ = some (.int .i64 y13) ∧ Fr (fun _ => False) w Z
theorem Sev.fr {w : World} {p0 p1 p2 p3 p4 p5 p6 : Nat} {x00 : Int} {y00 : Int} {b0 : Bool} {cx0 : Int} {cy0 : Int} {x10 : Int} {y10 : Int} {x01 : Int} {y01 : Int} {b1 : Bool} {cx1 : Int} {cy1 : Int} {x11 : Int} {y11 : Int} {x02 : Int} {y02 : Int} {b2 : Bool} {cx2 : Int} {cy2 : Int} {x12 : Int} {y12 : Int} {x03 : Int} {y03 : Int} {b3 : Bool} {cx3 : Int} {cy3 : Int} {x13 : Int} {y13 : Int} {Z Z' : World} (h : Sev w p0 p1 p2 p3 p4 p5 p6 x00 y00 b0 cx0 cy0 x10 y10 x01 y01 b1 cx1 cy1 x11 y11 x02 y02 b2 cx2 cy2 x12 y12 x03 y03 b3 cx3 cy3 x13 y13 Z) (k : Fr (fun _ => False) Z Z') : Sev w p0 p1 p2 p3 p4 p5 p6 x00 y00 b0 cx0 cy0 x10 y10 x01 y01 b1 cx1 cy1 x11 y11 x02 y02 b2 cx2 cy2 x12 y12 x03 y03 b3 cx3 cy3 x13 y13 Z' := by
  obtain ⟨t0, t1, t2, t3, t4, t5, t6, t7, t8, t9, t10, t11, t12, t13, t14, t15, t16, t17, t18, t19, t20, t21, t22, t23, t24, t25, t26, t27, t28, t29, t30, t31, t32, t33, t34, t35, t36, t37, t38, t39, t40, t41, t42, t43, t44, t45, t46, t47, t48, tf⟩ := h
  exact ⟨cell_fr0 t0 k, cell_fr0 t1 k, cell_fr0 t2 k, cell_fr0 t3 k, cell_fr0 t4 k, cell_fr0 t5 k, cell_fr0 t6 k, cell_fr0 t7 k, cell_fr0 t8 k, cell_fr0 t9 k, cell_fr0 t10 k, cell_fr0 t11 k, cell_fr0 t12 k, cell_fr0 t13 k, cell_fr0 t14 k, cell_fr0 t15 k, cell_fr0 t16 k, cell_fr0 t17 k, cell_fr0 t18 k, cell_fr0 t19 k, cell_fr0 t20 k, cell_fr0 t21 k, cell_fr0 t22 k, cell_fr0 t23 k, cell_fr0 t24 k, cell_fr0 t25 k, cell_fr0 t26 k, cell_fr0 t27 k, cell_fr0 t28 k, cell_fr0 t29 k, cell_fr0 t30 k, cell_fr0 t31 k, cell_fr0 t32 k, cell_fr0 t33 k, cell_fr0 t34 k, cell_fr0 t35 k, cell_fr0 t36 k, cell_fr0 t37 k, cell_fr0 t38 k, cell_fr0 t39 k, cell_fr0 t40 k, cell_fr0 t41 k, cell_fr0 t42 k, cell_fr0 t43 k, cell_fr0 t44 k, cell_fr0 t45 k, cell_fr0 t46 k, cell_fr0 t47 k, cell_fr0 t48 k, tf.trans k⟩
theorem Sev.last {w : World} {p0 p1 p2 p3 p4 p5 p6 : Nat} {x00 : Int} {y00 : Int} {b0 : Bool} {cx0 : Int} {cy0 : Int} {x10 : Int} {y10 : Int} {x01 : Int} {y01 : Int} {b1 : Bool} {cx1 : Int} {cy1 : Int} {x11 : Int} {y11 : Int} {x02 : Int} {y02 : Int} {b2 : Bool} {cx2 : Int} {cy2 : Int} {x12 : Int} {y12 : Int} {x03 : Int} {y03 : Int} {b3 : Bool} {cx3 : Int} {cy3 : Int} {x13 : Int} {y13 : Int} {Z : World} (h : Sev w p0 p1 p2 p3 p4 p5 p6 x00 y00 b0 cx0 cy0 x10 y10 x01 y01 b1 cx1 cy1 x11 y11 x02 y02 b2 cx2 cy2 x12 y12 x03 y03 b3 cx3 cy3 x13 y13 Z) : Fr (fun _ => False) w Z := by
  obtain ⟨t0, t1, t2, t3, t4, t5, t6, t7, t8, t9, t10, t11, t12, t13, t14, t15, t16, t17, t18, t19, t20, t21, t22, t23, t24, t25, t26, t27, t28, t29, t30, t31, t32, t33, t34, t35, t36, t37, t38, t39, t40, t41, t42, t43, t44, t45, t46, t47, t48, tf⟩ := h
  exact tf
theorem Blk.all7 {W Z : World} {p : Nat} {a b c d e f g : Value} (h : Blk W p [a, b, c, d, e, f, g] Z) : Z.cell? ⟨p, 0, none⟩ = some a ∧ Z.cell? ⟨p, 1, none⟩ = some b ∧ Z.cell? ⟨p, 2, none⟩ = some c ∧ Z.cell? ⟨p, 3, none⟩ = some d ∧ Z.cell? ⟨p, 4, none⟩ = some e ∧ Z.cell? ⟨p, 5, none⟩ = some f ∧ Z.cell? ⟨p, 6, none⟩ = some g := h.at0
set_option maxHeartbeats 16000000 in
set_option maxRecDepth 100000 in
theorem walk_BowSays (e : Pl.Ed) (x y n : Int) (bx : -9223372036854775808 ≤ x ∧ x ≤ 9223372036854775807) (by' : -9223372036854775808 ≤ y ∧ y ≤ 9223372036854775807) (w : World) :
    Calls Try.prog 12 #[edv e, .int .i64 x, .int .i64 y, .int .i64 n] w fun en w' => en = .returned (.bool true) ∧ Kept w w' := by
  have KN := Lib.hid (fun Z => known26 Z)
  have K1 := Lib.hid (fun Z => shift_any e x y bx by' Z)
  have K2 := Lib.hid (fun Z => rshift_any e x y Z)
  have K3 := Lib.hid (fun Z => halve_any e Z)
  have K4 := Lib.hid (fun Z => rhalve_any e Z)
  have M1 := Lib.hid (fun Z => may_fr e Z)
  have M2 := Lib.hid (fun Z => (isedge25_any e Z).mono fun en w' hh => (⟨hh.1, Fr.of_grown _ hh.2⟩ : _ ∧ Fr (fun _ => False) Z w'))
  have T1 := Lib.hid (fun Z => turns_fr e x y Z)
  have T2 := Lib.hid (fun Z => turns26_any e x y Z)
  have N1 := Lib.hid (fun Z => line_rd e y n Z)
  have N2 := Lib.hid (fun Z => line26_rd e y n Z)
  have P1 := Lib.hid (fun Z => flip_fr e Z)
  have P2 := Lib.hid (fun Z => (flip25_any e Z).mono fun en w' hh => (⟨hh.1, Fr.of_grown _ hh.2⟩ : _ ∧ Fr (fun _ => False) Z w'))
  have hll := Pl.line_len e y n
  obtain ⟨L, hL⟩ : ∃ L, L = Pl.line e y n := ⟨_, rfl⟩
  rw [← hL] at N1 N2 hll
  have KC := Lib.hid (fun va vb Z h1 h2 => crosses_same va vb L (by omega) Z h1 h2)
  obtain ⟨t, ht⟩ : ∃ t, t = Pl.turns e x y := ⟨_, rfl⟩
  rw [← ht] at T1 T2
  obtain ⟨m, hm⟩ : ∃ m, m = decide e.may := ⟨_, rfl⟩
  rw [← hm] at M1 M2
  obtain ⟨⟨f, ok⟩, hf⟩ : ∃ f, f = Pl.shiftR e x y := ⟨_, rfl⟩
  rw [← hf] at K1 K2
  obtain ⟨⟨A, B, is⟩, hh⟩ : ∃ f, f = e.hout := ⟨_, rfl⟩
  rw [← hh] at K3 K4
  obtain ⟨fe, hfe⟩ : ∃ g, g = e.flip := ⟨_, rfl⟩
  rw [← hfe] at P1 P2
  clear hL ht hm hf hh hfe hll
  obtain ⟨x00, y00, b0, cx0, cy0, x10, y10⟩ := e
  obtain ⟨x01, y01, b1, cx1, cy1, x11, y11⟩ := f
  obtain ⟨x02, y02, b2, cx2, cy2, x12, y12⟩ := A
  obtain ⟨x03, y03, b3, cx3, cy3, x13, y13⟩ := B
  obtain ⟨x04, y04, b4, cx4, cy4, x14, y14⟩ := fe
  simp only [edv] at K1 K2 K3 K4 M1 M2 T1 T2 N1 N2 P1 P2 ⊢
  go_enter Try.func12, Try.ntmps12
  go_wp2_with fail
  have B0 := Lib.hid (Blk.new (W := w) (Z := w) #[.int .i64 x00, .int .i64 y00, .bool b0, .int .i64 cx0, .int .i64 cy0, .int .i64 x10, .int .i64 y10] 25 (Nat.le_refl _))
  obtain ⟨p0, hp0⟩ : ∃ p, p = w.heap.size := ⟨_, rfl⟩
  rw [← hp0] at B0 ⊢
  clear hp0
  refine (KN.out _).mono ?_
  rintro en w1 ⟨rfl, f1⟩
  have B0a := Lib.hid (B0.out.fr0 f1)
  have F1 := Lib.hid ((Fr.alloc (fun _ => False) w (.cells #[.int .i64 x00, .int .i64 y00, .bool b0, .int .i64 cx0, .int .i64 cy0, .int .i64 x10, .int .i64 y10] 25)).trans f1)
  clear f1 KN B0
  obtain ⟨a0, a1, a2, a3, a4, a5, a6⟩ := B0a.out.at0
  go_wp2_with fail
  refine (K1.out _).mono ?_
  rintro en w2 ⟨rfl, f2⟩
  have F2 := Lib.hid (F1.out.trans f2)
  have B0b := Lib.hid ((B0a.out.fr0 f2).alloc #[.int .i64 x01, .int .i64 y01, .bool b1, .int .i64 cx1, .int .i64 cy1, .int .i64 x11, .int .i64 y11] 25)
  have B1b := Lib.hid (Blk.new (W := w) (Z := w2) #[.int .i64 x01, .int .i64 y01, .bool b1, .int .i64 cx1, .int .i64 cy1, .int .i64 x11, .int .i64 y11] 25 F2.out.2.2.1)
  have F2b := Lib.hid (F2.out.trans (Fr.alloc (fun _ => False) w2 (.cells #[.int .i64 x01, .int .i64 y01, .bool b1, .int .i64 cx1, .int .i64 cy1, .int .i64 x11, .int .i64 y11] 25)))
  obtain ⟨p1, hp1⟩ : ∃ p, p = w2.heap.size := ⟨_, rfl⟩
  rw [← hp1] at B1b
  clear f2 B0a F1 F2 K1 a0 a1 a2 a3 a4 a5 a6
  obtain ⟨a0, a1, a2, a3, a4, a5, a6⟩ := B0b.out.at0
  go_wp2_with fail
  rw [← hp1]
  clear hp1
  refine (K2.out _).mono ?_
  rintro en w3 ⟨rfl, f3⟩
  have F3 := Lib.hid (F2b.out.trans f3)
  have B0c := Lib.hid ((B0b.out.fr0 f3).alloc #[.int .i64 x01, .int .i64 y01, .bool b1, .int .i64 cx1, .int .i64 cy1, .int .i64 x11, .int .i64 y11] 25)
  have B1c := Lib.hid ((B1b.out.fr0 f3).alloc #[.int .i64 x01, .int .i64 y01, .bool b1, .int .i64 cx1, .int .i64 cy1, .int .i64 x11, .int .i64 y11] 25)
  have B2c := Lib.hid (Blk.new (W := w) (Z := w3) #[.int .i64 x01, .int .i64 y01, .bool b1, .int .i64 cx1, .int .i64 cy1, .int .i64 x11, .int .i64 y11] 25 F3.out.2.2.1)
  have F3b := Lib.hid (F3.out.trans (Fr.alloc (fun _ => False) w3 (.cells #[.int .i64 x01, .int .i64 y01, .bool b1, .int .i64 cx1, .int .i64 cy1, .int .i64 x11, .int .i64 y11] 25)))
  obtain ⟨p2, hp2⟩ : ∃ p, p = w3.heap.size := ⟨_, rfl⟩
  rw [← hp2] at B2c
  clear f3 B0b B1b F2b F3 K2 a0 a1 a2 a3 a4 a5 a6
  obtain ⟨a0, a1, a2, a3, a4, a5, a6⟩ := B0c.out.at0
  go_wp2_with fail
  rw [← hp2]
  clear hp2
  refine (K3.out _).mono ?_
  rintro en w4 ⟨rfl, f4⟩
  have F4 := Lib.hid (F3b.out.trans f4)
  have B0d := Lib.hid (((B0c.out.fr0 f4).alloc #[.int .i64 x02, .int .i64 y02, .bool b2, .int .i64 cx2, .int .i64 cy2, .int .i64 x12, .int .i64 y12] 25).alloc #[.int .i64 x03, .int .i64 y03, .bool b3, .int .i64 cx3, .int .i64 cy3, .int .i64 x13, .int .i64 y13] 25)
  have B1d := Lib.hid (((B1c.out.fr0 f4).alloc #[.int .i64 x02, .int .i64 y02, .bool b2, .int .i64 cx2, .int .i64 cy2, .int .i64 x12, .int .i64 y12] 25).alloc #[.int .i64 x03, .int .i64 y03, .bool b3, .int .i64 cx3, .int .i64 cy3, .int .i64 x13, .int .i64 y13] 25)
  have B2d := Lib.hid (((B2c.out.fr0 f4).alloc #[.int .i64 x02, .int .i64 y02, .bool b2, .int .i64 cx2, .int .i64 cy2, .int .i64 x12, .int .i64 y12] 25).alloc #[.int .i64 x03, .int .i64 y03, .bool b3, .int .i64 cx3, .int .i64 cy3, .int .i64 x13, .int .i64 y13] 25)
  have B3d := Lib.hid ((Blk.new (W := w) (Z := w4) #[.int .i64 x02, .int .i64 y02, .bool b2, .int .i64 cx2, .int .i64 cy2, .int .i64 x12, .int .i64 y12] 25 F4.out.2.2.1).alloc #[.int .i64 x03, .int .i64 y03, .bool b3, .int .i64 cx3, .int .i64 cy3, .int .i64 x13, .int .i64 y13] 25)
  have B4d := Lib.hid (Blk.new (W := w) (Z := w4.alloc (.cells #[.int .i64 x02, .int .i64 y02, .bool b2, .int .i64 cx2, .int .i64 cy2, .int .i64 x12, .int .i64 y12] 25)) #[.int .i64 x03, .int .i64 y03, .bool b3, .int .i64 cx3, .int .i64 cy3, .int .i64 x13, .int .i64 y13] 25 (Nat.le_trans F4.out.2.2.1 (by simp)))
  rw [show (w4.alloc (Obj.cells #[.int .i64 x02, .int .i64 y02, .bool b2, .int .i64 cx2, .int .i64 cy2, .int .i64 x12, .int .i64 y12] 25)).heap.size = w4.heap.size + 1 by simp] at B4d
  have F4b := Lib.hid ((F4.out.trans (Fr.alloc (fun _ => False) w4 (.cells #[.int .i64 x02, .int .i64 y02, .bool b2, .int .i64 cx2, .int .i64 cy2, .int .i64 x12, .int .i64 y12] 25))).trans (Fr.alloc (fun _ => False) (w4.alloc (.cells #[.int .i64 x02, .int .i64 y02, .bool b2, .int .i64 cx2, .int .i64 cy2, .int .i64 x12, .int .i64 y12] 25)) (.cells #[.int .i64 x03, .int .i64 y03, .bool b3, .int .i64 cx3, .int .i64 cy3, .int .i64 x13, .int .i64 y13] 25)))
  obtain ⟨p4, hp4⟩ : ∃ p, p = w4.heap.size + 1 := ⟨_, rfl⟩
  obtain ⟨p3, hp3⟩ : ∃ p, p = w4.heap.size := ⟨_, rfl⟩
  rw [← hp4] at B4d
  rw [← hp3] at B3d
  clear f4 B0c B1c B2c F3b F4 K3 a0 a1 a2 a3 a4 a5 a6
  obtain ⟨a0, a1, a2, a3, a4, a5, a6⟩ := B0d.out.at0
  go_wp2_with fail
  rw [← hp4, ← hp3]
  clear hp3 hp4
  refine (K4.out _).mono ?_
  rintro en w5 ⟨rfl, f5⟩
  have F5 := Lib.hid (F4b.out.trans f5)
  have B0e := Lib.hid (((B0d.out.fr0 f5).alloc #[.int .i64 x02, .int .i64 y02, .bool b2, .int .i64 cx2, .int .i64 cy2, .int .i64 x12, .int .i64 y12] 25).alloc #[.int .i64 x03, .int .i64 y03, .bool b3, .int .i64 cx3, .int .i64 cy3, .int .i64 x13, .int .i64 y13] 25)
  have B1e := Lib.hid (((B1d.out.fr0 f5).alloc #[.int .i64 x02, .int .i64 y02, .bool b2, .int .i64 cx2, .int .i64 cy2, .int .i64 x12, .int .i64 y12] 25).alloc #[.int .i64 x03, .int .i64 y03, .bool b3, .int .i64 cx3, .int .i64 cy3, .int .i64 x13, .int .i64 y13] 25)
  have B2e := Lib.hid (((B2d.out.fr0 f5).alloc #[.int .i64 x02, .int .i64 y02, .bool b2, .int .i64 cx2, .int .i64 cy2, .int .i64 x12, .int .i64 y12] 25).alloc #[.int .i64 x03, .int .i64 y03, .bool b3, .int .i64 cx3, .int .i64 cy3, .int .i64 x13, .int .i64 y13] 25)
  have B3e := Lib.hid (((B3d.out.fr0 f5).alloc #[.int .i64 x02, .int .i64 y02, .bool b2, .int .i64 cx2, .int .i64 cy2, .int .i64 x12, .int .i64 y12] 25).alloc #[.int .i64 x03, .int .i64 y03, .bool b3, .int .i64 cx3, .int .i64 cy3, .int .i64 x13, .int .i64 y13] 25)
  have B4e := Lib.hid (((B4d.out.fr0 f5).alloc #[.int .i64 x02, .int .i64 y02, .bool b2, .int .i64 cx2, .int .i64 cy2, .int .i64 x12, .int .i64 y12] 25).alloc #[.int .i64 x03, .int .i64 y03, .bool b3, .int .i64 cx3, .int .i64 cy3, .int .i64 x13, .int .i64 y13] 25)
  have B5e := Lib.hid ((Blk.new (W := w) (Z := w5) #[.int .i64 x02, .int .i64 y02, .bool b2, .int .i64 cx2, .int .i64 cy2, .int .i64 x12, .int .i64 y12] 25 F5.out.2.2.1).alloc #[.int .i64 x03, .int .i64 y03, .bool b3, .int .i64 cx3, .int .i64 cy3, .int .i64 x13, .int .i64 y13] 25)
  have B6e := Lib.hid (Blk.new (W := w) (Z := w5.alloc (.cells #[.int .i64 x02, .int .i64 y02, .bool b2, .int .i64 cx2, .int .i64 cy2, .int .i64 x12, .int .i64 y12] 25)) #[.int .i64 x03, .int .i64 y03, .bool b3, .int .i64 cx3, .int .i64 cy3, .int .i64 x13, .int .i64 y13] 25 (Nat.le_trans F5.out.2.2.1 (by simp)))
  rw [show (w5.alloc (Obj.cells #[.int .i64 x02, .int .i64 y02, .bool b2, .int .i64 cx2, .int .i64 cy2, .int .i64 x12, .int .i64 y12] 25)).heap.size = w5.heap.size + 1 by simp] at B6e
  have F5b := Lib.hid ((F5.out.trans (Fr.alloc (fun _ => False) w5 (.cells #[.int .i64 x02, .int .i64 y02, .bool b2, .int .i64 cx2, .int .i64 cy2, .int .i64 x12, .int .i64 y12] 25))).trans (Fr.alloc (fun _ => False) (w5.alloc (.cells #[.int .i64 x02, .int .i64 y02, .bool b2, .int .i64 cx2, .int .i64 cy2, .int .i64 x12, .int .i64 y12] 25)) (.cells #[.int .i64 x03, .int .i64 y03, .bool b3, .int .i64 cx3, .int .i64 cy3, .int .i64 x13, .int .i64 y13] 25)))
  obtain ⟨p6, hp6⟩ : ∃ p, p = w5.heap.size + 1 := ⟨_, rfl⟩
  obtain ⟨p5, hp5⟩ : ∃ p, p = w5.heap.size := ⟨_, rfl⟩
  rw [← hp6] at B6e
  rw [← hp5] at B5e
  clear f5 B0d B1d B2d B3d B4d F4b F5 K4 a0 a1 a2 a3 a4 a5 a6
  go_wp2_with fail
  rw [← hp6, ← hp5]
  clear hp5 hp6
  generalize hZ : (w5.alloc (.cells #[.int .i64 x02, .int .i64 y02, .bool b2, .int .i64 cx2, .int .i64 cy2, .int .i64 x12, .int .i64 y12] 25)).alloc (.cells #[.int .i64 x03, .int .i64 y03, .bool b3, .int .i64 cx3, .int .i64 cy3, .int .i64 x13, .int .i64 y13] 25) = ZZ at *
  clear hZ
  have HS : Hid (Sev w p0 p1 p2 p3 p4 p5 p6 x00 y00 b0 cx0 cy0 x10 y10 x01 y01 b1 cx1 cy1 x11 y11 x02 y02 b2 cx2 cy2 x12 y12 x03 y03 b3 cx3 cy3 x13 y13 ZZ) := Lib.hid (by
    obtain ⟨t0, t1, t2, t3, t4, t5, t6⟩ := B0e.out.at0
    obtain ⟨t7, t8, t9, t10, t11, t12, t13⟩ := B1e.out.at0
    obtain ⟨t14, t15, t16, t17, t18, t19, t20⟩ := B2e.out.at0
    obtain ⟨t21, t22, t23, t24, t25, t26, t27⟩ := B3e.out.at0
    obtain ⟨t28, t29, t30, t31, t32, t33, t34⟩ := B4e.out.at0
    obtain ⟨t35, t36, t37, t38, t39, t40, t41⟩ := B5e.out.at0
    obtain ⟨t42, t43, t44, t45, t46, t47, t48⟩ := B6e.out.at0
    exact ⟨t0, t1, t2, t3, t4, t5, t6, t7, t8, t9, t10, t11, t12, t13, t14, t15, t16, t17, t18, t19, t20, t21, t22, t23, t24, t25, t26, t27, t28, t29, t30, t31, t32, t33, t34, t35, t36, t37, t38, t39, t40, t41, t42, t43, t44, t45, t46, t47, t48, F5b.out⟩)
  clear B0e B1e B2e B3e B4e B5e B6e F5b
  have LM1 := Lib.hid (fun Z (h : Sev w p0 p1 p2 p3 p4 p5 p6 x00 y00 b0 cx0 cy0 x10 y10 x01 y01 b1 cx1 cy1 x11 y11 x02 y02 b2 cx2 cy2 x12 y12 x03 y03 b3 cx3 cy3 x13 y13 Z) => (M1.out Z).mono fun en w' hh => (⟨hh.1, hh.2, h.fr hh.2⟩ : en = .returned (.bool m) ∧ Fr (fun _ => False) Z w' ∧ Sev w p0 p1 p2 p3 p4 p5 p6 x00 y00 b0 cx0 cy0 x10 y10 x01 y01 b1 cx1 cy1 x11 y11 x02 y02 b2 cx2 cy2 x12 y12 x03 y03 b3 cx3 cy3 x13 y13 w'))
  have LM2 := Lib.hid (fun Z (h : Sev w p0 p1 p2 p3 p4 p5 p6 x00 y00 b0 cx0 cy0 x10 y10 x01 y01 b1 cx1 cy1 x11 y11 x02 y02 b2 cx2 cy2 x12 y12 x03 y03 b3 cx3 cy3 x13 y13 Z) => (M2.out Z).mono fun en w' hh => (⟨hh.1, hh.2, h.fr hh.2⟩ : en = .returned (.bool m) ∧ Fr (fun _ => False) Z w' ∧ Sev w p0 p1 p2 p3 p4 p5 p6 x00 y00 b0 cx0 cy0 x10 y10 x01 y01 b1 cx1 cy1 x11 y11 x02 y02 b2 cx2 cy2 x12 y12 x03 y03 b3 cx3 cy3 x13 y13 w'))
  have LT1 := Lib.hid (fun Z (h : Sev w p0 p1 p2 p3 p4 p5 p6 x00 y00 b0 cx0 cy0 x10 y10 x01 y01 b1 cx1 cy1 x11 y11 x02 y02 b2 cx2 cy2 x12 y12 x03 y03 b3 cx3 cy3 x13 y13 Z) => (T1.out Z).mono fun en w' hh => (⟨hh.1, hh.2, h.fr hh.2⟩ : en = .returned (.int .i64 t) ∧ Fr (fun _ => False) Z w' ∧ Sev w p0 p1 p2 p3 p4 p5 p6 x00 y00 b0 cx0 cy0 x10 y10 x01 y01 b1 cx1 cy1 x11 y11 x02 y02 b2 cx2 cy2 x12 y12 x03 y03 b3 cx3 cy3 x13 y13 w'))
  have LT2 := Lib.hid (fun Z (h : Sev w p0 p1 p2 p3 p4 p5 p6 x00 y00 b0 cx0 cy0 x10 y10 x01 y01 b1 cx1 cy1 x11 y11 x02 y02 b2 cx2 cy2 x12 y12 x03 y03 b3 cx3 cy3 x13 y13 Z) => (T2.out Z).mono fun en w' hh => (⟨hh.1, hh.2, h.fr hh.2⟩ : en = .returned (.int .i64 t) ∧ Fr (fun _ => False) Z w' ∧ Sev w p0 p1 p2 p3 p4 p5 p6 x00 y00 b0 cx0 cy0 x10 y10 x01 y01 b1 cx1 cy1 x11 y11 x02 y02 b2 cx2 cy2 x12 y12 x03 y03 b3 cx3 cy3 x13 y13 w'))
  have LP1 := Lib.hid (fun Z (h : Sev w p0 p1 p2 p3 p4 p5 p6 x00 y00 b0 cx0 cy0 x10 y10 x01 y01 b1 cx1 cy1 x11 y11 x02 y02 b2 cx2 cy2 x12 y12 x03 y03 b3 cx3 cy3 x13 y13 Z) => (P1.out Z).mono fun en w' hh => (⟨hh.1, hh.2, h.fr hh.2⟩ : en = .returned (.agg #[.int .i64 x04, .int .i64 y04, .bool b4, .int .i64 cx4, .int .i64 cy4, .int .i64 x14, .int .i64 y14]) ∧ Fr (fun _ => False) Z w' ∧ Sev w p0 p1 p2 p3 p4 p5 p6 x00 y00 b0 cx0 cy0 x10 y10 x01 y01 b1 cx1 cy1 x11 y11 x02 y02 b2 cx2 cy2 x12 y12 x03 y03 b3 cx3 cy3 x13 y13 w'))
  have LP2 := Lib.hid (fun Z (h : Sev w p0 p1 p2 p3 p4 p5 p6 x00 y00 b0 cx0 cy0 x10 y10 x01 y01 b1 cx1 cy1 x11 y11 x02 y02 b2 cx2 cy2 x12 y12 x03 y03 b3 cx3 cy3 x13 y13 Z) => (P2.out Z).mono fun en w' hh => (⟨hh.1, hh.2, h.fr hh.2⟩ : en = .returned (.agg #[.int .i64 x04, .int .i64 y04, .bool b4, .int .i64 cx4, .int .i64 cy4, .int .i64 x14, .int .i64 y14]) ∧ Fr (fun _ => False) Z w' ∧ Sev w p0 p1 p2 p3 p4 p5 p6 x00 y00 b0 cx0 cy0 x10 y10 x01 y01 b1 cx1 cy1 x11 y11 x02 y02 b2 cx2 cy2 x12 y12 x03 y03 b3 cx3 cy3 x13 y13 w'))
  have LN1 := Lib.hid (fun Z (h : Sev w p0 p1 p2 p3 p4 p5 p6 x00 y00 b0 cx0 cy0 x10 y10 x01 y01 b1 cx1 cy1 x11 y11 x02 y02 b2 cx2 cy2 x12 y12 x03 y03 b3 cx3 cy3 x13 y13 Z) => (N1.out Z).mono fun en w' hh => (by
    obtain ⟨v, h1, h2, h3⟩ := hh
    obtain ⟨ao, cap, h4, _⟩ := id h2
    rw [h4] at h1 h2
    exact ⟨ao, cap, h1, h2, h3, h.fr h3⟩ : ∃ ao cap, en = .returned (.slice ao L.length cap) ∧ RdX (.slice ao L.length cap) L w' ∧ Fr (fun _ => False) Z w' ∧ Sev w p0 p1 p2 p3 p4 p5 p6 x00 y00 b0 cx0 cy0 x10 y10 x01 y01 b1 cx1 cy1 x11 y11 x02 y02 b2 cx2 cy2 x12 y12 x03 y03 b3 cx3 cy3 x13 y13 w'))
  have LN2 := Lib.hid (fun Z (h : Sev w p0 p1 p2 p3 p4 p5 p6 x00 y00 b0 cx0 cy0 x10 y10 x01 y01 b1 cx1 cy1 x11 y11 x02 y02 b2 cx2 cy2 x12 y12 x03 y03 b3 cx3 cy3 x13 y13 Z) => (N2.out Z).mono fun en w' hh => (by
    obtain ⟨v, h1, h2, h3⟩ := hh
    obtain ⟨ao, cap, h4, _⟩ := id h2
    rw [h4] at h1 h2
    exact ⟨ao, cap, h1, h2, h3, h.fr h3⟩ : ∃ ao cap, en = .returned (.slice ao L.length cap) ∧ RdX (.slice ao L.length cap) L w' ∧ Fr (fun _ => False) Z w' ∧ Sev w p0 p1 p2 p3 p4 p5 p6 x00 y00 b0 cx0 cy0 x10 y10 x01 y01 b1 cx1 cy1 x11 y11 x02 y02 b2 cx2 cy2 x12 y12 x03 y03 b3 cx3 cy3 x13 y13 w'))
  have LC := Lib.hid (fun va vb Z (h : Sev w p0 p1 p2 p3 p4 p5 p6 x00 y00 b0 cx0 cy0 x10 y10 x01 y01 b1 cx1 cy1 x11 y11 x02 y02 b2 cx2 cy2 x12 y12 x03 y03 b3 cx3 cy3 x13 y13 Z) h1 h2 => (KC.out va vb Z h1 h2).mono fun en w' hh => (⟨hh.1, hh.2, h.fr hh.2⟩ : en = .returned (.bool true) ∧ Fr (fun _ => False) Z w' ∧ Sev w p0 p1 p2 p3 p4 p5 p6 x00 y00 b0 cx0 cy0 x10 y10 x01 y01 b1 cx1 cy1 x11 y11 x02 y02 b2 cx2 cy2 x12 y12 x03 y03 b3 cx3 cy3 x13 y13 w'))
  clear M1 M2 T1 T2 N1 N2 P1 P2
  go_region_held3 (fun Z => Z.cell? ⟨p0, 0, none⟩ = some (.int .i64 x00) ∧ Z.cell? ⟨p0, 1, none⟩ = some (.int .i64 y00) ∧ Z.cell? ⟨p0, 2, none⟩ = some (.bool b0) ∧ Z.cell? ⟨p0, 3, none⟩ = some (.int .i64 cx0) ∧ Z.cell? ⟨p0, 4, none⟩ = some (.int .i64 cy0) ∧ Z.cell? ⟨p0, 5, none⟩ = some (.int .i64 x10) ∧ Z.cell? ⟨p0, 6, none⟩ = some (.int .i64 y10) ∧ Z.cell? ⟨p1, 0, none⟩ = some (.int .i64 x01) ∧ Z.cell? ⟨p1, 1, none⟩ = some (.int .i64 y01) ∧ Z.cell? ⟨p1, 2, none⟩ = some (.bool b1) ∧ Z.cell? ⟨p1, 3, none⟩ = some (.int .i64 cx1) ∧ Z.cell? ⟨p1, 4, none⟩ = some (.int .i64 cy1) ∧ Z.cell? ⟨p1, 5, none⟩ = some (.int .i64 x11) ∧ Z.cell? ⟨p1, 6, none⟩ = some (.int .i64 y11) ∧ Z.cell? ⟨p2, 0, none⟩ = some (.int .i64 x01) ∧ Z.cell? ⟨p2, 1, none⟩ = some (.int .i64 y01) ∧ Z.cell? ⟨p2, 2, none⟩ = some (.bool b1) ∧ Z.cell? ⟨p2, 3, none⟩ = some (.int .i64 cx1) ∧ Z.cell? ⟨p2, 4, none⟩ = some (.int .i64 cy1) ∧ Z.cell? ⟨p2, 5, none⟩ = some (.int .i64 x11) ∧ Z.cell? ⟨p2, 6, none⟩ = some (.int .i64 y11) ∧ Z.cell? ⟨p3, 0, none⟩ = some (.int .i64 x02) ∧ Z.cell? ⟨p3, 1, none⟩ = some (.int .i64 y02) ∧ Z.cell? ⟨p3, 2, none⟩ = some (.bool b2) ∧ Z.cell? ⟨p3, 3, none⟩ = some (.int .i64 cx2) ∧ Z.cell? ⟨p3, 4, none⟩ = some (.int .i64 cy2) ∧ Z.cell? ⟨p3, 5, none⟩ = some (.int .i64 x12) ∧ Z.cell? ⟨p3, 6, none⟩ = some (.int .i64 y12) ∧ Z.cell? ⟨p4, 0, none⟩ = some (.int .i64 x03) ∧ Z.cell? ⟨p4, 1, none⟩ = some (.int .i64 y03) ∧ Z.cell? ⟨p4, 2, none⟩ = some (.bool b3) ∧ Z.cell? ⟨p4, 3, none⟩ = some (.int .i64 cx3) ∧ Z.cell? ⟨p4, 4, none⟩ = some (.int .i64 cy3) ∧ Z.cell? ⟨p4, 5, none⟩ = some (.int .i64 x13) ∧ Z.cell? ⟨p4, 6, none⟩ = some (.int .i64 y13) ∧ Z.cell? ⟨p5, 0, none⟩ = some (.int .i64 x02) ∧ Z.cell? ⟨p5, 1, none⟩ = some (.int .i64 y02) ∧ Z.cell? ⟨p5, 2, none⟩ = some (.bool b2) ∧ Z.cell? ⟨p5, 3, none⟩ = some (.int .i64 cx2) ∧ Z.cell? ⟨p5, 4, none⟩ = some (.int .i64 cy2) ∧ Z.cell? ⟨p5, 5, none⟩ = some (.int .i64 x12) ∧ Z.cell? ⟨p5, 6, none⟩ = some (.int .i64 y12) ∧ Z.cell? ⟨p6, 0, none⟩ = some (.int .i64 x03) ∧ Z.cell? ⟨p6, 1, none⟩ = some (.int .i64 y03) ∧ Z.cell? ⟨p6, 2, none⟩ = some (.bool b3) ∧ Z.cell? ⟨p6, 3, none⟩ = some (.int .i64 cx3) ∧ Z.cell? ⟨p6, 4, none⟩ = some (.int .i64 cy3) ∧ Z.cell? ⟨p6, 5, none⟩ = some (.int .i64 x13) ∧ Z.cell? ⟨p6, 6, none⟩ = some (.int .i64 y13) ∧ Fr (fun _ => False) w Z)
    (first | assumption | exact HS.out.fr ((Fr.refl (fun _ => False) _).drew))
    (first
      | (go_at_call 23; with_reducible refine Calls.mono (LM1.out _ ?_) ?_; (assumption); rintro e w' ⟨rfl, hf, hS⟩)
      | (go_at_call 29; with_reducible refine Calls.mono (LM2.out _ ?_) ?_; (assumption); rintro e w' ⟨rfl, hf, hS⟩)
      | (go_at_call 19; with_reducible refine Calls.mono (LT1.out _ ?_) ?_; (assumption); rintro e w' ⟨rfl, hf, hS⟩)
      | (go_at_call 30; with_reducible refine Calls.mono (LT2.out _ ?_) ?_; (assumption); rintro e w' ⟨rfl, hf, hS⟩)
      | (go_at_call 16; with_reducible refine Calls.mono (LN1.out _ ?_) ?_; (assumption); rintro e w' ⟨ao1, cap1, rfl, hr1, hf, hS⟩)
      | (go_at_call 18; with_reducible refine Calls.mono (LN2.out _ ?_) ?_; (assumption); rintro e w' ⟨ao2, cap2, rfl, hr2, hf, hS⟩)
      | (go_at_call 17; with_reducible refine Calls.mono (LC.out _ _ _ ?_ ?_ ?_) ?_; (assumption); (first | assumption | exact RdX.fr0 (by assumption) (by assumption)); (first | assumption | exact RdX.fr0 (by assumption) (by assumption)); rintro e w' ⟨rfl, hf, hS⟩)
      | (go_at_call 22; with_reducible refine Calls.mono (LP1.out _ ?_) ?_; (assumption); rintro e w' ⟨rfl, hf, hS⟩)
      | (go_at_call 31; with_reducible refine Calls.mono (LP2.out _ ?_) ?_; (assumption); rintro e w' ⟨rfl, hf, hS⟩))
  all_goals
    go_wp2_with fail
    go_ret
    exact ⟨rfl, Kept.of_fr (Sev.last (‹Sev w p0 p1 p2 p3 p4 p5 p6 x00 y00 b0 cx0 cy0 x10 y10 x01 y01 b1 cx1 cy1 x11 y11 x02 y02 b2 cx2 cy2 x12 y12 x03 y03 b3 cx3 cy3 x13 y13 _›))⟩
theorem law_BowSays (v0 : Value) (e : Pl.Ed) (x y n : Int) (w : World) (h0 : v0 = edv e ∧ Ed64 e) (w1 : (Lit.int .i64 x).wf = true) (w2 : (Lit.int .i64 y).wf = true) (_ : (Lit.int .i64 n).wf = true) :
    Calls Try.prog 12 #[v0, .int .i64 x, .int .i64 y, .int .i64 n] w fun en w' => en = .returned (.bool true) ∧ Kept w w' := by
  have hx : -9223372036854775808 ≤ x ∧ x ≤ 9223372036854775807 := by simp [Lit.wf, IntKind.min, IntKind.max, IntKind.signed, IntKind.bits] at w1; omega
  have hy : -9223372036854775808 ≤ y ∧ y ≤ 9223372036854775807 := by simp [Lit.wf, IntKind.min, IntKind.max, IntKind.signed, IntKind.bits] at w2; omega
  rw [h0.1]
  exact walk_BowSays e x y n hx hy w
end Go.Proofs.Ytnienpalbfgflaa
