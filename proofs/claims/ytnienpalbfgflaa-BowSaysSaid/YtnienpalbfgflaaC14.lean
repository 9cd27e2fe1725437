/- bow.Shift and the reference's Shift of any edge and any numbers: the walks. -/
import Derived.Test.YtnienpalbfgflaaC13
import Derived.Test.YtnienpalbfgflaaBW15
namespace Go.Proofs.Ytnienpalbfgflaa
set_option linter.unusedVariables false
open Go.RowKit

theorem rpost_shift {R : Ending → World → Prop} {a : Act} {W Z : World} {p : Nat} {x0 y0 cx cy x1 y1 : Int} {b ok : Bool} (hp : a.tmps.getD 6 undef = .pointer (some ⟨p, 0, none⟩)) (h7 : a.tmps.getD 7 undef = .bool ok)
    (hB : Blk W p [.int .i64 x0, .int .i64 y0, .bool b, .int .i64 cx, .int .i64 cy, .int .i64 x1, .int .i64 y1] Z) (hd : a.defers = [])
    (hR : R (.returned (.tuple #[.agg #[.int .i64 x0, .int .i64 y0, .bool b, .int .i64 cx, .int .i64 cy, .int .i64 x1, .int .i64 y1], .bool ok])) Z) : bodyPost Try.prog Try.f27 R .ret a Z := by
  obtain ⟨c0, c1, c2, c3, c4, c5, c6⟩ := hB.at0
  have hp2 : a.tmps[6]?.getD undef = .pointer (some ⟨p, 0, none⟩) := by rw [← hp]; simp
  have h72 : a.tmps[7]?.getD undef = .bool ok := by rw [← h7]; simp
  exact bodyPost_ret (by simp [results, Try.results27, go_sem, hp2, h72, c0, c1, c2, c3, c4, c5, c6]) hd hR
def Pl.shiftR (e : Pl.Ed) (dx dy : Int) : Pl.Ed × Bool := if e.may ∧ (e.shift dx dy).may then (e.shift dx dy, true) else (Pl.Ed.zero, false)
theorem Pl.shift_far (e : Pl.Ed) (dx dy : Int) (h : dx < -16382 ∨ 16382 < dx ∨ dy < -16382 ∨ 16382 < dy) (he : e.may) : ¬ (e.shift dx dy).may := by
  obtain ⟨a1, a2, a3, a4, a5, a6, _⟩ := he
  unfold Pl.crd at a1 a2 a3 a4 a5 a6
  have e1 : (e.shift dx dy).x0 = e.x0 + dx := by unfold Pl.Ed.shift; split <;> rfl
  have e2 : (e.shift dx dy).y0 = e.y0 + dy := by unfold Pl.Ed.shift; split <;> rfl
  intro k
  obtain ⟨b1, b2, _⟩ := k
  rw [e1] at b1
  rw [e2] at b2
  unfold Pl.crd at b1 b2
  omega

set_option maxHeartbeats 4000000 in
set_option maxRecDepth 100000 in
theorem bshift_no (x0 y0 : Int) (b : Bool) (cx cy x1 y1 dx dy : Int) (he : ¬ Pl.Ed.may ⟨x0, y0, b, cx, cy, x1, y1⟩) (W : World) :
    Calls Try.prog 24 #[.agg #[.int .i64 x0, .int .i64 y0, .bool b, .int .i64 cx, .int .i64 cy, .int .i64 x1, .int .i64 y1], .int .i64 dx, .int .i64 dy] W fun en w' => en = .returned (.tuple #[.agg #[.int .i64 0, .int .i64 0, .bool false, .int .i64 0, .int .i64 0, .int .i64 0, .int .i64 0], .bool false]) ∧ Fr (fun _ => False) W w' := by
  have K1 := Lib.hid (fun Z => may_any ⟨x0, y0, b, cx, cy, x1, y1⟩ Z)
  rw [decide_eq_false he] at K1
  simp only [edv] at K1
  clear he
  go_enter Try.func24, Try.ntmps24
  go_wp2_with fail
  have A0 := Lib.hid (Bt7.start W #[.int .i64 x0, .int .i64 y0, .bool b, .int .i64 cx, .int .i64 cy, .int .i64 x1, .int .i64 y1] #[.int .i64 0, .int .i64 0, .bool false, .int .i64 0, .int .i64 0, .int .i64 0, .int .i64 0] 25 25)
  refine (K1.out _).mono ?_
  rintro en w1 ⟨rfl, g1⟩
  have B1 := Lib.hid (A0.out.grow g1)
  obtain ⟨d0, d1, d2, d3, d4, d5, d6⟩ := B1.out.2.1.at0
  have fz := B1.out.2.1.2.2.2
  clear g1 A0 K1
  go_wp2_with fail
  exact post_shift rfl rfl B1.out.2.1.seven rfl ⟨rfl, Fr.of_grown _ (Bt7.sevenG B1.out)⟩
set_option maxHeartbeats 4000000 in
set_option maxRecDepth 100000 in
theorem rshift_no (x0 y0 : Int) (b : Bool) (cx cy x1 y1 dx dy : Int) (he : ¬ Pl.Ed.may ⟨x0, y0, b, cx, cy, x1, y1⟩) (W : World) :
    Calls Try.prog 27 #[.agg #[.int .i64 x0, .int .i64 y0, .bool b, .int .i64 cx, .int .i64 cy, .int .i64 x1, .int .i64 y1], .int .i64 dx, .int .i64 dy] W fun en w' => en = .returned (.tuple #[.agg #[.int .i64 0, .int .i64 0, .bool false, .int .i64 0, .int .i64 0, .int .i64 0, .int .i64 0], .bool false]) ∧ Fr (fun _ => False) W w' := by
  have K1 := Lib.hid (fun Z => isedge25_any ⟨x0, y0, b, cx, cy, x1, y1⟩ Z)
  rw [decide_eq_false he] at K1
  simp only [edv] at K1
  clear he
  go_enter Try.func27, Try.ntmps27
  go_wp2_with fail
  have A0 := Lib.hid (Bt7.start W #[.int .i64 x0, .int .i64 y0, .bool b, .int .i64 cx, .int .i64 cy, .int .i64 x1, .int .i64 y1] #[.int .i64 0, .int .i64 0, .bool false, .int .i64 0, .int .i64 0, .int .i64 0, .int .i64 0] 25 25)
  refine (K1.out _).mono ?_
  rintro en w1 ⟨rfl, g1⟩
  have B1 := Lib.hid (A0.out.grow g1)
  obtain ⟨d0, d1, d2, d3, d4, d5, d6⟩ := B1.out.2.1.at0
  have fz := B1.out.2.1.2.2.2
  clear g1 A0 K1
  go_wp2_with fail
  exact rpost_shift rfl rfl B1.out.2.1.seven rfl ⟨rfl, Fr.of_grown _ (Bt7.sevenG B1.out)⟩
set_option maxHeartbeats 4000000 in
set_option maxRecDepth 100000 in
theorem bshift_far_false (x0 y0 cx cy x1 y1 dx dy : Int) (he : Pl.Ed.may ⟨x0, y0, false, cx, cy, x1, y1⟩) (bx : -9223372036854775808 ≤ dx ∧ dx ≤ 9223372036854775807) (by' : -9223372036854775808 ≤ dy ∧ dy ≤ 9223372036854775807) (h : dx < -16382 ∨ 16382 < dx ∨ dy < -16382 ∨ 16382 < dy) (W : World) :
    Calls Try.prog 24 #[.agg #[.int .i64 x0, .int .i64 y0, .bool false, .int .i64 cx, .int .i64 cy, .int .i64 x1, .int .i64 y1], .int .i64 dx, .int .i64 dy] W fun en w' => en = .returned (.tuple #[.agg #[.int .i64 0, .int .i64 0, .bool false, .int .i64 0, .int .i64 0, .int .i64 0, .int .i64 0], .bool false]) ∧ Fr (fun _ => False) W w' := by
  have K1 := Lib.hid (fun Z => may_any ⟨x0, y0, false, cx, cy, x1, y1⟩ Z)
  rw [decide_eq_true he] at K1
  obtain ⟨a1, a2, a3, a4, a5, a6, _⟩ := he
  unfold Pl.crd at a1 a2 a3 a4 a5 a6
  simp only at a1 a2 a3 a4 a5 a6
  obtain ⟨X0, hX0⟩ : ∃ v, IntKind.i64.wrap (x0 + dx) = v := ⟨_, rfl⟩
  obtain ⟨Y0, hY0⟩ : ∃ v, IntKind.i64.wrap (y0 + dy) = v := ⟨_, rfl⟩
  obtain ⟨X1, hX1⟩ : ∃ v, IntKind.i64.wrap (x1 + dx) = v := ⟨_, rfl⟩
  obtain ⟨Y1, hY1⟩ : ∃ v, IntKind.i64.wrap (y1 + dy) = v := ⟨_, rfl⟩
  have nm : ¬ Pl.Ed.may ⟨X0, Y0, false, cx, cy, X1, Y1⟩ := by
    unfold Pl.Ed.may Pl.crd
    rintro ⟨q1, q2, _⟩
    simp only at q1 q2
    rw [← hX0, IntKind.wrap_i64] at q1
    rw [← hY0, IntKind.wrap_i64] at q2
    omega
  have K2 := Lib.hid (fun Z => may_any ⟨X0, Y0, false, cx, cy, X1, Y1⟩ Z)
  rw [decide_eq_false nm] at K2
  simp only [edv] at K1 K2
  clear nm h a1 a2 a3 a4 a5 a6 bx by'
  go_enter Try.func24, Try.ntmps24
  go_wp2_with fail
  have A0 := Lib.hid (Bt7.start W #[.int .i64 x0, .int .i64 y0, .bool false, .int .i64 cx, .int .i64 cy, .int .i64 x1, .int .i64 y1] #[.int .i64 0, .int .i64 0, .bool false, .int .i64 0, .int .i64 0, .int .i64 0, .int .i64 0] 25 25)
  refine (K1.out _).mono ?_
  rintro en w1 ⟨rfl, g1⟩
  have B1 := Lib.hid (A0.out.grow g1)
  obtain ⟨c0, c1, c2, c3, c4, c5, c6⟩ := B1.out.1.at0
  have fz := B1.out.1.2.2.2
  clear g1 A0 K1
  go_wp2_with fail
  have B2 := Lib.hid (B1.out.moveS (a' := .int .i64 X0) (b' := .int .i64 Y0) (i' := .int .i64 X1) (j' := .int .i64 Y1))
  refine (K2.out _).mono ?_
  rintro en w2 ⟨rfl, g2⟩
  have B3 := Lib.hid (B2.out.grow g2)
  clear c0 c1 c2 c3 c4 c5 c6 fz g2 B1 B2
  obtain ⟨d0, d1, d2, d3, d4, d5, d6⟩ := B3.out.2.1.at0
  have fz := B3.out.2.1.2.2.2
  go_wp2_with fail
  exact post_shift rfl rfl B3.out.2.1.seven rfl ⟨rfl, Fr.of_grown _ (Bt7.sevenG B3.out)⟩
set_option maxHeartbeats 4000000 in
set_option maxRecDepth 100000 in
theorem bshift_far_true (x0 y0 cx cy x1 y1 dx dy : Int) (he : Pl.Ed.may ⟨x0, y0, true, cx, cy, x1, y1⟩) (bx : -9223372036854775808 ≤ dx ∧ dx ≤ 9223372036854775807) (by' : -9223372036854775808 ≤ dy ∧ dy ≤ 9223372036854775807) (h : dx < -16382 ∨ 16382 < dx ∨ dy < -16382 ∨ 16382 < dy) (W : World) :
    Calls Try.prog 24 #[.agg #[.int .i64 x0, .int .i64 y0, .bool true, .int .i64 cx, .int .i64 cy, .int .i64 x1, .int .i64 y1], .int .i64 dx, .int .i64 dy] W fun en w' => en = .returned (.tuple #[.agg #[.int .i64 0, .int .i64 0, .bool false, .int .i64 0, .int .i64 0, .int .i64 0, .int .i64 0], .bool false]) ∧ Fr (fun _ => False) W w' := by
  have K1 := Lib.hid (fun Z => may_any ⟨x0, y0, true, cx, cy, x1, y1⟩ Z)
  rw [decide_eq_true he] at K1
  obtain ⟨a1, a2, a3, a4, a5, a6, _⟩ := he
  unfold Pl.crd at a1 a2 a3 a4 a5 a6
  simp only at a1 a2 a3 a4 a5 a6
  obtain ⟨X0, hX0⟩ : ∃ v, IntKind.i64.wrap (x0 + dx) = v := ⟨_, rfl⟩
  obtain ⟨Y0, hY0⟩ : ∃ v, IntKind.i64.wrap (y0 + dy) = v := ⟨_, rfl⟩
  obtain ⟨X1, hX1⟩ : ∃ v, IntKind.i64.wrap (x1 + dx) = v := ⟨_, rfl⟩
  obtain ⟨Y1, hY1⟩ : ∃ v, IntKind.i64.wrap (y1 + dy) = v := ⟨_, rfl⟩
  obtain ⟨CX, hCX⟩ : ∃ v, IntKind.i64.wrap (cx + dx) = v := ⟨_, rfl⟩
  obtain ⟨CY, hCY⟩ : ∃ v, IntKind.i64.wrap (cy + dy) = v := ⟨_, rfl⟩
  have nm : ¬ Pl.Ed.may ⟨X0, Y0, true, CX, CY, X1, Y1⟩ := by
    unfold Pl.Ed.may Pl.crd
    rintro ⟨q1, q2, _⟩
    simp only at q1 q2
    rw [← hX0, IntKind.wrap_i64] at q1
    rw [← hY0, IntKind.wrap_i64] at q2
    omega
  have K2 := Lib.hid (fun Z => may_any ⟨X0, Y0, true, CX, CY, X1, Y1⟩ Z)
  rw [decide_eq_false nm] at K2
  simp only [edv] at K1 K2
  clear nm h a1 a2 a3 a4 a5 a6 bx by'
  go_enter Try.func24, Try.ntmps24
  go_wp2_with fail
  have A0 := Lib.hid (Bt7.start W #[.int .i64 x0, .int .i64 y0, .bool true, .int .i64 cx, .int .i64 cy, .int .i64 x1, .int .i64 y1] #[.int .i64 0, .int .i64 0, .bool false, .int .i64 0, .int .i64 0, .int .i64 0, .int .i64 0] 25 25)
  refine (K1.out _).mono ?_
  rintro en w1 ⟨rfl, g1⟩
  have B1 := Lib.hid (A0.out.grow g1)
  obtain ⟨c0, c1, c2, c3, c4, c5, c6⟩ := B1.out.1.at0
  have fz := B1.out.1.2.2.2
  clear g1 A0 K1
  go_wp2_with fail
  have B2 := Lib.hid (B1.out.moveB (a' := .int .i64 X0) (b' := .int .i64 Y0) (i' := .int .i64 X1) (j' := .int .i64 Y1) (d' := .int .i64 CX) (e' := .int .i64 CY))
  refine (K2.out _).mono ?_
  rintro en w2 ⟨rfl, g2⟩
  have B3 := Lib.hid (B2.out.grow g2)
  clear c0 c1 c2 c3 c4 c5 c6 fz g2 B1 B2
  obtain ⟨d0, d1, d2, d3, d4, d5, d6⟩ := B3.out.2.1.at0
  have fz := B3.out.2.1.2.2.2
  go_wp2_with fail
  exact post_shift rfl rfl B3.out.2.1.seven rfl ⟨rfl, Fr.of_grown _ (Bt7.sevenG B3.out)⟩
set_option maxHeartbeats 4000000 in
set_option maxRecDepth 100000 in
theorem rshift_far_1 (x0 y0 : Int) (b : Bool) (cx cy x1 y1 dx dy : Int) (he : Pl.Ed.may ⟨x0, y0, b, cx, cy, x1, y1⟩) (h : dx < -16382 ∨ 16382 < dx) (W : World) :
    Calls Try.prog 27 #[.agg #[.int .i64 x0, .int .i64 y0, .bool b, .int .i64 cx, .int .i64 cy, .int .i64 x1, .int .i64 y1], .int .i64 dx, .int .i64 dy] W fun en w' => en = .returned (.tuple #[.agg #[.int .i64 0, .int .i64 0, .bool false, .int .i64 0, .int .i64 0, .int .i64 0, .int .i64 0], .bool false]) ∧ Fr (fun _ => False) W w' := by
  have K1 := Lib.hid (fun Z => isedge25_any ⟨x0, y0, b, cx, cy, x1, y1⟩ Z)
  rw [decide_eq_true he] at K1
  simp only [edv] at K1
  have KX := Lib.hid (fun Z => far25_any dx true ⟨fun _ => rfl, fun _ => h⟩ Z)
  clear he h
  go_enter Try.func27, Try.ntmps27
  go_wp2_with fail
  have A0 := Lib.hid (Bt7.start W #[.int .i64 x0, .int .i64 y0, .bool b, .int .i64 cx, .int .i64 cy, .int .i64 x1, .int .i64 y1] #[.int .i64 0, .int .i64 0, .bool false, .int .i64 0, .int .i64 0, .int .i64 0, .int .i64 0] 25 25)
  refine (K1.out _).mono ?_
  rintro en w1 ⟨rfl, g1⟩
  have B1 := Lib.hid (A0.out.grow g1)
  clear g1 A0 K1
  go_wp2_with fail
  refine (KX.out _).mono ?_
  rintro en w2 ⟨rfl, rfl⟩
  obtain ⟨d0, d1, d2, d3, d4, d5, d6⟩ := B1.out.2.1.at0
  have fz := B1.out.2.1.2.2.2
  go_wp2_with fail
  exact rpost_shift rfl rfl B1.out.2.1.seven rfl ⟨rfl, Fr.of_grown _ (Bt7.sevenG B1.out)⟩
set_option maxHeartbeats 4000000 in
set_option maxRecDepth 100000 in
theorem rshift_far_2 (x0 y0 : Int) (b : Bool) (cx cy x1 y1 dx dy : Int) (he : Pl.Ed.may ⟨x0, y0, b, cx, cy, x1, y1⟩) (h1 : ¬ (dx < -16382 ∨ 16382 < dx)) (h : dy < -16382 ∨ 16382 < dy) (W : World) :
    Calls Try.prog 27 #[.agg #[.int .i64 x0, .int .i64 y0, .bool b, .int .i64 cx, .int .i64 cy, .int .i64 x1, .int .i64 y1], .int .i64 dx, .int .i64 dy] W fun en w' => en = .returned (.tuple #[.agg #[.int .i64 0, .int .i64 0, .bool false, .int .i64 0, .int .i64 0, .int .i64 0, .int .i64 0], .bool false]) ∧ Fr (fun _ => False) W w' := by
  have K1 := Lib.hid (fun Z => isedge25_any ⟨x0, y0, b, cx, cy, x1, y1⟩ Z)
  rw [decide_eq_true he] at K1
  simp only [edv] at K1
  have KX := Lib.hid (fun Z => far25_any dx false ⟨fun q => absurd q h1, fun q => by cases q⟩ Z)
  have KY := Lib.hid (fun Z => far25_any dy true ⟨fun _ => rfl, fun _ => h⟩ Z)
  clear he h h1
  go_enter Try.func27, Try.ntmps27
  go_wp2_with fail
  have A0 := Lib.hid (Bt7.start W #[.int .i64 x0, .int .i64 y0, .bool b, .int .i64 cx, .int .i64 cy, .int .i64 x1, .int .i64 y1] #[.int .i64 0, .int .i64 0, .bool false, .int .i64 0, .int .i64 0, .int .i64 0, .int .i64 0] 25 25)
  refine (K1.out _).mono ?_
  rintro en w1 ⟨rfl, g1⟩
  have B1 := Lib.hid (A0.out.grow g1)
  clear g1 A0 K1
  go_wp2_with fail
  refine (KX.out _).mono ?_
  rintro en w2 ⟨rfl, rfl⟩
  go_wp2_with fail
  refine (KY.out _).mono ?_
  rintro en w2 ⟨rfl, rfl⟩
  obtain ⟨d0, d1, d2, d3, d4, d5, d6⟩ := B1.out.2.1.at0
  have fz := B1.out.2.1.2.2.2
  go_wp2_with fail
  exact rpost_shift rfl rfl B1.out.2.1.seven rfl ⟨rfl, Fr.of_grown _ (Bt7.sevenG B1.out)⟩
set_option maxHeartbeats 4000000 in
set_option maxRecDepth 100000 in
theorem rshift_in_false_false (x0 y0 cx cy x1 y1 dx dy : Int) (he : Pl.Ed.may ⟨x0, y0, false, cx, cy, x1, y1⟩) (h1 : ¬ (dx < -16382 ∨ 16382 < dx)) (h2 : ¬ (dy < -16382 ∨ 16382 < dy)) (hm : ¬ Pl.Ed.may ⟨(x0 + dx), (y0 + dy), false, cx, cy, (x1 + dx), (y1 + dy)⟩) (W : World) :
    Calls Try.prog 27 #[.agg #[.int .i64 x0, .int .i64 y0, .bool false, .int .i64 cx, .int .i64 cy, .int .i64 x1, .int .i64 y1], .int .i64 dx, .int .i64 dy] W fun en w' => en = .returned (.tuple #[.agg #[.int .i64 0, .int .i64 0, .bool false, .int .i64 0, .int .i64 0, .int .i64 0, .int .i64 0], .bool false]) ∧ Fr (fun _ => False) W w' := by
  have K1 := Lib.hid (fun Z => isedge25_any ⟨x0, y0, false, cx, cy, x1, y1⟩ Z)
  rw [decide_eq_true he] at K1
  have K2 := Lib.hid (fun Z => isedge25_any ⟨(x0 + dx), (y0 + dy), false, cx, cy, (x1 + dx), (y1 + dy)⟩ Z)
  rw [decide_eq_false hm] at K2
  simp only [edv] at K1 K2
  have KX := Lib.hid (fun Z => far25_any dx false ⟨fun q => absurd q h1, fun q => by cases q⟩ Z)
  have KY := Lib.hid (fun Z => far25_any dy false ⟨fun q => absurd q h2, fun q => by cases q⟩ Z)
  obtain ⟨a1, a2, a3, a4, a5, a6, _⟩ := he
  unfold Pl.crd at a1 a2 a3 a4 a5 a6
  simp only at a1 a2 a3 a4 a5 a6
  have bx : -16382 ≤ dx ∧ dx ≤ 16382 := by omega
  have by' : -16382 ≤ dy ∧ dy ≤ 16382 := by omega
  clear hm h1 h2
  go_enter Try.func27, Try.ntmps27
  go_wp2_with fail
  have A0 := Lib.hid (Bt7.start W #[.int .i64 x0, .int .i64 y0, .bool false, .int .i64 cx, .int .i64 cy, .int .i64 x1, .int .i64 y1] #[.int .i64 0, .int .i64 0, .bool false, .int .i64 0, .int .i64 0, .int .i64 0, .int .i64 0] 25 25)
  refine (K1.out _).mono ?_
  rintro en w1 ⟨rfl, g1⟩
  have B1 := Lib.hid (A0.out.grow g1)
  clear g1 A0 K1
  go_wp2_with fail
  refine (KX.out _).mono ?_
  rintro en w2 ⟨rfl, rfl⟩
  go_wp2_with fail
  refine (KY.out _).mono ?_
  rintro en w2 ⟨rfl, rfl⟩
  obtain ⟨c0, c1, c2, c3, c4, c5, c6⟩ := B1.out.1.at0
  have fz := B1.out.1.2.2.2
  go_wp2_with fail
  have B2 := Lib.hid (B1.out.moveS (a' := .int .i64 (x0 + dx)) (b' := .int .i64 (y0 + dy)) (i' := .int .i64 (x1 + dx)) (j' := .int .i64 (y1 + dy)))
  refine (K2.out _).mono ?_
  rintro en w2 ⟨rfl, g2⟩
  have B3 := Lib.hid (B2.out.grow g2)
  clear c0 c1 c2 c3 c4 c5 c6 fz g2 B1 B2
  obtain ⟨c0, c1, c2, c3, c4, c5, c6⟩ := B3.out.1.at0
  obtain ⟨d0, d1, d2, d3, d4, d5, d6⟩ := B3.out.2.1.at0
  have fz := B3.out.2.1.2.2.2
  go_wp2_with fail
  exact rpost_shift rfl rfl B3.out.2.1.seven rfl ⟨rfl, Fr.of_grown _ (Bt7.sevenG B3.out)⟩
set_option maxHeartbeats 4000000 in
set_option maxRecDepth 100000 in
theorem rshift_in_false_true (x0 y0 cx cy x1 y1 dx dy : Int) (he : Pl.Ed.may ⟨x0, y0, false, cx, cy, x1, y1⟩) (h1 : ¬ (dx < -16382 ∨ 16382 < dx)) (h2 : ¬ (dy < -16382 ∨ 16382 < dy)) (hm : Pl.Ed.may ⟨(x0 + dx), (y0 + dy), false, cx, cy, (x1 + dx), (y1 + dy)⟩) (W : World) :
    Calls Try.prog 27 #[.agg #[.int .i64 x0, .int .i64 y0, .bool false, .int .i64 cx, .int .i64 cy, .int .i64 x1, .int .i64 y1], .int .i64 dx, .int .i64 dy] W fun en w' => en = .returned (.tuple #[.agg #[.int .i64 (x0 + dx), .int .i64 (y0 + dy), .bool false, .int .i64 cx, .int .i64 cy, .int .i64 (x1 + dx), .int .i64 (y1 + dy)], .bool true]) ∧ Fr (fun _ => False) W w' := by
  have K1 := Lib.hid (fun Z => isedge25_any ⟨x0, y0, false, cx, cy, x1, y1⟩ Z)
  rw [decide_eq_true he] at K1
  have K2 := Lib.hid (fun Z => isedge25_any ⟨(x0 + dx), (y0 + dy), false, cx, cy, (x1 + dx), (y1 + dy)⟩ Z)
  rw [decide_eq_true hm] at K2
  simp only [edv] at K1 K2
  have KX := Lib.hid (fun Z => far25_any dx false ⟨fun q => absurd q h1, fun q => by cases q⟩ Z)
  have KY := Lib.hid (fun Z => far25_any dy false ⟨fun q => absurd q h2, fun q => by cases q⟩ Z)
  obtain ⟨a1, a2, a3, a4, a5, a6, _⟩ := he
  unfold Pl.crd at a1 a2 a3 a4 a5 a6
  simp only at a1 a2 a3 a4 a5 a6
  have bx : -16382 ≤ dx ∧ dx ≤ 16382 := by omega
  have by' : -16382 ≤ dy ∧ dy ≤ 16382 := by omega
  clear hm h1 h2
  go_enter Try.func27, Try.ntmps27
  go_wp2_with fail
  have A0 := Lib.hid (Bt7.start W #[.int .i64 x0, .int .i64 y0, .bool false, .int .i64 cx, .int .i64 cy, .int .i64 x1, .int .i64 y1] #[.int .i64 0, .int .i64 0, .bool false, .int .i64 0, .int .i64 0, .int .i64 0, .int .i64 0] 25 25)
  refine (K1.out _).mono ?_
  rintro en w1 ⟨rfl, g1⟩
  have B1 := Lib.hid (A0.out.grow g1)
  clear g1 A0 K1
  go_wp2_with fail
  refine (KX.out _).mono ?_
  rintro en w2 ⟨rfl, rfl⟩
  go_wp2_with fail
  refine (KY.out _).mono ?_
  rintro en w2 ⟨rfl, rfl⟩
  obtain ⟨c0, c1, c2, c3, c4, c5, c6⟩ := B1.out.1.at0
  have fz := B1.out.1.2.2.2
  go_wp2_with fail
  have B2 := Lib.hid (B1.out.moveS (a' := .int .i64 (x0 + dx)) (b' := .int .i64 (y0 + dy)) (i' := .int .i64 (x1 + dx)) (j' := .int .i64 (y1 + dy)))
  refine (K2.out _).mono ?_
  rintro en w2 ⟨rfl, g2⟩
  have B3 := Lib.hid (B2.out.grow g2)
  clear c0 c1 c2 c3 c4 c5 c6 fz g2 B1 B2
  obtain ⟨c0, c1, c2, c3, c4, c5, c6⟩ := B3.out.1.at0
  obtain ⟨d0, d1, d2, d3, d4, d5, d6⟩ := B3.out.2.1.at0
  have fz := B3.out.2.1.2.2.2
  go_wp2_with fail
  exact rpost_shift rfl rfl B3.out.2.1.seven rfl ⟨rfl, Fr.of_grown _ (Bt7.sevenG B3.out)⟩
set_option maxHeartbeats 4000000 in
set_option maxRecDepth 100000 in
theorem rshift_in_true_false (x0 y0 cx cy x1 y1 dx dy : Int) (he : Pl.Ed.may ⟨x0, y0, true, cx, cy, x1, y1⟩) (h1 : ¬ (dx < -16382 ∨ 16382 < dx)) (h2 : ¬ (dy < -16382 ∨ 16382 < dy)) (hm : ¬ Pl.Ed.may ⟨(x0 + dx), (y0 + dy), true, (cx + dx), (cy + dy), (x1 + dx), (y1 + dy)⟩) (W : World) :
    Calls Try.prog 27 #[.agg #[.int .i64 x0, .int .i64 y0, .bool true, .int .i64 cx, .int .i64 cy, .int .i64 x1, .int .i64 y1], .int .i64 dx, .int .i64 dy] W fun en w' => en = .returned (.tuple #[.agg #[.int .i64 0, .int .i64 0, .bool false, .int .i64 0, .int .i64 0, .int .i64 0, .int .i64 0], .bool false]) ∧ Fr (fun _ => False) W w' := by
  have K1 := Lib.hid (fun Z => isedge25_any ⟨x0, y0, true, cx, cy, x1, y1⟩ Z)
  rw [decide_eq_true he] at K1
  have K2 := Lib.hid (fun Z => isedge25_any ⟨(x0 + dx), (y0 + dy), true, (cx + dx), (cy + dy), (x1 + dx), (y1 + dy)⟩ Z)
  rw [decide_eq_false hm] at K2
  simp only [edv] at K1 K2
  have KX := Lib.hid (fun Z => far25_any dx false ⟨fun q => absurd q h1, fun q => by cases q⟩ Z)
  have KY := Lib.hid (fun Z => far25_any dy false ⟨fun q => absurd q h2, fun q => by cases q⟩ Z)
  obtain ⟨a1, a2, a3, a4, a5, a6, _⟩ := he
  unfold Pl.crd at a1 a2 a3 a4 a5 a6
  simp only at a1 a2 a3 a4 a5 a6
  have bx : -16382 ≤ dx ∧ dx ≤ 16382 := by omega
  have by' : -16382 ≤ dy ∧ dy ≤ 16382 := by omega
  clear hm h1 h2
  go_enter Try.func27, Try.ntmps27
  go_wp2_with fail
  have A0 := Lib.hid (Bt7.start W #[.int .i64 x0, .int .i64 y0, .bool true, .int .i64 cx, .int .i64 cy, .int .i64 x1, .int .i64 y1] #[.int .i64 0, .int .i64 0, .bool false, .int .i64 0, .int .i64 0, .int .i64 0, .int .i64 0] 25 25)
  refine (K1.out _).mono ?_
  rintro en w1 ⟨rfl, g1⟩
  have B1 := Lib.hid (A0.out.grow g1)
  clear g1 A0 K1
  go_wp2_with fail
  refine (KX.out _).mono ?_
  rintro en w2 ⟨rfl, rfl⟩
  go_wp2_with fail
  refine (KY.out _).mono ?_
  rintro en w2 ⟨rfl, rfl⟩
  obtain ⟨c0, c1, c2, c3, c4, c5, c6⟩ := B1.out.1.at0
  have fz := B1.out.1.2.2.2
  go_wp2_with fail
  have B2 := Lib.hid (B1.out.moveB (a' := .int .i64 (x0 + dx)) (b' := .int .i64 (y0 + dy)) (i' := .int .i64 (x1 + dx)) (j' := .int .i64 (y1 + dy)) (d' := .int .i64 (cx + dx)) (e' := .int .i64 (cy + dy)))
  refine (K2.out _).mono ?_
  rintro en w2 ⟨rfl, g2⟩
  have B3 := Lib.hid (B2.out.grow g2)
  clear c0 c1 c2 c3 c4 c5 c6 fz g2 B1 B2
  obtain ⟨c0, c1, c2, c3, c4, c5, c6⟩ := B3.out.1.at0
  obtain ⟨d0, d1, d2, d3, d4, d5, d6⟩ := B3.out.2.1.at0
  have fz := B3.out.2.1.2.2.2
  go_wp2_with fail
  exact rpost_shift rfl rfl B3.out.2.1.seven rfl ⟨rfl, Fr.of_grown _ (Bt7.sevenG B3.out)⟩
set_option maxHeartbeats 4000000 in
set_option maxRecDepth 100000 in
theorem rshift_in_true_true (x0 y0 cx cy x1 y1 dx dy : Int) (he : Pl.Ed.may ⟨x0, y0, true, cx, cy, x1, y1⟩) (h1 : ¬ (dx < -16382 ∨ 16382 < dx)) (h2 : ¬ (dy < -16382 ∨ 16382 < dy)) (hm : Pl.Ed.may ⟨(x0 + dx), (y0 + dy), true, (cx + dx), (cy + dy), (x1 + dx), (y1 + dy)⟩) (W : World) :
    Calls Try.prog 27 #[.agg #[.int .i64 x0, .int .i64 y0, .bool true, .int .i64 cx, .int .i64 cy, .int .i64 x1, .int .i64 y1], .int .i64 dx, .int .i64 dy] W fun en w' => en = .returned (.tuple #[.agg #[.int .i64 (x0 + dx), .int .i64 (y0 + dy), .bool true, .int .i64 (cx + dx), .int .i64 (cy + dy), .int .i64 (x1 + dx), .int .i64 (y1 + dy)], .bool true]) ∧ Fr (fun _ => False) W w' := by
  have K1 := Lib.hid (fun Z => isedge25_any ⟨x0, y0, true, cx, cy, x1, y1⟩ Z)
  rw [decide_eq_true he] at K1
  have K2 := Lib.hid (fun Z => isedge25_any ⟨(x0 + dx), (y0 + dy), true, (cx + dx), (cy + dy), (x1 + dx), (y1 + dy)⟩ Z)
  rw [decide_eq_true hm] at K2
  simp only [edv] at K1 K2
  have KX := Lib.hid (fun Z => far25_any dx false ⟨fun q => absurd q h1, fun q => by cases q⟩ Z)
  have KY := Lib.hid (fun Z => far25_any dy false ⟨fun q => absurd q h2, fun q => by cases q⟩ Z)
  obtain ⟨a1, a2, a3, a4, a5, a6, _⟩ := he
  unfold Pl.crd at a1 a2 a3 a4 a5 a6
  simp only at a1 a2 a3 a4 a5 a6
  have bx : -16382 ≤ dx ∧ dx ≤ 16382 := by omega
  have by' : -16382 ≤ dy ∧ dy ≤ 16382 := by omega
  clear hm h1 h2
  go_enter Try.func27, Try.ntmps27
  go_wp2_with fail
  have A0 := Lib.hid (Bt7.start W #[.int .i64 x0, .int .i64 y0, .bool true, .int .i64 cx, .int .i64 cy, .int .i64 x1, .int .i64 y1] #[.int .i64 0, .int .i64 0, .bool false, .int .i64 0, .int .i64 0, .int .i64 0, .int .i64 0] 25 25)
  refine (K1.out _).mono ?_
  rintro en w1 ⟨rfl, g1⟩
  have B1 := Lib.hid (A0.out.grow g1)
  clear g1 A0 K1
  go_wp2_with fail
  refine (KX.out _).mono ?_
  rintro en w2 ⟨rfl, rfl⟩
  go_wp2_with fail
  refine (KY.out _).mono ?_
  rintro en w2 ⟨rfl, rfl⟩
  obtain ⟨c0, c1, c2, c3, c4, c5, c6⟩ := B1.out.1.at0
  have fz := B1.out.1.2.2.2
  go_wp2_with fail
  have B2 := Lib.hid (B1.out.moveB (a' := .int .i64 (x0 + dx)) (b' := .int .i64 (y0 + dy)) (i' := .int .i64 (x1 + dx)) (j' := .int .i64 (y1 + dy)) (d' := .int .i64 (cx + dx)) (e' := .int .i64 (cy + dy)))
  refine (K2.out _).mono ?_
  rintro en w2 ⟨rfl, g2⟩
  have B3 := Lib.hid (B2.out.grow g2)
  clear c0 c1 c2 c3 c4 c5 c6 fz g2 B1 B2
  obtain ⟨c0, c1, c2, c3, c4, c5, c6⟩ := B3.out.1.at0
  obtain ⟨d0, d1, d2, d3, d4, d5, d6⟩ := B3.out.2.1.at0
  have fz := B3.out.2.1.2.2.2
  go_wp2_with fail
  exact rpost_shift rfl rfl B3.out.2.1.seven rfl ⟨rfl, Fr.of_grown _ (Bt7.sevenG B3.out)⟩
theorem shift_any (e : Pl.Ed) (dx dy : Int) (bx : -9223372036854775808 ≤ dx ∧ dx ≤ 9223372036854775807) (by' : -9223372036854775808 ≤ dy ∧ dy ≤ 9223372036854775807) (W : World) :
    Calls Try.prog 24 #[edv e, .int .i64 dx, .int .i64 dy] W fun en w' => en = .returned (.tuple #[edv (Pl.shiftR e dx dy).1, .bool (Pl.shiftR e dx dy).2]) ∧ Fr (fun _ => False) W w' := by
  by_cases he : e.may
  · by_cases h : dx < -16382 ∨ 16382 < dx ∨ dy < -16382 ∨ 16382 < dy
    · have hf := Pl.shift_far e dx dy h he
      unfold Pl.shiftR
      rw [if_neg (fun k => hf k.2)]
      obtain ⟨x0, y0, b, cx, cy, x1, y1⟩ := e
      cases b
      · exact bshift_far_false x0 y0 cx cy x1 y1 dx dy he bx by' h W
      · exact bshift_far_true x0 y0 cx cy x1 y1 dx dy he bx by' h W
    · refine (shift_in e dx dy he (by omega) (by omega) W).mono ?_
      rintro en w' ⟨rfl, f⟩
      refine ⟨?_, f⟩
      unfold Pl.shiftR
      by_cases hm : (e.shift dx dy).may
      · rw [if_pos hm, if_pos ⟨he, hm⟩, decide_eq_true hm]
      · rw [if_neg hm, if_neg (fun k => hm k.2), decide_eq_false hm]
  · unfold Pl.shiftR
    rw [if_neg (fun k => he k.1)]
    obtain ⟨x0, y0, b, cx, cy, x1, y1⟩ := e
    exact bshift_no x0 y0 b cx cy x1 y1 dx dy he W
theorem rshift_any (e : Pl.Ed) (dx dy : Int) (W : World) :
    Calls Try.prog 27 #[edv e, .int .i64 dx, .int .i64 dy] W fun en w' => en = .returned (.tuple #[edv (Pl.shiftR e dx dy).1, .bool (Pl.shiftR e dx dy).2]) ∧ Fr (fun _ => False) W w' := by
  by_cases he : e.may
  · by_cases h1 : dx < -16382 ∨ 16382 < dx
    · have hf := Pl.shift_far e dx dy (by omega) he
      unfold Pl.shiftR
      rw [if_neg (fun k => hf k.2)]
      obtain ⟨x0, y0, b, cx, cy, x1, y1⟩ := e
      exact rshift_far_1 x0 y0 b cx cy x1 y1 dx dy he h1 W
    · by_cases h2 : dy < -16382 ∨ 16382 < dy
      · have hf := Pl.shift_far e dx dy (by omega) he
        unfold Pl.shiftR
        rw [if_neg (fun k => hf k.2)]
        obtain ⟨x0, y0, b, cx, cy, x1, y1⟩ := e
        exact rshift_far_2 x0 y0 b cx cy x1 y1 dx dy he h1 h2 W
      · unfold Pl.shiftR
        by_cases hm : (e.shift dx dy).may
        · rw [if_pos ⟨he, hm⟩]
          obtain ⟨x0, y0, b, cx, cy, x1, y1⟩ := e
          cases b <;> simp only [Pl.Ed.shift, Bool.false_eq_true, if_false, if_true] at hm ⊢
          · exact rshift_in_false_true x0 y0 cx cy x1 y1 dx dy he h1 h2 hm W
          · exact rshift_in_true_true x0 y0 cx cy x1 y1 dx dy he h1 h2 hm W
        · rw [if_neg (fun k => hm k.2)]
          obtain ⟨x0, y0, b, cx, cy, x1, y1⟩ := e
          cases b <;> simp only [Pl.Ed.shift, Bool.false_eq_true, if_false, if_true] at hm
          · exact rshift_in_false_false x0 y0 cx cy x1 y1 dx dy he h1 h2 hm W
          · exact rshift_in_true_false x0 y0 cx cy x1 y1 dx dy he h1 h2 hm W
  · unfold Pl.shiftR
    rw [if_neg (fun k => he k.1)]
    obtain ⟨x0, y0, b, cx, cy, x1, y1⟩ := e
    exact rshift_no x0 y0 b cx cy x1 y1 dx dy he W
end Go.Proofs.Ytnienpalbfgflaa
