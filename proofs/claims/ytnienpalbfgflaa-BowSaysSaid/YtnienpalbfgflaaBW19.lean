/- bow.Halve of a bent edge whose halves are whole, and of edges whose halves are not: the walk. -/
import Derived.Test.YtnienpalbfgflaaBW18
import Derived.Test.YtnienpalbfgflaaB6
import Derived.Deep.QuietTactic
namespace Go.Proofs.Ytnienpalbfgflaa
set_option linter.unusedVariables false
open Go.RowKit

set_option maxHeartbeats 4000000 in
set_option maxRecDepth 100000 in
theorem halve_no (x0 y0 : Int) (b : Bool) (cx cy x1 y1 : Int) (he : ¬ Pl.Ed.may ⟨x0, y0, b, cx, cy, x1, y1⟩) (W : World) :
    Calls Try.prog 25 #[.agg #[.int .i64 x0, .int .i64 y0, .bool b, .int .i64 cx, .int .i64 cy, .int .i64 x1, .int .i64 y1]] W fun en w' => en = .returned (.tuple #[.agg #[.int .i64 0, .int .i64 0, .bool false, .int .i64 0, .int .i64 0, .int .i64 0, .int .i64 0], .agg #[.int .i64 0, .int .i64 0, .bool false, .int .i64 0, .int .i64 0, .int .i64 0, .int .i64 0], .bool false]) ∧ Fr (fun _ => False) W w' := by
  have K1 := Lib.hid (fun Z => may_any ⟨x0, y0, b, cx, cy, x1, y1⟩ Z)
  rw [decide_eq_false he] at K1
  simp only [edv] at K1
  go_enter Try.func25, Try.ntmps25
  go_wp2_with fail
  have A0 := Lib.hid (B3.start W #[.int .i64 x0, .int .i64 y0, .bool b, .int .i64 cx, .int .i64 cy, .int .i64 x1, .int .i64 y1] #[.int .i64 0, .int .i64 0, .bool false, .int .i64 0, .int .i64 0, .int .i64 0, .int .i64 0] #[.int .i64 0, .int .i64 0, .bool false, .int .i64 0, .int .i64 0, .int .i64 0, .int .i64 0] 25 25 25)
  refine (K1.out _).mono ?_
  rintro en w1 ⟨rfl, g1⟩
  have A1 := Lib.hid (A0.out.grow g1)
  obtain ⟨p, hp⟩ : ∃ p, p = W.heap.size + 1 := ⟨_, rfl⟩
  obtain ⟨q, hq⟩ : ∃ q, q = W.heap.size + 1 + 1 := ⟨_, rfl⟩
  obtain ⟨r, hr⟩ : ∃ r, r = W.heap.size := ⟨_, rfl⟩
  have BA : Hid (Blk W r [.int .i64 x0, .int .i64 y0, .bool b, .int .i64 cx, .int .i64 cy, .int .i64 x1, .int .i64 y1] w1) := Lib.hid (by rw [hr]; exact A1.out.1)
  have BP : Hid (Blk W p [.int .i64 0, .int .i64 0, .bool false, .int .i64 0, .int .i64 0, .int .i64 0, .int .i64 0] w1) := Lib.hid (by rw [hp]; exact A1.out.2.1)
  have BQ : Hid (Blk W q [.int .i64 0, .int .i64 0, .bool false, .int .i64 0, .int .i64 0, .int .i64 0, .int .i64 0] w1) := Lib.hid (by rw [hq]; exact A1.out.2.2.1)
  have GH := Lib.hid (Fr.of_grown (fun _ => False) A1.out.2.2.2)
  have n1 : r ≠ p := by omega
  have n2 : r ≠ q := by omega
  have n3 : p ≠ q := by omega
  have n4 : p ≠ r := by omega
  have n5 : q ≠ r := by omega
  have n6 : q ≠ p := by omega
  rw [← hq, ← hp, ← hr]
  clear hp hq hr g1 A0 A1 K1
  obtain ⟨d0, d1, d2, d3, d4, d5, d6⟩ := BP.out.at0
  obtain ⟨e0, e1, e2, e3, e4, e5, e6⟩ := BQ.out.at0
  have fp := BP.out.2.2.2
  have fq := BQ.out.2.2.2
  have hself : ∀ (Z : World) (a : Addr) (v : Value), Z.cell? a = some v → Z.setCell a v = Z := fun _ _ _ h => setCell_self h
  go_wp2_with fail
  exact post_halve (p := p) (q := q) rfl rfl rfl BP.out BQ.out rfl ⟨rfl, GH.out⟩
set_option maxHeartbeats 4000000 in
set_option maxRecDepth 100000 in
theorem halve_odd_a (x0 y0 cx cy x1 y1 : Int) (he : Pl.Ed.may ⟨x0, y0, false, cx, cy, x1, y1⟩) (h : (x0 + x1) % 2 = 1) (W : World) :
    Calls Try.prog 25 #[.agg #[.int .i64 x0, .int .i64 y0, .bool false, .int .i64 cx, .int .i64 cy, .int .i64 x1, .int .i64 y1]] W fun en w' => en = .returned (.tuple #[.agg #[.int .i64 0, .int .i64 0, .bool false, .int .i64 0, .int .i64 0, .int .i64 0, .int .i64 0], .agg #[.int .i64 0, .int .i64 0, .bool false, .int .i64 0, .int .i64 0, .int .i64 0, .int .i64 0], .bool false]) ∧ Fr (fun _ => False) W w' := by
  have K1 := Lib.hid (fun Z => may_any ⟨x0, y0, false, cx, cy, x1, y1⟩ Z)
  rw [decide_eq_true he] at K1
  simp only [edv] at K1
  obtain ⟨a1, a2, a3, a4, a5, a6, _⟩ := he
  unfold Pl.crd at a1 a2 a3 a4 a5 a6
  simp only at a1 a2 a3 a4 a5 a6
  have t1 : bits .and .i64 (x0 + x1) 1 = 1 := by rw [Pl.and_1_i64]; exact h
  clear h
  go_enter Try.func25, Try.ntmps25
  go_wp2_with fail
  have A0 := Lib.hid (B3.start W #[.int .i64 x0, .int .i64 y0, .bool false, .int .i64 cx, .int .i64 cy, .int .i64 x1, .int .i64 y1] #[.int .i64 0, .int .i64 0, .bool false, .int .i64 0, .int .i64 0, .int .i64 0, .int .i64 0] #[.int .i64 0, .int .i64 0, .bool false, .int .i64 0, .int .i64 0, .int .i64 0, .int .i64 0] 25 25 25)
  refine (K1.out _).mono ?_
  rintro en w1 ⟨rfl, g1⟩
  have A1 := Lib.hid (A0.out.grow g1)
  obtain ⟨p, hp⟩ : ∃ p, p = W.heap.size + 1 := ⟨_, rfl⟩
  obtain ⟨q, hq⟩ : ∃ q, q = W.heap.size + 1 + 1 := ⟨_, rfl⟩
  obtain ⟨r, hr⟩ : ∃ r, r = W.heap.size := ⟨_, rfl⟩
  have BA : Hid (Blk W r [.int .i64 x0, .int .i64 y0, .bool false, .int .i64 cx, .int .i64 cy, .int .i64 x1, .int .i64 y1] w1) := Lib.hid (by rw [hr]; exact A1.out.1)
  have BP : Hid (Blk W p [.int .i64 0, .int .i64 0, .bool false, .int .i64 0, .int .i64 0, .int .i64 0, .int .i64 0] w1) := Lib.hid (by rw [hp]; exact A1.out.2.1)
  have BQ : Hid (Blk W q [.int .i64 0, .int .i64 0, .bool false, .int .i64 0, .int .i64 0, .int .i64 0, .int .i64 0] w1) := Lib.hid (by rw [hq]; exact A1.out.2.2.1)
  have GH := Lib.hid (Fr.of_grown (fun _ => False) A1.out.2.2.2)
  have n1 : r ≠ p := by omega
  have n2 : r ≠ q := by omega
  have n3 : p ≠ q := by omega
  have n4 : p ≠ r := by omega
  have n5 : q ≠ r := by omega
  have n6 : q ≠ p := by omega
  rw [← hq, ← hp, ← hr]
  clear hp hq hr g1 A0 A1 K1
  obtain ⟨c0, c1, c2, c3, c4, c5, c6⟩ := BA.out.at0
  obtain ⟨d0, d1, d2, d3, d4, d5, d6⟩ := BP.out.at0
  obtain ⟨e0, e1, e2, e3, e4, e5, e6⟩ := BQ.out.at0
  have fp := BP.out.2.2.2
  have fq := BQ.out.2.2.2
  have hself : ∀ (Z : World) (a : Addr) (v : Value), Z.cell? a = some v → Z.setCell a v = Z := fun _ _ _ h => setCell_self h
  go_wp2_with fail
  go_quiet (fail)
  go_wp2_with fail
  exact post_halve (p := p) (q := q) rfl rfl rfl (BP.out.drewN _) (BQ.out.drewN _) rfl ⟨rfl, GH.out⟩
set_option maxHeartbeats 4000000 in
set_option maxRecDepth 100000 in
theorem halve_odd_b (x0 y0 cx cy x1 y1 : Int) (he : Pl.Ed.may ⟨x0, y0, false, cx, cy, x1, y1⟩) (h : (x0 + x1) % 2 = 0 ∧ (y0 + y1) % 2 = 1) (W : World) :
    Calls Try.prog 25 #[.agg #[.int .i64 x0, .int .i64 y0, .bool false, .int .i64 cx, .int .i64 cy, .int .i64 x1, .int .i64 y1]] W fun en w' => en = .returned (.tuple #[.agg #[.int .i64 0, .int .i64 0, .bool false, .int .i64 0, .int .i64 0, .int .i64 0, .int .i64 0], .agg #[.int .i64 0, .int .i64 0, .bool false, .int .i64 0, .int .i64 0, .int .i64 0, .int .i64 0], .bool false]) ∧ Fr (fun _ => False) W w' := by
  have K1 := Lib.hid (fun Z => may_any ⟨x0, y0, false, cx, cy, x1, y1⟩ Z)
  rw [decide_eq_true he] at K1
  simp only [edv] at K1
  obtain ⟨a1, a2, a3, a4, a5, a6, _⟩ := he
  unfold Pl.crd at a1 a2 a3 a4 a5 a6
  simp only at a1 a2 a3 a4 a5 a6
  have t1 : bits .and .i64 (x0 + x1) 1 = 0 := by rw [Pl.and_1_i64]; exact h.1
  have t2 : bits .and .i64 (y0 + y1) 1 = 1 := by rw [Pl.and_1_i64]; exact h.2
  clear h
  go_enter Try.func25, Try.ntmps25
  go_wp2_with fail
  have A0 := Lib.hid (B3.start W #[.int .i64 x0, .int .i64 y0, .bool false, .int .i64 cx, .int .i64 cy, .int .i64 x1, .int .i64 y1] #[.int .i64 0, .int .i64 0, .bool false, .int .i64 0, .int .i64 0, .int .i64 0, .int .i64 0] #[.int .i64 0, .int .i64 0, .bool false, .int .i64 0, .int .i64 0, .int .i64 0, .int .i64 0] 25 25 25)
  refine (K1.out _).mono ?_
  rintro en w1 ⟨rfl, g1⟩
  have A1 := Lib.hid (A0.out.grow g1)
  obtain ⟨p, hp⟩ : ∃ p, p = W.heap.size + 1 := ⟨_, rfl⟩
  obtain ⟨q, hq⟩ : ∃ q, q = W.heap.size + 1 + 1 := ⟨_, rfl⟩
  obtain ⟨r, hr⟩ : ∃ r, r = W.heap.size := ⟨_, rfl⟩
  have BA : Hid (Blk W r [.int .i64 x0, .int .i64 y0, .bool false, .int .i64 cx, .int .i64 cy, .int .i64 x1, .int .i64 y1] w1) := Lib.hid (by rw [hr]; exact A1.out.1)
  have BP : Hid (Blk W p [.int .i64 0, .int .i64 0, .bool false, .int .i64 0, .int .i64 0, .int .i64 0, .int .i64 0] w1) := Lib.hid (by rw [hp]; exact A1.out.2.1)
  have BQ : Hid (Blk W q [.int .i64 0, .int .i64 0, .bool false, .int .i64 0, .int .i64 0, .int .i64 0, .int .i64 0] w1) := Lib.hid (by rw [hq]; exact A1.out.2.2.1)
  have GH := Lib.hid (Fr.of_grown (fun _ => False) A1.out.2.2.2)
  have n1 : r ≠ p := by omega
  have n2 : r ≠ q := by omega
  have n3 : p ≠ q := by omega
  have n4 : p ≠ r := by omega
  have n5 : q ≠ r := by omega
  have n6 : q ≠ p := by omega
  rw [← hq, ← hp, ← hr]
  clear hp hq hr g1 A0 A1 K1
  obtain ⟨c0, c1, c2, c3, c4, c5, c6⟩ := BA.out.at0
  obtain ⟨d0, d1, d2, d3, d4, d5, d6⟩ := BP.out.at0
  obtain ⟨e0, e1, e2, e3, e4, e5, e6⟩ := BQ.out.at0
  have fp := BP.out.2.2.2
  have fq := BQ.out.2.2.2
  have hself : ∀ (Z : World) (a : Addr) (v : Value), Z.cell? a = some v → Z.setCell a v = Z := fun _ _ _ h => setCell_self h
  go_wp2_with fail
  go_quiet (fail)
  go_wp2_with fail
  exact post_halve (p := p) (q := q) rfl rfl rfl (BP.out.drewN _) (BQ.out.drewN _) rfl ⟨rfl, GH.out⟩
set_option maxHeartbeats 8000000 in
set_option maxRecDepth 100000 in
theorem halve_bent (x0 y0 cx cy x1 y1 P Q R S X Y : Int) (he : Pl.Ed.may ⟨x0, y0, true, cx, cy, x1, y1⟩) (hP : x0 + cx = 2 * P) (hQ : y0 + cy = 2 * Q) (hR : cx + x1 = 2 * R) (hS : cy + y1 = 2 * S) (hX : x0 + 2 * cx + x1 = 4 * X) (hY : y0 + 2 * cy + y1 = 4 * Y) (W : World) :
    Calls Try.prog 25 #[.agg #[.int .i64 x0, .int .i64 y0, .bool true, .int .i64 cx, .int .i64 cy, .int .i64 x1, .int .i64 y1]] W fun en w' => en = .returned (.tuple #[.agg #[.int .i64 x0, .int .i64 y0, .bool true, .int .i64 P, .int .i64 Q, .int .i64 X, .int .i64 Y], .agg #[.int .i64 X, .int .i64 Y, .bool true, .int .i64 R, .int .i64 S, .int .i64 x1, .int .i64 y1], .bool true]) ∧ Fr (fun _ => False) W w' := by
  have K1 := Lib.hid (fun Z => may_any ⟨x0, y0, true, cx, cy, x1, y1⟩ Z)
  rw [decide_eq_true he] at K1
  simp only [edv] at K1
  obtain ⟨a1, a2, a3, a4, a5, a6, _⟩ := he
  unfold Pl.crd at a1 a2 a3 a4 a5 a6
  simp only at a1 a2 a3 a4 a5 a6
  have t0 : bits .and .i64 (2 * P) 1 = 0 := by rw [Pl.and_1_i64]; omega
  have s0 : (2 * P).tdiv 2 = P := Int.mul_tdiv_cancel_left P (by omega)
  have bP : -8191 ≤ P ∧ P ≤ 8191 := by omega
  have t1 : bits .and .i64 (2 * Q) 1 = 0 := by rw [Pl.and_1_i64]; omega
  have s1 : (2 * Q).tdiv 2 = Q := Int.mul_tdiv_cancel_left Q (by omega)
  have bQ : -8191 ≤ Q ∧ Q ≤ 8191 := by omega
  have t2 : bits .and .i64 (2 * R) 1 = 0 := by rw [Pl.and_1_i64]; omega
  have s2 : (2 * R).tdiv 2 = R := Int.mul_tdiv_cancel_left R (by omega)
  have bR : -8191 ≤ R ∧ R ≤ 8191 := by omega
  have t3 : bits .and .i64 (2 * S) 1 = 0 := by rw [Pl.and_1_i64]; omega
  have s3 : (2 * S).tdiv 2 = S := Int.mul_tdiv_cancel_left S (by omega)
  have bS : -8191 ≤ S ∧ S ≤ 8191 := by omega
  have t4 : bits .and .i64 (4 * X) 3 = 0 := by rw [Pl.and_3_i64]; omega
  have s4 : (4 * X).tdiv 4 = X := Int.mul_tdiv_cancel_left X (by omega)
  have bX : -8191 ≤ X ∧ X ≤ 8191 := by omega
  have t5 : bits .and .i64 (4 * Y) 3 = 0 := by rw [Pl.and_3_i64]; omega
  have s5 : (4 * Y).tdiv 4 = Y := Int.mul_tdiv_cancel_left Y (by omega)
  have bY : -8191 ≤ Y ∧ Y ≤ 8191 := by omega
  go_enter Try.func25, Try.ntmps25
  go_wp2_with fail
  have A0 := Lib.hid (B3.start W #[.int .i64 x0, .int .i64 y0, .bool true, .int .i64 cx, .int .i64 cy, .int .i64 x1, .int .i64 y1] #[.int .i64 0, .int .i64 0, .bool false, .int .i64 0, .int .i64 0, .int .i64 0, .int .i64 0] #[.int .i64 0, .int .i64 0, .bool false, .int .i64 0, .int .i64 0, .int .i64 0, .int .i64 0] 25 25 25)
  refine (K1.out _).mono ?_
  rintro en w1 ⟨rfl, g1⟩
  have A1 := Lib.hid (A0.out.grow g1)
  obtain ⟨p, hp⟩ : ∃ p, p = W.heap.size + 1 := ⟨_, rfl⟩
  obtain ⟨q, hq⟩ : ∃ q, q = W.heap.size + 1 + 1 := ⟨_, rfl⟩
  obtain ⟨r, hr⟩ : ∃ r, r = W.heap.size := ⟨_, rfl⟩
  have BA : Hid (Blk W r [.int .i64 x0, .int .i64 y0, .bool true, .int .i64 cx, .int .i64 cy, .int .i64 x1, .int .i64 y1] w1) := Lib.hid (by rw [hr]; exact A1.out.1)
  have BP : Hid (Blk W p [.int .i64 0, .int .i64 0, .bool false, .int .i64 0, .int .i64 0, .int .i64 0, .int .i64 0] w1) := Lib.hid (by rw [hp]; exact A1.out.2.1)
  have BQ : Hid (Blk W q [.int .i64 0, .int .i64 0, .bool false, .int .i64 0, .int .i64 0, .int .i64 0, .int .i64 0] w1) := Lib.hid (by rw [hq]; exact A1.out.2.2.1)
  have GH := Lib.hid (Fr.of_grown (fun _ => False) A1.out.2.2.2)
  have n1 : r ≠ p := by omega
  have n2 : r ≠ q := by omega
  have n3 : p ≠ q := by omega
  have n4 : p ≠ r := by omega
  have n5 : q ≠ r := by omega
  have n6 : q ≠ p := by omega
  rw [← hq, ← hp, ← hr]
  clear hp hq hr g1 A0 A1 K1
  obtain ⟨c0, c1, c2, c3, c4, c5, c6⟩ := BA.out.at0
  obtain ⟨d0, d1, d2, d3, d4, d5, d6⟩ := BP.out.at0
  obtain ⟨e0, e1, e2, e3, e4, e5, e6⟩ := BQ.out.at0
  have fp := BP.out.2.2.2
  have fq := BQ.out.2.2.2
  go_wp2_with fail
  go_quiet (fail)
  go_wp2_with fail
  generalize hZ3 : World.setCell _ _ _ = Z3
  have BP3 : Hid (Blk W p [.int .i64 x0, .int .i64 y0, .bool true, .int .i64 P, .int .i64 Q, .int .i64 X, .int .i64 Y] Z3) := Lib.hid (by rw [← hZ3]; exact ((BP.out.drewN _).seven).other_seven n3)
  have BQ3 : Hid (Blk W q [.int .i64 X, .int .i64 Y, .bool true, .int .i64 R, .int .i64 S, .int .i64 x1, .int .i64 y1] Z3) := Lib.hid (by rw [← hZ3]; exact ((BQ.out.drewN _).other_seven n6).seven)
  have G3 : Hid (Fr (fun _ => False) W Z3) := Lib.hid (by rw [← hZ3]; exact (Fr.seven (Z := World.drewN _ _) GH.out BP.out.1).seven BQ.out.1)
  clear hZ3 BA BP BQ GH
  clear c0 c1 c2 c3 c4 c5 c6 d0 d1 d2 d3 d4 d5 d6 e0 e1 e2 e3 e4 e5 e6 fp fq
  obtain ⟨d0, d1, d2, d3, d4, d5, d6⟩ := BP3.out.at0
  obtain ⟨e0, e1, e2, e3, e4, e5, e6⟩ := BQ3.out.at0
  have fp := BP3.out.2.2.2
  have fq := BQ3.out.2.2.2
  have hself : ∀ (Z : World) (a : Addr) (v : Value), Z.cell? a = some v → Z.setCell a v = Z := fun _ _ _ h => setCell_self h
  clear a1 a2 a3 a4 a5 a6 hP hQ hR hS hX hY t0 t1 t2 t3 t4 t5 s0 s1 s2 s3 s4 s5
  go_region
  all_goals
    clear hself
    go_wp2_with fail
    exact post_halve (p := p) (q := q) rfl rfl rfl BP3.out.drew BQ3.out.drew rfl ⟨rfl, G3.out.drew⟩
set_option maxHeartbeats 4000000 in
set_option maxRecDepth 100000 in
theorem halve_not_0 (x0 y0 cx cy x1 y1 : Int) (he : Pl.Ed.may ⟨x0, y0, true, cx, cy, x1, y1⟩) (h : ¬ (x0 + cx) % 2 = 0) (W : World) :
    Calls Try.prog 25 #[.agg #[.int .i64 x0, .int .i64 y0, .bool true, .int .i64 cx, .int .i64 cy, .int .i64 x1, .int .i64 y1]] W fun en w' => en = .returned (.tuple #[.agg #[.int .i64 0, .int .i64 0, .bool false, .int .i64 0, .int .i64 0, .int .i64 0, .int .i64 0], .agg #[.int .i64 0, .int .i64 0, .bool false, .int .i64 0, .int .i64 0, .int .i64 0, .int .i64 0], .bool false]) ∧ Fr (fun _ => False) W w' := by
  have K1 := Lib.hid (fun Z => may_any ⟨x0, y0, true, cx, cy, x1, y1⟩ Z)
  rw [decide_eq_true he] at K1
  simp only [edv] at K1
  obtain ⟨a1, a2, a3, a4, a5, a6, _⟩ := he
  unfold Pl.crd at a1 a2 a3 a4 a5 a6
  simp only at a1 a2 a3 a4 a5 a6
  have h0 := h
  clear h
  obtain ⟨u, hu⟩ : ∃ u, u = bits .and .i64 (x0 + cx) 1 := ⟨_, rfl⟩
  have hu0 : (u == 0) = false := beq_eq_false_iff_ne.2 (by rw [hu, Pl.and_1_i64]; exact h0)
  have t0 : bits .and .i64 (x0 + cx) 1 = u := hu.symm
  clear hu h0
  go_enter Try.func25, Try.ntmps25
  go_wp2_with fail
  have A0 := Lib.hid (B3.start W #[.int .i64 x0, .int .i64 y0, .bool true, .int .i64 cx, .int .i64 cy, .int .i64 x1, .int .i64 y1] #[.int .i64 0, .int .i64 0, .bool false, .int .i64 0, .int .i64 0, .int .i64 0, .int .i64 0] #[.int .i64 0, .int .i64 0, .bool false, .int .i64 0, .int .i64 0, .int .i64 0, .int .i64 0] 25 25 25)
  refine (K1.out _).mono ?_
  rintro en w1 ⟨rfl, g1⟩
  have A1 := Lib.hid (A0.out.grow g1)
  obtain ⟨p, hp⟩ : ∃ p, p = W.heap.size + 1 := ⟨_, rfl⟩
  obtain ⟨q, hq⟩ : ∃ q, q = W.heap.size + 1 + 1 := ⟨_, rfl⟩
  obtain ⟨r, hr⟩ : ∃ r, r = W.heap.size := ⟨_, rfl⟩
  have BA : Hid (Blk W r [.int .i64 x0, .int .i64 y0, .bool true, .int .i64 cx, .int .i64 cy, .int .i64 x1, .int .i64 y1] w1) := Lib.hid (by rw [hr]; exact A1.out.1)
  have BP : Hid (Blk W p [.int .i64 0, .int .i64 0, .bool false, .int .i64 0, .int .i64 0, .int .i64 0, .int .i64 0] w1) := Lib.hid (by rw [hp]; exact A1.out.2.1)
  have BQ : Hid (Blk W q [.int .i64 0, .int .i64 0, .bool false, .int .i64 0, .int .i64 0, .int .i64 0, .int .i64 0] w1) := Lib.hid (by rw [hq]; exact A1.out.2.2.1)
  have GH := Lib.hid (Fr.of_grown (fun _ => False) A1.out.2.2.2)
  have n1 : r ≠ p := by omega
  have n2 : r ≠ q := by omega
  have n3 : p ≠ q := by omega
  have n4 : p ≠ r := by omega
  have n5 : q ≠ r := by omega
  have n6 : q ≠ p := by omega
  rw [← hq, ← hp, ← hr]
  clear hp hq hr g1 A0 A1 K1
  obtain ⟨c0, c1, c2, c3, c4, c5, c6⟩ := BA.out.at0
  obtain ⟨d0, d1, d2, d3, d4, d5, d6⟩ := BP.out.at0
  obtain ⟨e0, e1, e2, e3, e4, e5, e6⟩ := BQ.out.at0
  have fp := BP.out.2.2.2
  have fq := BQ.out.2.2.2
  have hself : ∀ (Z : World) (a : Addr) (v : Value), Z.cell? a = some v → Z.setCell a v = Z := fun _ _ _ h => setCell_self h
  go_wp2_with fail
  go_quiet (fail)
  go_wp2_with fail
  all_goals first
    | (exfalso; have hh := ‹u = 0›; rw [hh] at hu0; exact absurd hu0 (by decide))
    | exact post_halve (p := p) (q := q) rfl rfl rfl (BP.out.drewN _) (BQ.out.drewN _) rfl ⟨rfl, GH.out⟩
set_option maxHeartbeats 4000000 in
set_option maxRecDepth 100000 in
theorem halve_not_1 (x0 y0 cx cy x1 y1 : Int) (he : Pl.Ed.may ⟨x0, y0, true, cx, cy, x1, y1⟩) (h : (x0 + cx) % 2 = 0 ∧ ¬ (y0 + cy) % 2 = 0) (W : World) :
    Calls Try.prog 25 #[.agg #[.int .i64 x0, .int .i64 y0, .bool true, .int .i64 cx, .int .i64 cy, .int .i64 x1, .int .i64 y1]] W fun en w' => en = .returned (.tuple #[.agg #[.int .i64 0, .int .i64 0, .bool false, .int .i64 0, .int .i64 0, .int .i64 0, .int .i64 0], .agg #[.int .i64 0, .int .i64 0, .bool false, .int .i64 0, .int .i64 0, .int .i64 0, .int .i64 0], .bool false]) ∧ Fr (fun _ => False) W w' := by
  have K1 := Lib.hid (fun Z => may_any ⟨x0, y0, true, cx, cy, x1, y1⟩ Z)
  rw [decide_eq_true he] at K1
  simp only [edv] at K1
  obtain ⟨a1, a2, a3, a4, a5, a6, _⟩ := he
  unfold Pl.crd at a1 a2 a3 a4 a5 a6
  simp only at a1 a2 a3 a4 a5 a6
  obtain ⟨h0, h1⟩ := h
  have t0 : bits .and .i64 (x0 + cx) 1 = 0 := by rw [Pl.and_1_i64]; exact h0
  clear h0
  obtain ⟨u, hu⟩ : ∃ u, u = bits .and .i64 (y0 + cy) 1 := ⟨_, rfl⟩
  have hu0 : (u == 0) = false := beq_eq_false_iff_ne.2 (by rw [hu, Pl.and_1_i64]; exact h1)
  have t1 : bits .and .i64 (y0 + cy) 1 = u := hu.symm
  clear hu h1
  go_enter Try.func25, Try.ntmps25
  go_wp2_with fail
  have A0 := Lib.hid (B3.start W #[.int .i64 x0, .int .i64 y0, .bool true, .int .i64 cx, .int .i64 cy, .int .i64 x1, .int .i64 y1] #[.int .i64 0, .int .i64 0, .bool false, .int .i64 0, .int .i64 0, .int .i64 0, .int .i64 0] #[.int .i64 0, .int .i64 0, .bool false, .int .i64 0, .int .i64 0, .int .i64 0, .int .i64 0] 25 25 25)
  refine (K1.out _).mono ?_
  rintro en w1 ⟨rfl, g1⟩
  have A1 := Lib.hid (A0.out.grow g1)
  obtain ⟨p, hp⟩ : ∃ p, p = W.heap.size + 1 := ⟨_, rfl⟩
  obtain ⟨q, hq⟩ : ∃ q, q = W.heap.size + 1 + 1 := ⟨_, rfl⟩
  obtain ⟨r, hr⟩ : ∃ r, r = W.heap.size := ⟨_, rfl⟩
  have BA : Hid (Blk W r [.int .i64 x0, .int .i64 y0, .bool true, .int .i64 cx, .int .i64 cy, .int .i64 x1, .int .i64 y1] w1) := Lib.hid (by rw [hr]; exact A1.out.1)
  have BP : Hid (Blk W p [.int .i64 0, .int .i64 0, .bool false, .int .i64 0, .int .i64 0, .int .i64 0, .int .i64 0] w1) := Lib.hid (by rw [hp]; exact A1.out.2.1)
  have BQ : Hid (Blk W q [.int .i64 0, .int .i64 0, .bool false, .int .i64 0, .int .i64 0, .int .i64 0, .int .i64 0] w1) := Lib.hid (by rw [hq]; exact A1.out.2.2.1)
  have GH := Lib.hid (Fr.of_grown (fun _ => False) A1.out.2.2.2)
  have n1 : r ≠ p := by omega
  have n2 : r ≠ q := by omega
  have n3 : p ≠ q := by omega
  have n4 : p ≠ r := by omega
  have n5 : q ≠ r := by omega
  have n6 : q ≠ p := by omega
  rw [← hq, ← hp, ← hr]
  clear hp hq hr g1 A0 A1 K1
  obtain ⟨c0, c1, c2, c3, c4, c5, c6⟩ := BA.out.at0
  obtain ⟨d0, d1, d2, d3, d4, d5, d6⟩ := BP.out.at0
  obtain ⟨e0, e1, e2, e3, e4, e5, e6⟩ := BQ.out.at0
  have fp := BP.out.2.2.2
  have fq := BQ.out.2.2.2
  have hself : ∀ (Z : World) (a : Addr) (v : Value), Z.cell? a = some v → Z.setCell a v = Z := fun _ _ _ h => setCell_self h
  go_wp2_with fail
  go_quiet (fail)
  go_wp2_with fail
  all_goals first
    | (exfalso; have hh := ‹u = 0›; rw [hh] at hu0; exact absurd hu0 (by decide))
    | exact post_halve (p := p) (q := q) rfl rfl rfl (BP.out.drewN _) (BQ.out.drewN _) rfl ⟨rfl, GH.out⟩
set_option maxHeartbeats 4000000 in
set_option maxRecDepth 100000 in
theorem halve_not_2 (x0 y0 cx cy x1 y1 : Int) (he : Pl.Ed.may ⟨x0, y0, true, cx, cy, x1, y1⟩) (h : (x0 + cx) % 2 = 0 ∧ (y0 + cy) % 2 = 0 ∧ ¬ (cx + x1) % 2 = 0) (W : World) :
    Calls Try.prog 25 #[.agg #[.int .i64 x0, .int .i64 y0, .bool true, .int .i64 cx, .int .i64 cy, .int .i64 x1, .int .i64 y1]] W fun en w' => en = .returned (.tuple #[.agg #[.int .i64 0, .int .i64 0, .bool false, .int .i64 0, .int .i64 0, .int .i64 0, .int .i64 0], .agg #[.int .i64 0, .int .i64 0, .bool false, .int .i64 0, .int .i64 0, .int .i64 0, .int .i64 0], .bool false]) ∧ Fr (fun _ => False) W w' := by
  have K1 := Lib.hid (fun Z => may_any ⟨x0, y0, true, cx, cy, x1, y1⟩ Z)
  rw [decide_eq_true he] at K1
  simp only [edv] at K1
  obtain ⟨a1, a2, a3, a4, a5, a6, _⟩ := he
  unfold Pl.crd at a1 a2 a3 a4 a5 a6
  simp only at a1 a2 a3 a4 a5 a6
  obtain ⟨h0, h1, h2⟩ := h
  have t0 : bits .and .i64 (x0 + cx) 1 = 0 := by rw [Pl.and_1_i64]; exact h0
  clear h0
  have t1 : bits .and .i64 (y0 + cy) 1 = 0 := by rw [Pl.and_1_i64]; exact h1
  clear h1
  obtain ⟨u, hu⟩ : ∃ u, u = bits .and .i64 (cx + x1) 1 := ⟨_, rfl⟩
  have hu0 : (u == 0) = false := beq_eq_false_iff_ne.2 (by rw [hu, Pl.and_1_i64]; exact h2)
  have t2 : bits .and .i64 (cx + x1) 1 = u := hu.symm
  clear hu h2
  go_enter Try.func25, Try.ntmps25
  go_wp2_with fail
  have A0 := Lib.hid (B3.start W #[.int .i64 x0, .int .i64 y0, .bool true, .int .i64 cx, .int .i64 cy, .int .i64 x1, .int .i64 y1] #[.int .i64 0, .int .i64 0, .bool false, .int .i64 0, .int .i64 0, .int .i64 0, .int .i64 0] #[.int .i64 0, .int .i64 0, .bool false, .int .i64 0, .int .i64 0, .int .i64 0, .int .i64 0] 25 25 25)
  refine (K1.out _).mono ?_
  rintro en w1 ⟨rfl, g1⟩
  have A1 := Lib.hid (A0.out.grow g1)
  obtain ⟨p, hp⟩ : ∃ p, p = W.heap.size + 1 := ⟨_, rfl⟩
  obtain ⟨q, hq⟩ : ∃ q, q = W.heap.size + 1 + 1 := ⟨_, rfl⟩
  obtain ⟨r, hr⟩ : ∃ r, r = W.heap.size := ⟨_, rfl⟩
  have BA : Hid (Blk W r [.int .i64 x0, .int .i64 y0, .bool true, .int .i64 cx, .int .i64 cy, .int .i64 x1, .int .i64 y1] w1) := Lib.hid (by rw [hr]; exact A1.out.1)
  have BP : Hid (Blk W p [.int .i64 0, .int .i64 0, .bool false, .int .i64 0, .int .i64 0, .int .i64 0, .int .i64 0] w1) := Lib.hid (by rw [hp]; exact A1.out.2.1)
  have BQ : Hid (Blk W q [.int .i64 0, .int .i64 0, .bool false, .int .i64 0, .int .i64 0, .int .i64 0, .int .i64 0] w1) := Lib.hid (by rw [hq]; exact A1.out.2.2.1)
  have GH := Lib.hid (Fr.of_grown (fun _ => False) A1.out.2.2.2)
  have n1 : r ≠ p := by omega
  have n2 : r ≠ q := by omega
  have n3 : p ≠ q := by omega
  have n4 : p ≠ r := by omega
  have n5 : q ≠ r := by omega
  have n6 : q ≠ p := by omega
  rw [← hq, ← hp, ← hr]
  clear hp hq hr g1 A0 A1 K1
  obtain ⟨c0, c1, c2, c3, c4, c5, c6⟩ := BA.out.at0
  obtain ⟨d0, d1, d2, d3, d4, d5, d6⟩ := BP.out.at0
  obtain ⟨e0, e1, e2, e3, e4, e5, e6⟩ := BQ.out.at0
  have fp := BP.out.2.2.2
  have fq := BQ.out.2.2.2
  have hself : ∀ (Z : World) (a : Addr) (v : Value), Z.cell? a = some v → Z.setCell a v = Z := fun _ _ _ h => setCell_self h
  go_wp2_with fail
  go_quiet (fail)
  go_wp2_with fail
  all_goals first
    | (exfalso; have hh := ‹u = 0›; rw [hh] at hu0; exact absurd hu0 (by decide))
    | exact post_halve (p := p) (q := q) rfl rfl rfl (BP.out.drewN _) (BQ.out.drewN _) rfl ⟨rfl, GH.out⟩
set_option maxHeartbeats 4000000 in
set_option maxRecDepth 100000 in
theorem halve_not_3 (x0 y0 cx cy x1 y1 : Int) (he : Pl.Ed.may ⟨x0, y0, true, cx, cy, x1, y1⟩) (h : (x0 + cx) % 2 = 0 ∧ (y0 + cy) % 2 = 0 ∧ (cx + x1) % 2 = 0 ∧ ¬ (cy + y1) % 2 = 0) (W : World) :
    Calls Try.prog 25 #[.agg #[.int .i64 x0, .int .i64 y0, .bool true, .int .i64 cx, .int .i64 cy, .int .i64 x1, .int .i64 y1]] W fun en w' => en = .returned (.tuple #[.agg #[.int .i64 0, .int .i64 0, .bool false, .int .i64 0, .int .i64 0, .int .i64 0, .int .i64 0], .agg #[.int .i64 0, .int .i64 0, .bool false, .int .i64 0, .int .i64 0, .int .i64 0, .int .i64 0], .bool false]) ∧ Fr (fun _ => False) W w' := by
  have K1 := Lib.hid (fun Z => may_any ⟨x0, y0, true, cx, cy, x1, y1⟩ Z)
  rw [decide_eq_true he] at K1
  simp only [edv] at K1
  obtain ⟨a1, a2, a3, a4, a5, a6, _⟩ := he
  unfold Pl.crd at a1 a2 a3 a4 a5 a6
  simp only at a1 a2 a3 a4 a5 a6
  obtain ⟨h0, h1, h2, h3⟩ := h
  have t0 : bits .and .i64 (x0 + cx) 1 = 0 := by rw [Pl.and_1_i64]; exact h0
  clear h0
  have t1 : bits .and .i64 (y0 + cy) 1 = 0 := by rw [Pl.and_1_i64]; exact h1
  clear h1
  have t2 : bits .and .i64 (cx + x1) 1 = 0 := by rw [Pl.and_1_i64]; exact h2
  clear h2
  obtain ⟨u, hu⟩ : ∃ u, u = bits .and .i64 (cy + y1) 1 := ⟨_, rfl⟩
  have hu0 : (u == 0) = false := beq_eq_false_iff_ne.2 (by rw [hu, Pl.and_1_i64]; exact h3)
  have t3 : bits .and .i64 (cy + y1) 1 = u := hu.symm
  clear hu h3
  go_enter Try.func25, Try.ntmps25
  go_wp2_with fail
  have A0 := Lib.hid (B3.start W #[.int .i64 x0, .int .i64 y0, .bool true, .int .i64 cx, .int .i64 cy, .int .i64 x1, .int .i64 y1] #[.int .i64 0, .int .i64 0, .bool false, .int .i64 0, .int .i64 0, .int .i64 0, .int .i64 0] #[.int .i64 0, .int .i64 0, .bool false, .int .i64 0, .int .i64 0, .int .i64 0, .int .i64 0] 25 25 25)
  refine (K1.out _).mono ?_
  rintro en w1 ⟨rfl, g1⟩
  have A1 := Lib.hid (A0.out.grow g1)
  obtain ⟨p, hp⟩ : ∃ p, p = W.heap.size + 1 := ⟨_, rfl⟩
  obtain ⟨q, hq⟩ : ∃ q, q = W.heap.size + 1 + 1 := ⟨_, rfl⟩
  obtain ⟨r, hr⟩ : ∃ r, r = W.heap.size := ⟨_, rfl⟩
  have BA : Hid (Blk W r [.int .i64 x0, .int .i64 y0, .bool true, .int .i64 cx, .int .i64 cy, .int .i64 x1, .int .i64 y1] w1) := Lib.hid (by rw [hr]; exact A1.out.1)
  have BP : Hid (Blk W p [.int .i64 0, .int .i64 0, .bool false, .int .i64 0, .int .i64 0, .int .i64 0, .int .i64 0] w1) := Lib.hid (by rw [hp]; exact A1.out.2.1)
  have BQ : Hid (Blk W q [.int .i64 0, .int .i64 0, .bool false, .int .i64 0, .int .i64 0, .int .i64 0, .int .i64 0] w1) := Lib.hid (by rw [hq]; exact A1.out.2.2.1)
  have GH := Lib.hid (Fr.of_grown (fun _ => False) A1.out.2.2.2)
  have n1 : r ≠ p := by omega
  have n2 : r ≠ q := by omega
  have n3 : p ≠ q := by omega
  have n4 : p ≠ r := by omega
  have n5 : q ≠ r := by omega
  have n6 : q ≠ p := by omega
  rw [← hq, ← hp, ← hr]
  clear hp hq hr g1 A0 A1 K1
  obtain ⟨c0, c1, c2, c3, c4, c5, c6⟩ := BA.out.at0
  obtain ⟨d0, d1, d2, d3, d4, d5, d6⟩ := BP.out.at0
  obtain ⟨e0, e1, e2, e3, e4, e5, e6⟩ := BQ.out.at0
  have fp := BP.out.2.2.2
  have fq := BQ.out.2.2.2
  have hself : ∀ (Z : World) (a : Addr) (v : Value), Z.cell? a = some v → Z.setCell a v = Z := fun _ _ _ h => setCell_self h
  go_wp2_with fail
  go_quiet (fail)
  go_wp2_with fail
  all_goals first
    | (exfalso; have hh := ‹u = 0›; rw [hh] at hu0; exact absurd hu0 (by decide))
    | exact post_halve (p := p) (q := q) rfl rfl rfl (BP.out.drewN _) (BQ.out.drewN _) rfl ⟨rfl, GH.out⟩
set_option maxHeartbeats 4000000 in
set_option maxRecDepth 100000 in
theorem halve_not_4 (x0 y0 cx cy x1 y1 : Int) (he : Pl.Ed.may ⟨x0, y0, true, cx, cy, x1, y1⟩) (h : (x0 + cx) % 2 = 0 ∧ (y0 + cy) % 2 = 0 ∧ (cx + x1) % 2 = 0 ∧ (cy + y1) % 2 = 0 ∧ ¬ (x0 + 2 * cx + x1) % 4 = 0) (W : World) :
    Calls Try.prog 25 #[.agg #[.int .i64 x0, .int .i64 y0, .bool true, .int .i64 cx, .int .i64 cy, .int .i64 x1, .int .i64 y1]] W fun en w' => en = .returned (.tuple #[.agg #[.int .i64 0, .int .i64 0, .bool false, .int .i64 0, .int .i64 0, .int .i64 0, .int .i64 0], .agg #[.int .i64 0, .int .i64 0, .bool false, .int .i64 0, .int .i64 0, .int .i64 0, .int .i64 0], .bool false]) ∧ Fr (fun _ => False) W w' := by
  have K1 := Lib.hid (fun Z => may_any ⟨x0, y0, true, cx, cy, x1, y1⟩ Z)
  rw [decide_eq_true he] at K1
  simp only [edv] at K1
  obtain ⟨a1, a2, a3, a4, a5, a6, _⟩ := he
  unfold Pl.crd at a1 a2 a3 a4 a5 a6
  simp only at a1 a2 a3 a4 a5 a6
  obtain ⟨h0, h1, h2, h3, h4⟩ := h
  have t0 : bits .and .i64 (x0 + cx) 1 = 0 := by rw [Pl.and_1_i64]; exact h0
  clear h0
  have t1 : bits .and .i64 (y0 + cy) 1 = 0 := by rw [Pl.and_1_i64]; exact h1
  clear h1
  have t2 : bits .and .i64 (cx + x1) 1 = 0 := by rw [Pl.and_1_i64]; exact h2
  clear h2
  have t3 : bits .and .i64 (cy + y1) 1 = 0 := by rw [Pl.and_1_i64]; exact h3
  clear h3
  obtain ⟨u, hu⟩ : ∃ u, u = bits .and .i64 (x0 + 2 * cx + x1) 3 := ⟨_, rfl⟩
  have hu0 : (u == 0) = false := beq_eq_false_iff_ne.2 (by rw [hu, Pl.and_3_i64]; exact h4)
  have t4 : bits .and .i64 (x0 + 2 * cx + x1) 3 = u := hu.symm
  clear hu h4
  go_enter Try.func25, Try.ntmps25
  go_wp2_with fail
  have A0 := Lib.hid (B3.start W #[.int .i64 x0, .int .i64 y0, .bool true, .int .i64 cx, .int .i64 cy, .int .i64 x1, .int .i64 y1] #[.int .i64 0, .int .i64 0, .bool false, .int .i64 0, .int .i64 0, .int .i64 0, .int .i64 0] #[.int .i64 0, .int .i64 0, .bool false, .int .i64 0, .int .i64 0, .int .i64 0, .int .i64 0] 25 25 25)
  refine (K1.out _).mono ?_
  rintro en w1 ⟨rfl, g1⟩
  have A1 := Lib.hid (A0.out.grow g1)
  obtain ⟨p, hp⟩ : ∃ p, p = W.heap.size + 1 := ⟨_, rfl⟩
  obtain ⟨q, hq⟩ : ∃ q, q = W.heap.size + 1 + 1 := ⟨_, rfl⟩
  obtain ⟨r, hr⟩ : ∃ r, r = W.heap.size := ⟨_, rfl⟩
  have BA : Hid (Blk W r [.int .i64 x0, .int .i64 y0, .bool true, .int .i64 cx, .int .i64 cy, .int .i64 x1, .int .i64 y1] w1) := Lib.hid (by rw [hr]; exact A1.out.1)
  have BP : Hid (Blk W p [.int .i64 0, .int .i64 0, .bool false, .int .i64 0, .int .i64 0, .int .i64 0, .int .i64 0] w1) := Lib.hid (by rw [hp]; exact A1.out.2.1)
  have BQ : Hid (Blk W q [.int .i64 0, .int .i64 0, .bool false, .int .i64 0, .int .i64 0, .int .i64 0, .int .i64 0] w1) := Lib.hid (by rw [hq]; exact A1.out.2.2.1)
  have GH := Lib.hid (Fr.of_grown (fun _ => False) A1.out.2.2.2)
  have n1 : r ≠ p := by omega
  have n2 : r ≠ q := by omega
  have n3 : p ≠ q := by omega
  have n4 : p ≠ r := by omega
  have n5 : q ≠ r := by omega
  have n6 : q ≠ p := by omega
  rw [← hq, ← hp, ← hr]
  clear hp hq hr g1 A0 A1 K1
  obtain ⟨c0, c1, c2, c3, c4, c5, c6⟩ := BA.out.at0
  obtain ⟨d0, d1, d2, d3, d4, d5, d6⟩ := BP.out.at0
  obtain ⟨e0, e1, e2, e3, e4, e5, e6⟩ := BQ.out.at0
  have fp := BP.out.2.2.2
  have fq := BQ.out.2.2.2
  have hself : ∀ (Z : World) (a : Addr) (v : Value), Z.cell? a = some v → Z.setCell a v = Z := fun _ _ _ h => setCell_self h
  go_wp2_with fail
  go_quiet (fail)
  go_wp2_with fail
  all_goals first
    | (exfalso; have hh := ‹u = 0›; rw [hh] at hu0; exact absurd hu0 (by decide))
    | exact post_halve (p := p) (q := q) rfl rfl rfl (BP.out.drewN _) (BQ.out.drewN _) rfl ⟨rfl, GH.out⟩
set_option maxHeartbeats 4000000 in
set_option maxRecDepth 100000 in
theorem halve_not_5 (x0 y0 cx cy x1 y1 : Int) (he : Pl.Ed.may ⟨x0, y0, true, cx, cy, x1, y1⟩) (h : (x0 + cx) % 2 = 0 ∧ (y0 + cy) % 2 = 0 ∧ (cx + x1) % 2 = 0 ∧ (cy + y1) % 2 = 0 ∧ (x0 + 2 * cx + x1) % 4 = 0 ∧ ¬ (y0 + 2 * cy + y1) % 4 = 0) (W : World) :
    Calls Try.prog 25 #[.agg #[.int .i64 x0, .int .i64 y0, .bool true, .int .i64 cx, .int .i64 cy, .int .i64 x1, .int .i64 y1]] W fun en w' => en = .returned (.tuple #[.agg #[.int .i64 0, .int .i64 0, .bool false, .int .i64 0, .int .i64 0, .int .i64 0, .int .i64 0], .agg #[.int .i64 0, .int .i64 0, .bool false, .int .i64 0, .int .i64 0, .int .i64 0, .int .i64 0], .bool false]) ∧ Fr (fun _ => False) W w' := by
  have K1 := Lib.hid (fun Z => may_any ⟨x0, y0, true, cx, cy, x1, y1⟩ Z)
  rw [decide_eq_true he] at K1
  simp only [edv] at K1
  obtain ⟨a1, a2, a3, a4, a5, a6, _⟩ := he
  unfold Pl.crd at a1 a2 a3 a4 a5 a6
  simp only at a1 a2 a3 a4 a5 a6
  obtain ⟨h0, h1, h2, h3, h4, h5⟩ := h
  have t0 : bits .and .i64 (x0 + cx) 1 = 0 := by rw [Pl.and_1_i64]; exact h0
  clear h0
  have t1 : bits .and .i64 (y0 + cy) 1 = 0 := by rw [Pl.and_1_i64]; exact h1
  clear h1
  have t2 : bits .and .i64 (cx + x1) 1 = 0 := by rw [Pl.and_1_i64]; exact h2
  clear h2
  have t3 : bits .and .i64 (cy + y1) 1 = 0 := by rw [Pl.and_1_i64]; exact h3
  clear h3
  have t4 : bits .and .i64 (x0 + 2 * cx + x1) 3 = 0 := by rw [Pl.and_3_i64]; exact h4
  clear h4
  obtain ⟨u, hu⟩ : ∃ u, u = bits .and .i64 (y0 + 2 * cy + y1) 3 := ⟨_, rfl⟩
  have hu0 : (u == 0) = false := beq_eq_false_iff_ne.2 (by rw [hu, Pl.and_3_i64]; exact h5)
  have t5 : bits .and .i64 (y0 + 2 * cy + y1) 3 = u := hu.symm
  clear hu h5
  go_enter Try.func25, Try.ntmps25
  go_wp2_with fail
  have A0 := Lib.hid (B3.start W #[.int .i64 x0, .int .i64 y0, .bool true, .int .i64 cx, .int .i64 cy, .int .i64 x1, .int .i64 y1] #[.int .i64 0, .int .i64 0, .bool false, .int .i64 0, .int .i64 0, .int .i64 0, .int .i64 0] #[.int .i64 0, .int .i64 0, .bool false, .int .i64 0, .int .i64 0, .int .i64 0, .int .i64 0] 25 25 25)
  refine (K1.out _).mono ?_
  rintro en w1 ⟨rfl, g1⟩
  have A1 := Lib.hid (A0.out.grow g1)
  obtain ⟨p, hp⟩ : ∃ p, p = W.heap.size + 1 := ⟨_, rfl⟩
  obtain ⟨q, hq⟩ : ∃ q, q = W.heap.size + 1 + 1 := ⟨_, rfl⟩
  obtain ⟨r, hr⟩ : ∃ r, r = W.heap.size := ⟨_, rfl⟩
  have BA : Hid (Blk W r [.int .i64 x0, .int .i64 y0, .bool true, .int .i64 cx, .int .i64 cy, .int .i64 x1, .int .i64 y1] w1) := Lib.hid (by rw [hr]; exact A1.out.1)
  have BP : Hid (Blk W p [.int .i64 0, .int .i64 0, .bool false, .int .i64 0, .int .i64 0, .int .i64 0, .int .i64 0] w1) := Lib.hid (by rw [hp]; exact A1.out.2.1)
  have BQ : Hid (Blk W q [.int .i64 0, .int .i64 0, .bool false, .int .i64 0, .int .i64 0, .int .i64 0, .int .i64 0] w1) := Lib.hid (by rw [hq]; exact A1.out.2.2.1)
  have GH := Lib.hid (Fr.of_grown (fun _ => False) A1.out.2.2.2)
  have n1 : r ≠ p := by omega
  have n2 : r ≠ q := by omega
  have n3 : p ≠ q := by omega
  have n4 : p ≠ r := by omega
  have n5 : q ≠ r := by omega
  have n6 : q ≠ p := by omega
  rw [← hq, ← hp, ← hr]
  clear hp hq hr g1 A0 A1 K1
  obtain ⟨c0, c1, c2, c3, c4, c5, c6⟩ := BA.out.at0
  obtain ⟨d0, d1, d2, d3, d4, d5, d6⟩ := BP.out.at0
  obtain ⟨e0, e1, e2, e3, e4, e5, e6⟩ := BQ.out.at0
  have fp := BP.out.2.2.2
  have fq := BQ.out.2.2.2
  have hself : ∀ (Z : World) (a : Addr) (v : Value), Z.cell? a = some v → Z.setCell a v = Z := fun _ _ _ h => setCell_self h
  go_wp2_with fail
  go_quiet (fail)
  go_wp2_with fail
  all_goals first
    | (exfalso; have hh := ‹u = 0›; rw [hh] at hu0; exact absurd hu0 (by decide))
    | exact post_halve (p := p) (q := q) rfl rfl rfl (BP.out.drewN _) (BQ.out.drewN _) rfl ⟨rfl, GH.out⟩
end Go.Proofs.Ytnienpalbfgflaa
