/- The reference's Halve of any edge: the walk (layer 26). -/
import Derived.Test.YtnienpalbfgflaaC13
import Derived.Test.YtnienpalbfgflaaBW20
import Derived.Test.YtnienpalbfgflaaHl
import Derived.Deep.QuietTactic
namespace Go.Proofs.Ytnienpalbfgflaa
set_option linter.unusedVariables false
open Go.RowKit

set_option linter.unusedSimpArgs false
theorem Pl.tm (m x : Int) (h : x % m = 0) : x.tmod m = 0 := Int.tmod_eq_zero_of_dvd (Int.dvd_of_emod_eq_zero h)
theorem Pl.tmn (m x : Int) (h : ¬ x % m = 0) : ¬ x.tmod m = 0 := fun k => h (Int.emod_eq_zero_of_dvd (Int.dvd_of_tmod_eq_zero k))
theorem rpost_halve {R : Ending → World → Prop} {a : Act} {W Z : World} {p q : Nat} {x0 y0 cx cy x1 y1 u0 v0 ux uy u1 v1 : Int} {b c ok : Bool} (hp : a.tmps.getD 2 undef = .pointer (some ⟨p, 0, none⟩)) (hq : a.tmps.getD 3 undef = .pointer (some ⟨q, 0, none⟩)) (h4 : a.tmps.getD 4 undef = .bool ok)
    (hB : Blk W p [.int .i64 x0, .int .i64 y0, .bool b, .int .i64 cx, .int .i64 cy, .int .i64 x1, .int .i64 y1] Z) (hC : Blk W q [.int .i64 u0, .int .i64 v0, .bool c, .int .i64 ux, .int .i64 uy, .int .i64 u1, .int .i64 v1] Z) (hd : a.defers = [])
    (hR : R (.returned (.tuple #[.agg #[.int .i64 x0, .int .i64 y0, .bool b, .int .i64 cx, .int .i64 cy, .int .i64 x1, .int .i64 y1], .agg #[.int .i64 u0, .int .i64 v0, .bool c, .int .i64 ux, .int .i64 uy, .int .i64 u1, .int .i64 v1], .bool ok])) Z) : bodyPost Try.prog Try.f28 R .ret a Z := by
  obtain ⟨c0, c1, c2, c3, c4, c5, c6⟩ := hB.at0
  obtain ⟨d0, d1, d2, d3, d4, d5, d6⟩ := hC.at0
  have hp2 : a.tmps[2]?.getD undef = .pointer (some ⟨p, 0, none⟩) := by rw [← hp]; simp
  have hq2 : a.tmps[3]?.getD undef = .pointer (some ⟨q, 0, none⟩) := by rw [← hq]; simp
  have h42 : a.tmps[4]?.getD undef = .bool ok := by rw [← h4]; simp
  exact bodyPost_ret (by simp [results, Try.results28, go_sem, hp2, hq2, h42, c0, c1, c2, c3, c4, c5, c6, d0, d1, d2, d3, d4, d5, d6]) hd hR
set_option maxHeartbeats 4000000 in
set_option maxRecDepth 100000 in
theorem rhalve_no (x0 y0 : Int) (b : Bool) (cx cy x1 y1 : Int) (he : ¬ Pl.Ed.may ⟨x0, y0, b, cx, cy, x1, y1⟩) (W : World) :
    Calls Try.prog 28 #[.agg #[.int .i64 x0, .int .i64 y0, .bool b, .int .i64 cx, .int .i64 cy, .int .i64 x1, .int .i64 y1]] W fun en w' => en = .returned (.tuple #[.agg #[.int .i64 0, .int .i64 0, .bool false, .int .i64 0, .int .i64 0, .int .i64 0, .int .i64 0], .agg #[.int .i64 0, .int .i64 0, .bool false, .int .i64 0, .int .i64 0, .int .i64 0, .int .i64 0], .bool false]) ∧ Fr (fun _ => False) W w' := by
  have K1 := Lib.hid (fun Z => isedge25_any ⟨x0, y0, b, cx, cy, x1, y1⟩ Z)
  rw [decide_eq_false he] at K1
  simp only [edv] at K1
  go_enter Try.func28, Try.ntmps28
  go_wp2_with fail
  have A0 := Lib.hid (B3.start W #[.int .i64 x0, .int .i64 y0, .bool b, .int .i64 cx, .int .i64 cy, .int .i64 x1, .int .i64 y1] #[.int .i64 0, .int .i64 0, .bool false, .int .i64 0, .int .i64 0, .int .i64 0, .int .i64 0] #[.int .i64 0, .int .i64 0, .bool false, .int .i64 0, .int .i64 0, .int .i64 0, .int .i64 0] 25 25 25)
  refine (K1.out _).mono ?_
  rintro en w1 ⟨rfl, g1⟩
  have A1 := Lib.hid (A0.out.grow g1)
  obtain ⟨p, hp⟩ : ∃ p, p = W.heap.size + 1 := ⟨_, rfl⟩
  obtain ⟨q, hq⟩ : ∃ q, q = W.heap.size + 1 + 1 := ⟨_, rfl⟩
  obtain ⟨r, hr⟩ : ∃ r, r = W.heap.size := ⟨_, rfl⟩
  have BA : Hid (Blk W r [.int .i64 x0, .int .i64 y0, .bool b, .int .i64 cx, .int .i64 cy, .int .i64 x1, .int .i64 y1] w1) := Lib.hid (by rw [hr]; exact A1.out.1)
  have BP : Hid (Blk W p [.int .i64 0, .int .i64 0, .bool false, .int .i64 0, .int .i64 0, .int .i64 0, .int .i64 0] w1) := Lib.hid (by rw [hp]; exact A1.out.2.1)
  have BQ : Hid (Blk W q [.int .i64 0, .int .i64 0, .bool false, .int .i64 0, .int .i64 0, .int .i64 0, .int .i64 0] w1) := Lib.hid (by rw [hq]; exact A1.out.2.2.1)
  have GH := Lib.hid (Fr.of_grown (fun _ => False) A1.out.2.2.2)
  have n1 : r ≠ p := by omega
  have n2 : r ≠ q := by omega
  have n3 : p ≠ q := by omega
  have n4 : p ≠ r := by omega
  have n5 : q ≠ r := by omega
  have n6 : q ≠ p := by omega
  rw [← hq, ← hp, ← hr]
  clear hp hq hr g1 A0 A1 K1
  obtain ⟨d0, d1, d2, d3, d4, d5, d6⟩ := BP.out.at0
  obtain ⟨e0, e1, e2, e3, e4, e5, e6⟩ := BQ.out.at0
  have fp := BP.out.2.2.2
  have fq := BQ.out.2.2.2
  have hself : ∀ (Z : World) (a : Addr) (v : Value), Z.cell? a = some v → Z.setCell a v = Z := fun _ _ _ h => setCell_self h
  go_wp2_with fail
  exact rpost_halve (p := p) (q := q) rfl rfl rfl BP.out BQ.out rfl ⟨rfl, GH.out⟩
set_option maxHeartbeats 4000000 in
set_option maxRecDepth 100000 in
theorem rhalve_odd_a (x0 y0 cx cy x1 y1 : Int) (he : Pl.Ed.may ⟨x0, y0, false, cx, cy, x1, y1⟩) (h : (x0 + x1) % 2 = 1) (W : World) :
    Calls Try.prog 28 #[.agg #[.int .i64 x0, .int .i64 y0, .bool false, .int .i64 cx, .int .i64 cy, .int .i64 x1, .int .i64 y1]] W fun en w' => en = .returned (.tuple #[.agg #[.int .i64 0, .int .i64 0, .bool false, .int .i64 0, .int .i64 0, .int .i64 0, .int .i64 0], .agg #[.int .i64 0, .int .i64 0, .bool false, .int .i64 0, .int .i64 0, .int .i64 0, .int .i64 0], .bool false]) ∧ Fr (fun _ => False) W w' := by
  have K1 := Lib.hid (fun Z => isedge25_any ⟨x0, y0, false, cx, cy, x1, y1⟩ Z)
  rw [decide_eq_true he] at K1
  simp only [edv] at K1
  obtain ⟨a1, a2, a3, a4, a5, a6, _⟩ := he
  unfold Pl.crd at a1 a2 a3 a4 a5 a6
  simp only at a1 a2 a3 a4 a5 a6
  obtain ⟨u, hu⟩ : ∃ u, u = (x0 + x1).tmod 2 := ⟨_, rfl⟩
  have hu0 : (u == 0) = false := beq_eq_false_iff_ne.2 (by rw [hu]; exact Pl.tmn _ _ (by have := h; omega))
  have t1 : (x0 + x1).tmod 2 = u := hu.symm
  clear hu
  clear h
  go_enter Try.func28, Try.ntmps28
  go_wp2_with fail
  have A0 := Lib.hid (B3.start W #[.int .i64 x0, .int .i64 y0, .bool false, .int .i64 cx, .int .i64 cy, .int .i64 x1, .int .i64 y1] #[.int .i64 0, .int .i64 0, .bool false, .int .i64 0, .int .i64 0, .int .i64 0, .int .i64 0] #[.int .i64 0, .int .i64 0, .bool false, .int .i64 0, .int .i64 0, .int .i64 0, .int .i64 0] 25 25 25)
  refine (K1.out _).mono ?_
  rintro en w1 ⟨rfl, g1⟩
  have A1 := Lib.hid (A0.out.grow g1)
  obtain ⟨p, hp⟩ : ∃ p, p = W.heap.size + 1 := ⟨_, rfl⟩
  obtain ⟨q, hq⟩ : ∃ q, q = W.heap.size + 1 + 1 := ⟨_, rfl⟩
  obtain ⟨r, hr⟩ : ∃ r, r = W.heap.size := ⟨_, rfl⟩
  have BA : Hid (Blk W r [.int .i64 x0, .int .i64 y0, .bool false, .int .i64 cx, .int .i64 cy, .int .i64 x1, .int .i64 y1] w1) := Lib.hid (by rw [hr]; exact A1.out.1)
  have BP : Hid (Blk W p [.int .i64 0, .int .i64 0, .bool false, .int .i64 0, .int .i64 0, .int .i64 0, .int .i64 0] w1) := Lib.hid (by rw [hp]; exact A1.out.2.1)
  have BQ : Hid (Blk W q [.int .i64 0, .int .i64 0, .bool false, .int .i64 0, .int .i64 0, .int .i64 0, .int .i64 0] w1) := Lib.hid (by rw [hq]; exact A1.out.2.2.1)
  have GH := Lib.hid (Fr.of_grown (fun _ => False) A1.out.2.2.2)
  have n1 : r ≠ p := by omega
  have n2 : r ≠ q := by omega
  have n3 : p ≠ q := by omega
  have n4 : p ≠ r := by omega
  have n5 : q ≠ r := by omega
  have n6 : q ≠ p := by omega
  rw [← hq, ← hp, ← hr]
  clear hp hq hr g1 A0 A1 K1
  obtain ⟨c0, c1, c2, c3, c4, c5, c6⟩ := BA.out.at0
  obtain ⟨d0, d1, d2, d3, d4, d5, d6⟩ := BP.out.at0
  obtain ⟨e0, e1, e2, e3, e4, e5, e6⟩ := BQ.out.at0
  have fp := BP.out.2.2.2
  have fq := BQ.out.2.2.2
  have hself : ∀ (Z : World) (a : Addr) (v : Value), Z.cell? a = some v → Z.setCell a v = Z := fun _ _ _ h => setCell_self h
  go_wp2_with fail
  go_quiet (fail)
  go_wp2_with fail
  exact rpost_halve (p := p) (q := q) rfl rfl rfl (BP.out.drewN _) (BQ.out.drewN _) rfl ⟨rfl, GH.out⟩
set_option maxHeartbeats 4000000 in
set_option maxRecDepth 100000 in
theorem rhalve_odd_b (x0 y0 cx cy x1 y1 : Int) (he : Pl.Ed.may ⟨x0, y0, false, cx, cy, x1, y1⟩) (h : (x0 + x1) % 2 = 0 ∧ (y0 + y1) % 2 = 1) (W : World) :
    Calls Try.prog 28 #[.agg #[.int .i64 x0, .int .i64 y0, .bool false, .int .i64 cx, .int .i64 cy, .int .i64 x1, .int .i64 y1]] W fun en w' => en = .returned (.tuple #[.agg #[.int .i64 0, .int .i64 0, .bool false, .int .i64 0, .int .i64 0, .int .i64 0, .int .i64 0], .agg #[.int .i64 0, .int .i64 0, .bool false, .int .i64 0, .int .i64 0, .int .i64 0, .int .i64 0], .bool false]) ∧ Fr (fun _ => False) W w' := by
  have K1 := Lib.hid (fun Z => isedge25_any ⟨x0, y0, false, cx, cy, x1, y1⟩ Z)
  rw [decide_eq_true he] at K1
  simp only [edv] at K1
  obtain ⟨a1, a2, a3, a4, a5, a6, _⟩ := he
  unfold Pl.crd at a1 a2 a3 a4 a5 a6
  simp only at a1 a2 a3 a4 a5 a6
  have t1 : (x0 + x1).tmod 2 = 0 := Pl.tm _ _ h.1
  obtain ⟨u, hu⟩ : ∃ u, u = (y0 + y1).tmod 2 := ⟨_, rfl⟩
  have hu0 : (u == 0) = false := beq_eq_false_iff_ne.2 (by rw [hu]; exact Pl.tmn _ _ (by have := h.2; omega))
  have t2 : (y0 + y1).tmod 2 = u := hu.symm
  clear hu
  clear h
  go_enter Try.func28, Try.ntmps28
  go_wp2_with fail
  have A0 := Lib.hid (B3.start W #[.int .i64 x0, .int .i64 y0, .bool false, .int .i64 cx, .int .i64 cy, .int .i64 x1, .int .i64 y1] #[.int .i64 0, .int .i64 0, .bool false, .int .i64 0, .int .i64 0, .int .i64 0, .int .i64 0] #[.int .i64 0, .int .i64 0, .bool false, .int .i64 0, .int .i64 0, .int .i64 0, .int .i64 0] 25 25 25)
  refine (K1.out _).mono ?_
  rintro en w1 ⟨rfl, g1⟩
  have A1 := Lib.hid (A0.out.grow g1)
  obtain ⟨p, hp⟩ : ∃ p, p = W.heap.size + 1 := ⟨_, rfl⟩
  obtain ⟨q, hq⟩ : ∃ q, q = W.heap.size + 1 + 1 := ⟨_, rfl⟩
  obtain ⟨r, hr⟩ : ∃ r, r = W.heap.size := ⟨_, rfl⟩
  have BA : Hid (Blk W r [.int .i64 x0, .int .i64 y0, .bool false, .int .i64 cx, .int .i64 cy, .int .i64 x1, .int .i64 y1] w1) := Lib.hid (by rw [hr]; exact A1.out.1)
  have BP : Hid (Blk W p [.int .i64 0, .int .i64 0, .bool false, .int .i64 0, .int .i64 0, .int .i64 0, .int .i64 0] w1) := Lib.hid (by rw [hp]; exact A1.out.2.1)
  have BQ : Hid (Blk W q [.int .i64 0, .int .i64 0, .bool false, .int .i64 0, .int .i64 0, .int .i64 0, .int .i64 0] w1) := Lib.hid (by rw [hq]; exact A1.out.2.2.1)
  have GH := Lib.hid (Fr.of_grown (fun _ => False) A1.out.2.2.2)
  have n1 : r ≠ p := by omega
  have n2 : r ≠ q := by omega
  have n3 : p ≠ q := by omega
  have n4 : p ≠ r := by omega
  have n5 : q ≠ r := by omega
  have n6 : q ≠ p := by omega
  rw [← hq, ← hp, ← hr]
  clear hp hq hr g1 A0 A1 K1
  obtain ⟨c0, c1, c2, c3, c4, c5, c6⟩ := BA.out.at0
  obtain ⟨d0, d1, d2, d3, d4, d5, d6⟩ := BP.out.at0
  obtain ⟨e0, e1, e2, e3, e4, e5, e6⟩ := BQ.out.at0
  have fp := BP.out.2.2.2
  have fq := BQ.out.2.2.2
  have hself : ∀ (Z : World) (a : Addr) (v : Value), Z.cell? a = some v → Z.setCell a v = Z := fun _ _ _ h => setCell_self h
  go_wp2_with fail
  go_quiet (fail)
  go_wp2_with fail
  exact rpost_halve (p := p) (q := q) rfl rfl rfl (BP.out.drewN _) (BQ.out.drewN _) rfl ⟨rfl, GH.out⟩
set_option maxHeartbeats 8000000 in
set_option maxRecDepth 100000 in
theorem rhalve_straight (x0 y0 cx cy x1 y1 X Y : Int) (he : Pl.Ed.may ⟨x0, y0, false, cx, cy, x1, y1⟩) (hX : x0 + x1 = 2 * X) (hY : y0 + y1 = 2 * Y) (W : World) :
    Calls Try.prog 28 #[.agg #[.int .i64 x0, .int .i64 y0, .bool false, .int .i64 cx, .int .i64 cy, .int .i64 x1, .int .i64 y1]] W fun en w' => en = .returned (.tuple #[.agg #[.int .i64 x0, .int .i64 y0, .bool false, .int .i64 0, .int .i64 0, .int .i64 X, .int .i64 Y], .agg #[.int .i64 X, .int .i64 Y, .bool false, .int .i64 0, .int .i64 0, .int .i64 x1, .int .i64 y1], .bool true]) ∧ Fr (fun _ => False) W w' := by
  have K1 := Lib.hid (fun Z => isedge25_any ⟨x0, y0, false, cx, cy, x1, y1⟩ Z)
  rw [decide_eq_true he] at K1
  simp only [edv] at K1
  obtain ⟨a1, a2, a3, a4, a5, a6, _⟩ := he
  unfold Pl.crd at a1 a2 a3 a4 a5 a6
  simp only at a1 a2 a3 a4 a5 a6
  have t0 : (2 * X).tmod 2 = 0 := Pl.tm _ _ (by omega)
  have s0 : (2 * X).tdiv 2 = X := Int.mul_tdiv_cancel_left X (by omega)
  have bX : -8191 ≤ X ∧ X ≤ 8191 := by omega
  have t1 : (2 * Y).tmod 2 = 0 := Pl.tm _ _ (by omega)
  have s1 : (2 * Y).tdiv 2 = Y := Int.mul_tdiv_cancel_left Y (by omega)
  have bY : -8191 ≤ Y ∧ Y ≤ 8191 := by omega
  go_enter Try.func28, Try.ntmps28
  go_wp2_with fail
  have A0 := Lib.hid (B3.start W #[.int .i64 x0, .int .i64 y0, .bool false, .int .i64 cx, .int .i64 cy, .int .i64 x1, .int .i64 y1] #[.int .i64 0, .int .i64 0, .bool false, .int .i64 0, .int .i64 0, .int .i64 0, .int .i64 0] #[.int .i64 0, .int .i64 0, .bool false, .int .i64 0, .int .i64 0, .int .i64 0, .int .i64 0] 25 25 25)
  refine (K1.out _).mono ?_
  rintro en w1 ⟨rfl, g1⟩
  have A1 := Lib.hid (A0.out.grow g1)
  obtain ⟨p, hp⟩ : ∃ p, p = W.heap.size + 1 := ⟨_, rfl⟩
  obtain ⟨q, hq⟩ : ∃ q, q = W.heap.size + 1 + 1 := ⟨_, rfl⟩
  obtain ⟨r, hr⟩ : ∃ r, r = W.heap.size := ⟨_, rfl⟩
  have BA : Hid (Blk W r [.int .i64 x0, .int .i64 y0, .bool false, .int .i64 cx, .int .i64 cy, .int .i64 x1, .int .i64 y1] w1) := Lib.hid (by rw [hr]; exact A1.out.1)
  have BP : Hid (Blk W p [.int .i64 0, .int .i64 0, .bool false, .int .i64 0, .int .i64 0, .int .i64 0, .int .i64 0] w1) := Lib.hid (by rw [hp]; exact A1.out.2.1)
  have BQ : Hid (Blk W q [.int .i64 0, .int .i64 0, .bool false, .int .i64 0, .int .i64 0, .int .i64 0, .int .i64 0] w1) := Lib.hid (by rw [hq]; exact A1.out.2.2.1)
  have GH := Lib.hid (Fr.of_grown (fun _ => False) A1.out.2.2.2)
  have n1 : r ≠ p := by omega
  have n2 : r ≠ q := by omega
  have n3 : p ≠ q := by omega
  have n4 : p ≠ r := by omega
  have n5 : q ≠ r := by omega
  have n6 : q ≠ p := by omega
  rw [← hq, ← hp, ← hr]
  clear hp hq hr g1 A0 A1 K1
  obtain ⟨c0, c1, c2, c3, c4, c5, c6⟩ := BA.out.at0
  obtain ⟨d0, d1, d2, d3, d4, d5, d6⟩ := BP.out.at0
  obtain ⟨e0, e1, e2, e3, e4, e5, e6⟩ := BQ.out.at0
  have fp := BP.out.2.2.2
  have fq := BQ.out.2.2.2
  go_wp2_with fail
  go_quiet (fail)
  go_wp2_with fail
  generalize hZ3 : World.drewN _ _ = Z3
  have BA3 : Hid (Blk W r [.int .i64 x0, .int .i64 y0, .bool false, .int .i64 cx, .int .i64 cy, .int .i64 x1, .int .i64 y1] Z3) := Lib.hid (by rw [← hZ3]; exact BA.out.drewN _)
  have BP3 : Hid (Blk W p [.int .i64 0, .int .i64 0, .bool false, .int .i64 0, .int .i64 0, .int .i64 0, .int .i64 0] Z3) := Lib.hid (by rw [← hZ3]; exact BP.out.drewN _)
  have BQ3 : Hid (Blk W q [.int .i64 0, .int .i64 0, .bool false, .int .i64 0, .int .i64 0, .int .i64 0, .int .i64 0] Z3) := Lib.hid (by rw [← hZ3]; exact BQ.out.drewN _)
  have G3 : Hid (Fr (fun _ => False) W Z3) := Lib.hid (by rw [← hZ3]; exact GH.out)
  clear hZ3 BA BP BQ GH
  clear c0 c1 c2 c3 c4 c5 c6 d0 d1 d2 d3 d4 d5 d6 e0 e1 e2 e3 e4 e5 e6 fp fq
  obtain ⟨c0, c1, c2, c3, c4, c5, c6⟩ := BA3.out.at0
  obtain ⟨d0, d1, d2, d3, d4, d5, d6⟩ := BP3.out.at0
  obtain ⟨e0, e1, e2, e3, e4, e5, e6⟩ := BQ3.out.at0
  have fp := BP3.out.2.2.2
  have fq := BQ3.out.2.2.2
  clear a1 a2 a3 a4 a5 a6 hX hY t0 t1
  have wX : IntKind.i64.wrap X = X := by unfold IntKind.wrap IntKind.bits IntKind.signed; simp; omega
  have wY : IntKind.i64.wrap Y = Y := by unfold IntKind.wrap IntKind.bits IntKind.signed; simp; omega
  obtain ⟨S, hS⟩ : ∃ S : World → Prop, S = Blk W r [.int .i64 x0, .int .i64 y0, .bool false, .int .i64 cx, .int .i64 cy, .int .i64 x1, .int .i64 y1] := ⟨_, rfl⟩
  have HS0 : Hid (S Z3.drew) := Lib.hid (by rw [hS]; exact BA3.out.drew)
  have T0 : ∀ Z, S Z → Z.cell? ⟨r, 0, none⟩ = some (.int .i64 x0) := fun Z h => by rw [hS] at h; exact h.at 0 _ rfl
  have T1 : ∀ Z, S Z → Z.cell? ⟨r, 1, none⟩ = some (.int .i64 y0) := fun Z h => by rw [hS] at h; exact h.at 1 _ rfl
  have T2 : ∀ Z, S Z → Z.cell? ⟨r, 2, none⟩ = some (.bool false) := fun Z h => by rw [hS] at h; exact h.at 2 _ rfl
  have T3 : ∀ Z, S Z → Z.cell? ⟨r, 3, none⟩ = some (.int .i64 cx) := fun Z h => by rw [hS] at h; exact h.at 3 _ rfl
  have T4 : ∀ Z, S Z → Z.cell? ⟨r, 4, none⟩ = some (.int .i64 cy) := fun Z h => by rw [hS] at h; exact h.at 4 _ rfl
  have T5 : ∀ Z, S Z → Z.cell? ⟨r, 5, none⟩ = some (.int .i64 x1) := fun Z h => by rw [hS] at h; exact h.at 5 _ rfl
  have T6 : ∀ Z, S Z → Z.cell? ⟨r, 6, none⟩ = some (.int .i64 y1) := fun Z h => by rw [hS] at h; exact h.at 6 _ rfl
  refine hx_start (S := S) 21 rfl (by kernel_rfl) ?_
  refine hx_take 0 _ ?_ rfl (by kernel_rfl) (by kernel_rfl) (by kernel_rfl) (fun _ _ _ h => h) (by rfl) (fun Z hZ => ?_) HS0.out ?_
  rotate_left
  · unfold yAt
    first
      | (go_simp
         (all_goals with_reducible rfl)
         done)
      | (have u0 := T0 Z hZ; have u1 := T1 Z hZ; have u2 := T2 Z hZ; have u3 := T3 Z hZ; have u4 := T4 Z hZ; have u5 := T5 Z hZ; have u6 := T6 Z hZ
         go_simp
         (all_goals with_reducible rfl)
         done)
  try simp only [Act.put, List.setIfInBounds_toArray, List.set_cons_zero, List.set_cons_succ]
  refine hx_take 1 _ ?_ rfl (by kernel_rfl) (by kernel_rfl) (by kernel_rfl) (fun _ _ _ h => h) (by rfl) (fun Z hZ => ?_) HS0.out ?_
  rotate_left
  · unfold yAt
    first
      | (go_simp
         (all_goals with_reducible rfl)
         done)
      | (have u0 := T0 Z hZ; have u1 := T1 Z hZ; have u2 := T2 Z hZ; have u3 := T3 Z hZ; have u4 := T4 Z hZ; have u5 := T5 Z hZ; have u6 := T6 Z hZ
         go_simp
         (all_goals with_reducible rfl)
         done)
  try simp only [Act.put, List.setIfInBounds_toArray, List.set_cons_zero, List.set_cons_succ]
  refine hx_take 2 _ ?_ rfl (by kernel_rfl) (by kernel_rfl) (by kernel_rfl) (fun _ _ _ h => h) (by rfl) (fun Z hZ => ?_) HS0.out ?_
  rotate_left
  · unfold yAt
    first
      | (go_simp
         (all_goals with_reducible rfl)
         done)
      | (have u0 := T0 Z hZ; have u1 := T1 Z hZ; have u2 := T2 Z hZ; have u3 := T3 Z hZ; have u4 := T4 Z hZ; have u5 := T5 Z hZ; have u6 := T6 Z hZ
         go_simp
         (all_goals with_reducible rfl)
         done)
  try simp only [Act.put, List.setIfInBounds_toArray, List.set_cons_zero, List.set_cons_succ]
  refine hx_take 3 _ ?_ rfl (by kernel_rfl) (by kernel_rfl) (by kernel_rfl) (fun _ _ _ h => h) (by rfl) (fun Z hZ => ?_) HS0.out ?_
  rotate_left
  · unfold yAt
    first
      | (go_simp
         (all_goals with_reducible rfl)
         done)
      | (have u0 := T0 Z hZ; have u1 := T1 Z hZ; have u2 := T2 Z hZ; have u3 := T3 Z hZ; have u4 := T4 Z hZ; have u5 := T5 Z hZ; have u6 := T6 Z hZ
         go_simp
         (all_goals with_reducible rfl)
         done)
  try simp only [Act.put, List.setIfInBounds_toArray, List.set_cons_zero, List.set_cons_succ]
  refine hx_take 4 _ ?_ rfl (by kernel_rfl) (by kernel_rfl) (by kernel_rfl) (fun _ _ _ h => h) (by rfl) (fun Z hZ => ?_) HS0.out ?_
  rotate_left
  · unfold yAt
    first
      | (go_simp
         (all_goals with_reducible rfl)
         done)
      | (have u0 := T0 Z hZ; have u1 := T1 Z hZ; have u2 := T2 Z hZ; have u3 := T3 Z hZ; have u4 := T4 Z hZ; have u5 := T5 Z hZ; have u6 := T6 Z hZ
         go_simp
         (all_goals with_reducible rfl)
         done)
  try simp only [Act.put, List.setIfInBounds_toArray, List.set_cons_zero, List.set_cons_succ]
  refine hx_take 5 _ ?_ rfl (by kernel_rfl) (by kernel_rfl) (by kernel_rfl) (fun _ _ _ h => h) (by rfl) (fun Z hZ => ?_) HS0.out ?_
  rotate_left
  · unfold yAt
    first
      | (go_simp
         (all_goals with_reducible rfl)
         done)
      | (have u0 := T0 Z hZ; have u1 := T1 Z hZ; have u2 := T2 Z hZ; have u3 := T3 Z hZ; have u4 := T4 Z hZ; have u5 := T5 Z hZ; have u6 := T6 Z hZ
         go_simp
         (all_goals with_reducible rfl)
         done)
  try simp only [Act.put, List.setIfInBounds_toArray, List.set_cons_zero, List.set_cons_succ]
  refine hx_take 6 _ ?_ rfl (by kernel_rfl) (by kernel_rfl) (by kernel_rfl) (fun _ _ _ h => h) (by rfl) (fun Z hZ => ?_) HS0.out ?_
  rotate_left
  · unfold yAt
    first
      | (go_simp
         (all_goals with_reducible rfl)
         done)
      | (have u0 := T0 Z hZ; have u1 := T1 Z hZ; have u2 := T2 Z hZ; have u3 := T3 Z hZ; have u4 := T4 Z hZ; have u5 := T5 Z hZ; have u6 := T6 Z hZ
         go_simp
         (all_goals with_reducible rfl)
         done)
  try simp only [Act.put, List.setIfInBounds_toArray, List.set_cons_zero, List.set_cons_succ]
  refine hx_take 7 _ ?_ rfl (by kernel_rfl) (by kernel_rfl) (by kernel_rfl) (fun _ _ _ h => h) (by rfl) (fun Z hZ => ?_) HS0.out ?_
  rotate_left
  · unfold yAt
    first
      | (go_simp
         (all_goals with_reducible rfl)
         done)
      | (have u0 := T0 Z hZ; have u1 := T1 Z hZ; have u2 := T2 Z hZ; have u3 := T3 Z hZ; have u4 := T4 Z hZ; have u5 := T5 Z hZ; have u6 := T6 Z hZ
         go_simp
         (all_goals with_reducible rfl)
         done)
  try simp only [Act.put, List.setIfInBounds_toArray, List.set_cons_zero, List.set_cons_succ]
  refine hx_take 8 _ ?_ rfl (by kernel_rfl) (by kernel_rfl) (by kernel_rfl) (fun _ _ _ h => h) (by rfl) (fun Z hZ => ?_) HS0.out ?_
  rotate_left
  · unfold yAt
    first
      | (go_simp
         (all_goals with_reducible rfl)
         done)
      | (have u0 := T0 Z hZ; have u1 := T1 Z hZ; have u2 := T2 Z hZ; have u3 := T3 Z hZ; have u4 := T4 Z hZ; have u5 := T5 Z hZ; have u6 := T6 Z hZ
         go_simp
         (all_goals with_reducible rfl)
         done)
  try simp only [Act.put, List.setIfInBounds_toArray, List.set_cons_zero, List.set_cons_succ]
  refine hx_take 9 _ ?_ rfl (by kernel_rfl) (by kernel_rfl) (by kernel_rfl) (fun _ _ _ h => h) (by rfl) (fun Z hZ => ?_) HS0.out ?_
  rotate_left
  · unfold yAt
    first
      | (go_simp
         (all_goals with_reducible rfl)
         done)
      | (have u0 := T0 Z hZ; have u1 := T1 Z hZ; have u2 := T2 Z hZ; have u3 := T3 Z hZ; have u4 := T4 Z hZ; have u5 := T5 Z hZ; have u6 := T6 Z hZ
         go_simp
         (all_goals with_reducible rfl)
         done)
  try simp only [Act.put, List.setIfInBounds_toArray, List.set_cons_zero, List.set_cons_succ]
  refine hx_take 10 _ ?_ rfl (by kernel_rfl) (by kernel_rfl) (by kernel_rfl) (fun _ _ _ h => h) (by rfl) (fun Z hZ => ?_) HS0.out ?_
  rotate_left
  · unfold yAt
    first
      | (go_simp
         (all_goals with_reducible rfl)
         done)
      | (have u0 := T0 Z hZ; have u1 := T1 Z hZ; have u2 := T2 Z hZ; have u3 := T3 Z hZ; have u4 := T4 Z hZ; have u5 := T5 Z hZ; have u6 := T6 Z hZ
         go_simp
         (all_goals with_reducible rfl)
         done)
  try simp only [Act.put, List.setIfInBounds_toArray, List.set_cons_zero, List.set_cons_succ]
  refine hx_take 11 _ ?_ rfl (by kernel_rfl) (by kernel_rfl) (by kernel_rfl) (fun _ _ _ h => h) (by rfl) (fun Z hZ => ?_) HS0.out ?_
  rotate_left
  · unfold yAt
    first
      | (go_simp
         (all_goals with_reducible rfl)
         done)
      | (have u0 := T0 Z hZ; have u1 := T1 Z hZ; have u2 := T2 Z hZ; have u3 := T3 Z hZ; have u4 := T4 Z hZ; have u5 := T5 Z hZ; have u6 := T6 Z hZ
         go_simp
         (all_goals with_reducible rfl)
         done)
  try simp only [Act.put, List.setIfInBounds_toArray, List.set_cons_zero, List.set_cons_succ]
  refine hx_take 12 _ ?_ rfl (by kernel_rfl) (by kernel_rfl) (by kernel_rfl) (fun _ _ _ h => h) (by rfl) (fun Z hZ => ?_) HS0.out ?_
  rotate_left
  · unfold yAt
    first
      | (go_simp
         (all_goals with_reducible rfl)
         done)
      | (have u0 := T0 Z hZ; have u1 := T1 Z hZ; have u2 := T2 Z hZ; have u3 := T3 Z hZ; have u4 := T4 Z hZ; have u5 := T5 Z hZ; have u6 := T6 Z hZ
         go_simp
         (all_goals with_reducible rfl)
         done)
  try simp only [Act.put, List.setIfInBounds_toArray, List.set_cons_zero, List.set_cons_succ]
  refine hx_take 13 _ ?_ rfl (by kernel_rfl) (by kernel_rfl) (by kernel_rfl) (fun _ _ _ h => h) (by rfl) (fun Z hZ => ?_) HS0.out ?_
  rotate_left
  · unfold yAt
    first
      | (go_simp
         (all_goals with_reducible rfl)
         done)
      | (have u0 := T0 Z hZ; have u1 := T1 Z hZ; have u2 := T2 Z hZ; have u3 := T3 Z hZ; have u4 := T4 Z hZ; have u5 := T5 Z hZ; have u6 := T6 Z hZ
         go_simp
         (all_goals with_reducible rfl)
         done)
  try simp only [Act.put, List.setIfInBounds_toArray, List.set_cons_zero, List.set_cons_succ]
  refine hx_take 14 _ ?_ rfl (by kernel_rfl) (by kernel_rfl) (by kernel_rfl) (fun _ _ _ h => h) (by rfl) (fun Z hZ => ?_) HS0.out ?_
  rotate_left
  · unfold yAt
    first
      | (go_simp
         (all_goals with_reducible rfl)
         done)
      | (have u0 := T0 Z hZ; have u1 := T1 Z hZ; have u2 := T2 Z hZ; have u3 := T3 Z hZ; have u4 := T4 Z hZ; have u5 := T5 Z hZ; have u6 := T6 Z hZ
         go_simp
         (all_goals with_reducible rfl)
         done)
  try simp only [Act.put, List.setIfInBounds_toArray, List.set_cons_zero, List.set_cons_succ]
  refine hx_take 15 _ ?_ rfl (by kernel_rfl) (by kernel_rfl) (by kernel_rfl) (fun _ _ _ h => h) (by rfl) (fun Z hZ => ?_) HS0.out ?_
  rotate_left
  · unfold yAt
    first
      | (go_simp
         (all_goals with_reducible rfl)
         done)
      | (have u0 := T0 Z hZ; have u1 := T1 Z hZ; have u2 := T2 Z hZ; have u3 := T3 Z hZ; have u4 := T4 Z hZ; have u5 := T5 Z hZ; have u6 := T6 Z hZ
         go_simp
         (all_goals with_reducible rfl)
         done)
  try simp only [Act.put, List.setIfInBounds_toArray, List.set_cons_zero, List.set_cons_succ]
  refine hx_take 16 _ ?_ rfl (by kernel_rfl) (by kernel_rfl) (by kernel_rfl) (fun _ _ _ h => h) (by rfl) (fun Z hZ => ?_) HS0.out ?_
  rotate_left
  · unfold yAt
    first
      | (go_simp
         (all_goals with_reducible rfl)
         done)
      | (have u0 := T0 Z hZ; have u1 := T1 Z hZ; have u2 := T2 Z hZ; have u3 := T3 Z hZ; have u4 := T4 Z hZ; have u5 := T5 Z hZ; have u6 := T6 Z hZ
         go_simp
         (all_goals with_reducible rfl)
         done)
  try simp only [Act.put, List.setIfInBounds_toArray, List.set_cons_zero, List.set_cons_succ]
  refine hx_take 17 _ ?_ rfl (by kernel_rfl) (by kernel_rfl) (by kernel_rfl) (fun _ _ _ h => h) (by rfl) (fun Z hZ => ?_) HS0.out ?_
  rotate_left
  · unfold yAt
    first
      | (go_simp
         (all_goals with_reducible rfl)
         done)
      | (have u0 := T0 Z hZ; have u1 := T1 Z hZ; have u2 := T2 Z hZ; have u3 := T3 Z hZ; have u4 := T4 Z hZ; have u5 := T5 Z hZ; have u6 := T6 Z hZ
         go_simp
         (all_goals with_reducible rfl)
         done)
  try simp only [Act.put, List.setIfInBounds_toArray, List.set_cons_zero, List.set_cons_succ]
  refine hx_one 18 _ rfl (by kernel_rfl) (by rfl) (fun K hK => ?_)
  go_simp
  refine hK.out _ _ (by rw [hS]; exact (BA3.out.other_seven n1).drew) ?_
  clear hK K
  try simp only [Act.put, List.setIfInBounds_toArray, List.set_cons_zero, List.set_cons_succ]
  refine hx_one 19 _ rfl (by kernel_rfl) (by rfl) (fun K hK => ?_)
  go_simp
  refine hK.out _ _ (by rw [hS]; exact ((BA3.out.other_seven n1).other_seven n2).drew) ?_
  clear hK K
  try simp only [Act.put, List.setIfInBounds_toArray, List.set_cons_zero, List.set_cons_succ]
  refine hx_one 20 _ rfl (by kernel_rfl) (by rfl) (fun K hK => ?_)
  go_simp
  refine hK.out _ _ (by rw [hS]; exact ((BA3.out.other_seven n1).other_seven n2).drew) ?_
  clear hK K
  try simp only [Act.put, List.setIfInBounds_toArray, List.set_cons_zero, List.set_cons_succ]
  refine hx_done (by kernel_rfl) ?_
  go_wp2_with fail
  exact rpost_halve (p := p) (q := q) rfl rfl rfl ((BP3.out.seven).other_seven n3).drew ((BQ3.out.other_seven n6).seven).drew rfl ⟨rfl, ((G3.out.seven BP3.out.1).seven BQ3.out.1).drew⟩
set_option maxHeartbeats 8000000 in
set_option maxRecDepth 100000 in
theorem rhalve_bent (x0 y0 cx cy x1 y1 P Q R S X Y : Int) (he : Pl.Ed.may ⟨x0, y0, true, cx, cy, x1, y1⟩) (hP : x0 + cx = 2 * P) (hQ : y0 + cy = 2 * Q) (hR : cx + x1 = 2 * R) (hS : cy + y1 = 2 * S) (hX : 2 * P + 2 * R = 4 * X) (hY : 2 * Q + 2 * S = 4 * Y) (W : World) :
    Calls Try.prog 28 #[.agg #[.int .i64 x0, .int .i64 y0, .bool true, .int .i64 cx, .int .i64 cy, .int .i64 x1, .int .i64 y1]] W fun en w' => en = .returned (.tuple #[.agg #[.int .i64 x0, .int .i64 y0, .bool true, .int .i64 P, .int .i64 Q, .int .i64 X, .int .i64 Y], .agg #[.int .i64 X, .int .i64 Y, .bool true, .int .i64 R, .int .i64 S, .int .i64 x1, .int .i64 y1], .bool true]) ∧ Fr (fun _ => False) W w' := by
  have K1 := Lib.hid (fun Z => isedge25_any ⟨x0, y0, true, cx, cy, x1, y1⟩ Z)
  rw [decide_eq_true he] at K1
  simp only [edv] at K1
  obtain ⟨a1, a2, a3, a4, a5, a6, _⟩ := he
  unfold Pl.crd at a1 a2 a3 a4 a5 a6
  simp only at a1 a2 a3 a4 a5 a6
  have t0 : (2 * P).tmod 2 = 0 := Pl.tm _ _ (by omega)
  have s0 : (2 * P).tdiv 2 = P := Int.mul_tdiv_cancel_left P (by omega)
  have bP : -8191 ≤ P ∧ P ≤ 8191 := by omega
  have t1 : (2 * Q).tmod 2 = 0 := Pl.tm _ _ (by omega)
  have s1 : (2 * Q).tdiv 2 = Q := Int.mul_tdiv_cancel_left Q (by omega)
  have bQ : -8191 ≤ Q ∧ Q ≤ 8191 := by omega
  have t2 : (2 * R).tmod 2 = 0 := Pl.tm _ _ (by omega)
  have s2 : (2 * R).tdiv 2 = R := Int.mul_tdiv_cancel_left R (by omega)
  have bR : -8191 ≤ R ∧ R ≤ 8191 := by omega
  have t3 : (2 * S).tmod 2 = 0 := Pl.tm _ _ (by omega)
  have s3 : (2 * S).tdiv 2 = S := Int.mul_tdiv_cancel_left S (by omega)
  have bS : -8191 ≤ S ∧ S ≤ 8191 := by omega
  have t4 : (4 * X).tmod 4 = 0 := Pl.tm _ _ (by omega)
  have s4 : (4 * X).tdiv 4 = X := Int.mul_tdiv_cancel_left X (by omega)
  have bX : -8191 ≤ X ∧ X ≤ 8191 := by omega
  have t5 : (4 * Y).tmod 4 = 0 := Pl.tm _ _ (by omega)
  have s5 : (4 * Y).tdiv 4 = Y := Int.mul_tdiv_cancel_left Y (by omega)
  have bY : -8191 ≤ Y ∧ Y ≤ 8191 := by omega
  go_enter Try.func28, Try.ntmps28
  go_wp2_with fail
  have A0 := Lib.hid (B3.start W #[.int .i64 x0, .int .i64 y0, .bool true, .int .i64 cx, .int .i64 cy, .int .i64 x1, .int .i64 y1] #[.int .i64 0, .int .i64 0, .bool false, .int .i64 0, .int .i64 0, .int .i64 0, .int .i64 0] #[.int .i64 0, .int .i64 0, .bool false, .int .i64 0, .int .i64 0, .int .i64 0, .int .i64 0] 25 25 25)
  refine (K1.out _).mono ?_
  rintro en w1 ⟨rfl, g1⟩
  have A1 := Lib.hid (A0.out.grow g1)
  obtain ⟨p, hp⟩ : ∃ p, p = W.heap.size + 1 := ⟨_, rfl⟩
  obtain ⟨q, hq⟩ : ∃ q, q = W.heap.size + 1 + 1 := ⟨_, rfl⟩
  obtain ⟨r, hr⟩ : ∃ r, r = W.heap.size := ⟨_, rfl⟩
  have BA : Hid (Blk W r [.int .i64 x0, .int .i64 y0, .bool true, .int .i64 cx, .int .i64 cy, .int .i64 x1, .int .i64 y1] w1) := Lib.hid (by rw [hr]; exact A1.out.1)
  have BP : Hid (Blk W p [.int .i64 0, .int .i64 0, .bool false, .int .i64 0, .int .i64 0, .int .i64 0, .int .i64 0] w1) := Lib.hid (by rw [hp]; exact A1.out.2.1)
  have BQ : Hid (Blk W q [.int .i64 0, .int .i64 0, .bool false, .int .i64 0, .int .i64 0, .int .i64 0, .int .i64 0] w1) := Lib.hid (by rw [hq]; exact A1.out.2.2.1)
  have GH := Lib.hid (Fr.of_grown (fun _ => False) A1.out.2.2.2)
  have n1 : r ≠ p := by omega
  have n2 : r ≠ q := by omega
  have n3 : p ≠ q := by omega
  have n4 : p ≠ r := by omega
  have n5 : q ≠ r := by omega
  have n6 : q ≠ p := by omega
  rw [← hq, ← hp, ← hr]
  clear hp hq hr g1 A0 A1 K1
  obtain ⟨c0, c1, c2, c3, c4, c5, c6⟩ := BA.out.at0
  obtain ⟨d0, d1, d2, d3, d4, d5, d6⟩ := BP.out.at0
  obtain ⟨e0, e1, e2, e3, e4, e5, e6⟩ := BQ.out.at0
  have fp := BP.out.2.2.2
  have fq := BQ.out.2.2.2
  go_wp2_with fail
  go_quiet (fail)
  go_wp2_with fail
  go_quiet (fail)
  go_wp2_with fail
  generalize hZ3 : World.drewN _ _ = Z3
  have BA3 : Hid (Blk W r [.int .i64 x0, .int .i64 y0, .bool true, .int .i64 cx, .int .i64 cy, .int .i64 x1, .int .i64 y1] Z3) := Lib.hid (by rw [← hZ3]; exact BA.out.drewN _)
  have BP3 : Hid (Blk W p [.int .i64 0, .int .i64 0, .bool false, .int .i64 0, .int .i64 0, .int .i64 0, .int .i64 0] Z3) := Lib.hid (by rw [← hZ3]; exact BP.out.drewN _)
  have BQ3 : Hid (Blk W q [.int .i64 0, .int .i64 0, .bool false, .int .i64 0, .int .i64 0, .int .i64 0, .int .i64 0] Z3) := Lib.hid (by rw [← hZ3]; exact BQ.out.drewN _)
  have G3 : Hid (Fr (fun _ => False) W Z3) := Lib.hid (by rw [← hZ3]; exact GH.out)
  clear hZ3 BA BP BQ GH
  clear c0 c1 c2 c3 c4 c5 c6 d0 d1 d2 d3 d4 d5 d6 e0 e1 e2 e3 e4 e5 e6 fp fq
  obtain ⟨c0, c1, c2, c3, c4, c5, c6⟩ := BA3.out.at0
  obtain ⟨d0, d1, d2, d3, d4, d5, d6⟩ := BP3.out.at0
  obtain ⟨e0, e1, e2, e3, e4, e5, e6⟩ := BQ3.out.at0
  have fp := BP3.out.2.2.2
  have fq := BQ3.out.2.2.2
  clear a1 a2 a3 a4 a5 a6 hP hQ hR hS hX hY t0 t1 t2 t3 t4 t5
  have wP : IntKind.i64.wrap P = P := by unfold IntKind.wrap IntKind.bits IntKind.signed; simp; omega
  have wQ : IntKind.i64.wrap Q = Q := by unfold IntKind.wrap IntKind.bits IntKind.signed; simp; omega
  have wR : IntKind.i64.wrap R = R := by unfold IntKind.wrap IntKind.bits IntKind.signed; simp; omega
  have wS : IntKind.i64.wrap S = S := by unfold IntKind.wrap IntKind.bits IntKind.signed; simp; omega
  have wX : IntKind.i64.wrap X = X := by unfold IntKind.wrap IntKind.bits IntKind.signed; simp; omega
  have wY : IntKind.i64.wrap Y = Y := by unfold IntKind.wrap IntKind.bits IntKind.signed; simp; omega
  obtain ⟨S, hS⟩ : ∃ S : World → Prop, S = Blk W r [.int .i64 x0, .int .i64 y0, .bool true, .int .i64 cx, .int .i64 cy, .int .i64 x1, .int .i64 y1] := ⟨_, rfl⟩
  have HS0 : Hid (S Z3.drew) := Lib.hid (by rw [hS]; exact BA3.out.drew)
  have T0 : ∀ Z, S Z → Z.cell? ⟨r, 0, none⟩ = some (.int .i64 x0) := fun Z h => by rw [hS] at h; exact h.at 0 _ rfl
  have T1 : ∀ Z, S Z → Z.cell? ⟨r, 1, none⟩ = some (.int .i64 y0) := fun Z h => by rw [hS] at h; exact h.at 1 _ rfl
  have T2 : ∀ Z, S Z → Z.cell? ⟨r, 2, none⟩ = some (.bool true) := fun Z h => by rw [hS] at h; exact h.at 2 _ rfl
  have T3 : ∀ Z, S Z → Z.cell? ⟨r, 3, none⟩ = some (.int .i64 cx) := fun Z h => by rw [hS] at h; exact h.at 3 _ rfl
  have T4 : ∀ Z, S Z → Z.cell? ⟨r, 4, none⟩ = some (.int .i64 cy) := fun Z h => by rw [hS] at h; exact h.at 4 _ rfl
  have T5 : ∀ Z, S Z → Z.cell? ⟨r, 5, none⟩ = some (.int .i64 x1) := fun Z h => by rw [hS] at h; exact h.at 5 _ rfl
  have T6 : ∀ Z, S Z → Z.cell? ⟨r, 6, none⟩ = some (.int .i64 y1) := fun Z h => by rw [hS] at h; exact h.at 6 _ rfl
  refine hx_start (S := S) 25 rfl (by kernel_rfl) ?_
  refine hx_take 0 _ ?_ rfl (by kernel_rfl) (by kernel_rfl) (by kernel_rfl) (fun _ _ _ h => h) (by rfl) (fun Z hZ => ?_) HS0.out ?_
  rotate_left
  · unfold yAt
    first
      | (go_simp
         (all_goals with_reducible rfl)
         done)
      | (have u0 := T0 Z hZ; have u1 := T1 Z hZ; have u2 := T2 Z hZ; have u3 := T3 Z hZ; have u4 := T4 Z hZ; have u5 := T5 Z hZ; have u6 := T6 Z hZ
         go_simp
         (all_goals with_reducible rfl)
         done)
  try simp only [Act.put, List.setIfInBounds_toArray, List.set_cons_zero, List.set_cons_succ]
  refine hx_take 1 _ ?_ rfl (by kernel_rfl) (by kernel_rfl) (by kernel_rfl) (fun _ _ _ h => h) (by rfl) (fun Z hZ => ?_) HS0.out ?_
  rotate_left
  · unfold yAt
    first
      | (go_simp
         (all_goals with_reducible rfl)
         done)
      | (have u0 := T0 Z hZ; have u1 := T1 Z hZ; have u2 := T2 Z hZ; have u3 := T3 Z hZ; have u4 := T4 Z hZ; have u5 := T5 Z hZ; have u6 := T6 Z hZ
         go_simp
         (all_goals with_reducible rfl)
         done)
  try simp only [Act.put, List.setIfInBounds_toArray, List.set_cons_zero, List.set_cons_succ]
  refine hx_take 2 _ ?_ rfl (by kernel_rfl) (by kernel_rfl) (by kernel_rfl) (fun _ _ _ h => h) (by rfl) (fun Z hZ => ?_) HS0.out ?_
  rotate_left
  · unfold yAt
    first
      | (go_simp
         (all_goals with_reducible rfl)
         done)
      | (have u0 := T0 Z hZ; have u1 := T1 Z hZ; have u2 := T2 Z hZ; have u3 := T3 Z hZ; have u4 := T4 Z hZ; have u5 := T5 Z hZ; have u6 := T6 Z hZ
         go_simp
         (all_goals with_reducible rfl)
         done)
  try simp only [Act.put, List.setIfInBounds_toArray, List.set_cons_zero, List.set_cons_succ]
  refine hx_take 3 _ ?_ rfl (by kernel_rfl) (by kernel_rfl) (by kernel_rfl) (fun _ _ _ h => h) (by rfl) (fun Z hZ => ?_) HS0.out ?_
  rotate_left
  · unfold yAt
    first
      | (go_simp
         (all_goals with_reducible rfl)
         done)
      | (have u0 := T0 Z hZ; have u1 := T1 Z hZ; have u2 := T2 Z hZ; have u3 := T3 Z hZ; have u4 := T4 Z hZ; have u5 := T5 Z hZ; have u6 := T6 Z hZ
         go_simp
         (all_goals with_reducible rfl)
         done)
  try simp only [Act.put, List.setIfInBounds_toArray, List.set_cons_zero, List.set_cons_succ]
  refine hx_take 4 _ ?_ rfl (by kernel_rfl) (by kernel_rfl) (by kernel_rfl) (fun _ _ _ h => h) (by rfl) (fun Z hZ => ?_) HS0.out ?_
  rotate_left
  · unfold yAt
    first
      | (go_simp
         (all_goals with_reducible rfl)
         done)
      | (have u0 := T0 Z hZ; have u1 := T1 Z hZ; have u2 := T2 Z hZ; have u3 := T3 Z hZ; have u4 := T4 Z hZ; have u5 := T5 Z hZ; have u6 := T6 Z hZ
         go_simp
         (all_goals with_reducible rfl)
         done)
  try simp only [Act.put, List.setIfInBounds_toArray, List.set_cons_zero, List.set_cons_succ]
  refine hx_take 5 _ ?_ rfl (by kernel_rfl) (by kernel_rfl) (by kernel_rfl) (fun _ _ _ h => h) (by rfl) (fun Z hZ => ?_) HS0.out ?_
  rotate_left
  · unfold yAt
    first
      | (go_simp
         (all_goals with_reducible rfl)
         done)
      | (have u0 := T0 Z hZ; have u1 := T1 Z hZ; have u2 := T2 Z hZ; have u3 := T3 Z hZ; have u4 := T4 Z hZ; have u5 := T5 Z hZ; have u6 := T6 Z hZ
         go_simp
         (all_goals with_reducible rfl)
         done)
  try simp only [Act.put, List.setIfInBounds_toArray, List.set_cons_zero, List.set_cons_succ]
  refine hx_take 6 _ ?_ rfl (by kernel_rfl) (by kernel_rfl) (by kernel_rfl) (fun _ _ _ h => h) (by rfl) (fun Z hZ => ?_) HS0.out ?_
  rotate_left
  · unfold yAt
    first
      | (go_simp
         (all_goals with_reducible rfl)
         done)
      | (have u0 := T0 Z hZ; have u1 := T1 Z hZ; have u2 := T2 Z hZ; have u3 := T3 Z hZ; have u4 := T4 Z hZ; have u5 := T5 Z hZ; have u6 := T6 Z hZ
         go_simp
         (all_goals with_reducible rfl)
         done)
  try simp only [Act.put, List.setIfInBounds_toArray, List.set_cons_zero, List.set_cons_succ]
  refine hx_take 7 _ ?_ rfl (by kernel_rfl) (by kernel_rfl) (by kernel_rfl) (fun _ _ _ h => h) (by rfl) (fun Z hZ => ?_) HS0.out ?_
  rotate_left
  · unfold yAt
    first
      | (go_simp
         (all_goals with_reducible rfl)
         done)
      | (have u0 := T0 Z hZ; have u1 := T1 Z hZ; have u2 := T2 Z hZ; have u3 := T3 Z hZ; have u4 := T4 Z hZ; have u5 := T5 Z hZ; have u6 := T6 Z hZ
         go_simp
         (all_goals with_reducible rfl)
         done)
  try simp only [Act.put, List.setIfInBounds_toArray, List.set_cons_zero, List.set_cons_succ]
  refine hx_take 8 _ ?_ rfl (by kernel_rfl) (by kernel_rfl) (by kernel_rfl) (fun _ _ _ h => h) (by rfl) (fun Z hZ => ?_) HS0.out ?_
  rotate_left
  · unfold yAt
    first
      | (go_simp
         (all_goals with_reducible rfl)
         done)
      | (have u0 := T0 Z hZ; have u1 := T1 Z hZ; have u2 := T2 Z hZ; have u3 := T3 Z hZ; have u4 := T4 Z hZ; have u5 := T5 Z hZ; have u6 := T6 Z hZ
         go_simp
         (all_goals with_reducible rfl)
         done)
  try simp only [Act.put, List.setIfInBounds_toArray, List.set_cons_zero, List.set_cons_succ]
  refine hx_take 9 _ ?_ rfl (by kernel_rfl) (by kernel_rfl) (by kernel_rfl) (fun _ _ _ h => h) (by rfl) (fun Z hZ => ?_) HS0.out ?_
  rotate_left
  · unfold yAt
    first
      | (go_simp
         (all_goals with_reducible rfl)
         done)
      | (have u0 := T0 Z hZ; have u1 := T1 Z hZ; have u2 := T2 Z hZ; have u3 := T3 Z hZ; have u4 := T4 Z hZ; have u5 := T5 Z hZ; have u6 := T6 Z hZ
         go_simp
         (all_goals with_reducible rfl)
         done)
  try simp only [Act.put, List.setIfInBounds_toArray, List.set_cons_zero, List.set_cons_succ]
  refine hx_take 10 _ ?_ rfl (by kernel_rfl) (by kernel_rfl) (by kernel_rfl) (fun _ _ _ h => h) (by rfl) (fun Z hZ => ?_) HS0.out ?_
  rotate_left
  · unfold yAt
    first
      | (go_simp
         (all_goals with_reducible rfl)
         done)
      | (have u0 := T0 Z hZ; have u1 := T1 Z hZ; have u2 := T2 Z hZ; have u3 := T3 Z hZ; have u4 := T4 Z hZ; have u5 := T5 Z hZ; have u6 := T6 Z hZ
         go_simp
         (all_goals with_reducible rfl)
         done)
  try simp only [Act.put, List.setIfInBounds_toArray, List.set_cons_zero, List.set_cons_succ]
  refine hx_take 11 _ ?_ rfl (by kernel_rfl) (by kernel_rfl) (by kernel_rfl) (fun _ _ _ h => h) (by rfl) (fun Z hZ => ?_) HS0.out ?_
  rotate_left
  · unfold yAt
    first
      | (go_simp
         (all_goals with_reducible rfl)
         done)
      | (have u0 := T0 Z hZ; have u1 := T1 Z hZ; have u2 := T2 Z hZ; have u3 := T3 Z hZ; have u4 := T4 Z hZ; have u5 := T5 Z hZ; have u6 := T6 Z hZ
         go_simp
         (all_goals with_reducible rfl)
         done)
  try simp only [Act.put, List.setIfInBounds_toArray, List.set_cons_zero, List.set_cons_succ]
  refine hx_take 12 _ ?_ rfl (by kernel_rfl) (by kernel_rfl) (by kernel_rfl) (fun _ _ _ h => h) (by rfl) (fun Z hZ => ?_) HS0.out ?_
  rotate_left
  · unfold yAt
    first
      | (go_simp
         (all_goals with_reducible rfl)
         done)
      | (have u0 := T0 Z hZ; have u1 := T1 Z hZ; have u2 := T2 Z hZ; have u3 := T3 Z hZ; have u4 := T4 Z hZ; have u5 := T5 Z hZ; have u6 := T6 Z hZ
         go_simp
         (all_goals with_reducible rfl)
         done)
  try simp only [Act.put, List.setIfInBounds_toArray, List.set_cons_zero, List.set_cons_succ]
  refine hx_take 13 _ ?_ rfl (by kernel_rfl) (by kernel_rfl) (by kernel_rfl) (fun _ _ _ h => h) (by rfl) (fun Z hZ => ?_) HS0.out ?_
  rotate_left
  · unfold yAt
    first
      | (go_simp
         (all_goals with_reducible rfl)
         done)
      | (have u0 := T0 Z hZ; have u1 := T1 Z hZ; have u2 := T2 Z hZ; have u3 := T3 Z hZ; have u4 := T4 Z hZ; have u5 := T5 Z hZ; have u6 := T6 Z hZ
         go_simp
         (all_goals with_reducible rfl)
         done)
  try simp only [Act.put, List.setIfInBounds_toArray, List.set_cons_zero, List.set_cons_succ]
  refine hx_take 14 _ ?_ rfl (by kernel_rfl) (by kernel_rfl) (by kernel_rfl) (fun _ _ _ h => h) (by rfl) (fun Z hZ => ?_) HS0.out ?_
  rotate_left
  · unfold yAt
    first
      | (go_simp
         (all_goals with_reducible rfl)
         done)
      | (have u0 := T0 Z hZ; have u1 := T1 Z hZ; have u2 := T2 Z hZ; have u3 := T3 Z hZ; have u4 := T4 Z hZ; have u5 := T5 Z hZ; have u6 := T6 Z hZ
         go_simp
         (all_goals with_reducible rfl)
         done)
  try simp only [Act.put, List.setIfInBounds_toArray, List.set_cons_zero, List.set_cons_succ]
  refine hx_take 15 _ ?_ rfl (by kernel_rfl) (by kernel_rfl) (by kernel_rfl) (fun _ _ _ h => h) (by rfl) (fun Z hZ => ?_) HS0.out ?_
  rotate_left
  · unfold yAt
    first
      | (go_simp
         (all_goals with_reducible rfl)
         done)
      | (have u0 := T0 Z hZ; have u1 := T1 Z hZ; have u2 := T2 Z hZ; have u3 := T3 Z hZ; have u4 := T4 Z hZ; have u5 := T5 Z hZ; have u6 := T6 Z hZ
         go_simp
         (all_goals with_reducible rfl)
         done)
  try simp only [Act.put, List.setIfInBounds_toArray, List.set_cons_zero, List.set_cons_succ]
  refine hx_take 16 _ ?_ rfl (by kernel_rfl) (by kernel_rfl) (by kernel_rfl) (fun _ _ _ h => h) (by rfl) (fun Z hZ => ?_) HS0.out ?_
  rotate_left
  · unfold yAt
    first
      | (go_simp
         (all_goals with_reducible rfl)
         done)
      | (have u0 := T0 Z hZ; have u1 := T1 Z hZ; have u2 := T2 Z hZ; have u3 := T3 Z hZ; have u4 := T4 Z hZ; have u5 := T5 Z hZ; have u6 := T6 Z hZ
         go_simp
         (all_goals with_reducible rfl)
         done)
  try simp only [Act.put, List.setIfInBounds_toArray, List.set_cons_zero, List.set_cons_succ]
  refine hx_take 17 _ ?_ rfl (by kernel_rfl) (by kernel_rfl) (by kernel_rfl) (fun _ _ _ h => h) (by rfl) (fun Z hZ => ?_) HS0.out ?_
  rotate_left
  · unfold yAt
    first
      | (go_simp
         (all_goals with_reducible rfl)
         done)
      | (have u0 := T0 Z hZ; have u1 := T1 Z hZ; have u2 := T2 Z hZ; have u3 := T3 Z hZ; have u4 := T4 Z hZ; have u5 := T5 Z hZ; have u6 := T6 Z hZ
         go_simp
         (all_goals with_reducible rfl)
         done)
  try simp only [Act.put, List.setIfInBounds_toArray, List.set_cons_zero, List.set_cons_succ]
  refine hx_take 18 _ ?_ rfl (by kernel_rfl) (by kernel_rfl) (by kernel_rfl) (fun _ _ _ h => h) (by rfl) (fun Z hZ => ?_) HS0.out ?_
  rotate_left
  · unfold yAt
    first
      | (go_simp
         (all_goals with_reducible rfl)
         done)
      | (have u0 := T0 Z hZ; have u1 := T1 Z hZ; have u2 := T2 Z hZ; have u3 := T3 Z hZ; have u4 := T4 Z hZ; have u5 := T5 Z hZ; have u6 := T6 Z hZ
         go_simp
         (all_goals with_reducible rfl)
         done)
  try simp only [Act.put, List.setIfInBounds_toArray, List.set_cons_zero, List.set_cons_succ]
  refine hx_take 19 _ ?_ rfl (by kernel_rfl) (by kernel_rfl) (by kernel_rfl) (fun _ _ _ h => h) (by rfl) (fun Z hZ => ?_) HS0.out ?_
  rotate_left
  · unfold yAt
    first
      | (go_simp
         (all_goals with_reducible rfl)
         done)
      | (have u0 := T0 Z hZ; have u1 := T1 Z hZ; have u2 := T2 Z hZ; have u3 := T3 Z hZ; have u4 := T4 Z hZ; have u5 := T5 Z hZ; have u6 := T6 Z hZ
         go_simp
         (all_goals with_reducible rfl)
         done)
  try simp only [Act.put, List.setIfInBounds_toArray, List.set_cons_zero, List.set_cons_succ]
  refine hx_take 20 _ ?_ rfl (by kernel_rfl) (by kernel_rfl) (by kernel_rfl) (fun _ _ _ h => h) (by rfl) (fun Z hZ => ?_) HS0.out ?_
  rotate_left
  · unfold yAt
    first
      | (go_simp
         (all_goals with_reducible rfl)
         done)
      | (have u0 := T0 Z hZ; have u1 := T1 Z hZ; have u2 := T2 Z hZ; have u3 := T3 Z hZ; have u4 := T4 Z hZ; have u5 := T5 Z hZ; have u6 := T6 Z hZ
         go_simp
         (all_goals with_reducible rfl)
         done)
  try simp only [Act.put, List.setIfInBounds_toArray, List.set_cons_zero, List.set_cons_succ]
  refine hx_take 21 _ ?_ rfl (by kernel_rfl) (by kernel_rfl) (by kernel_rfl) (fun _ _ _ h => h) (by rfl) (fun Z hZ => ?_) HS0.out ?_
  rotate_left
  · unfold yAt
    first
      | (go_simp
         (all_goals with_reducible rfl)
         done)
      | (have u0 := T0 Z hZ; have u1 := T1 Z hZ; have u2 := T2 Z hZ; have u3 := T3 Z hZ; have u4 := T4 Z hZ; have u5 := T5 Z hZ; have u6 := T6 Z hZ
         go_simp
         (all_goals with_reducible rfl)
         done)
  try simp only [Act.put, List.setIfInBounds_toArray, List.set_cons_zero, List.set_cons_succ]
  refine hx_one 22 _ rfl (by kernel_rfl) (by rfl) (fun K hK => ?_)
  go_simp
  refine hK.out _ _ (by rw [hS]; exact (BA3.out.other_seven n1).drew) ?_
  clear hK K
  try simp only [Act.put, List.setIfInBounds_toArray, List.set_cons_zero, List.set_cons_succ]
  refine hx_one 23 _ rfl (by kernel_rfl) (by rfl) (fun K hK => ?_)
  go_simp
  refine hK.out _ _ (by rw [hS]; exact ((BA3.out.other_seven n1).other_seven n2).drew) ?_
  clear hK K
  try simp only [Act.put, List.setIfInBounds_toArray, List.set_cons_zero, List.set_cons_succ]
  refine hx_one 24 _ rfl (by kernel_rfl) (by rfl) (fun K hK => ?_)
  go_simp
  refine hK.out _ _ (by rw [hS]; exact ((BA3.out.other_seven n1).other_seven n2).drew) ?_
  clear hK K
  try simp only [Act.put, List.setIfInBounds_toArray, List.set_cons_zero, List.set_cons_succ]
  refine hx_done (by kernel_rfl) ?_
  go_wp2_with fail
  exact rpost_halve (p := p) (q := q) rfl rfl rfl ((BP3.out.seven).other_seven n3).drew ((BQ3.out.other_seven n6).seven).drew rfl ⟨rfl, ((G3.out.seven BP3.out.1).seven BQ3.out.1).drew⟩
set_option maxHeartbeats 4000000 in
set_option maxRecDepth 100000 in
theorem rhalve_not_0 (x0 y0 cx cy x1 y1 : Int) (he : Pl.Ed.may ⟨x0, y0, true, cx, cy, x1, y1⟩) (h : ¬ (x0 + cx) % 2 = 0) (W : World) :
    Calls Try.prog 28 #[.agg #[.int .i64 x0, .int .i64 y0, .bool true, .int .i64 cx, .int .i64 cy, .int .i64 x1, .int .i64 y1]] W fun en w' => en = .returned (.tuple #[.agg #[.int .i64 0, .int .i64 0, .bool false, .int .i64 0, .int .i64 0, .int .i64 0, .int .i64 0], .agg #[.int .i64 0, .int .i64 0, .bool false, .int .i64 0, .int .i64 0, .int .i64 0, .int .i64 0], .bool false]) ∧ Fr (fun _ => False) W w' := by
  have K1 := Lib.hid (fun Z => isedge25_any ⟨x0, y0, true, cx, cy, x1, y1⟩ Z)
  rw [decide_eq_true he] at K1
  simp only [edv] at K1
  obtain ⟨a1, a2, a3, a4, a5, a6, _⟩ := he
  unfold Pl.crd at a1 a2 a3 a4 a5 a6
  simp only at a1 a2 a3 a4 a5 a6
  have h0 := h
  clear h
  obtain ⟨u, hu⟩ : ∃ u, u = (x0 + cx).tmod 2 := ⟨_, rfl⟩
  have hu0 : (u == 0) = false := beq_eq_false_iff_ne.2 (by rw [hu]; exact Pl.tmn _ _ (by have := h0; omega))
  have t0 : (x0 + cx).tmod 2 = u := hu.symm
  clear hu
  clear h0
  go_enter Try.func28, Try.ntmps28
  go_wp2_with fail
  have A0 := Lib.hid (B3.start W #[.int .i64 x0, .int .i64 y0, .bool true, .int .i64 cx, .int .i64 cy, .int .i64 x1, .int .i64 y1] #[.int .i64 0, .int .i64 0, .bool false, .int .i64 0, .int .i64 0, .int .i64 0, .int .i64 0] #[.int .i64 0, .int .i64 0, .bool false, .int .i64 0, .int .i64 0, .int .i64 0, .int .i64 0] 25 25 25)
  refine (K1.out _).mono ?_
  rintro en w1 ⟨rfl, g1⟩
  have A1 := Lib.hid (A0.out.grow g1)
  obtain ⟨p, hp⟩ : ∃ p, p = W.heap.size + 1 := ⟨_, rfl⟩
  obtain ⟨q, hq⟩ : ∃ q, q = W.heap.size + 1 + 1 := ⟨_, rfl⟩
  obtain ⟨r, hr⟩ : ∃ r, r = W.heap.size := ⟨_, rfl⟩
  have BA : Hid (Blk W r [.int .i64 x0, .int .i64 y0, .bool true, .int .i64 cx, .int .i64 cy, .int .i64 x1, .int .i64 y1] w1) := Lib.hid (by rw [hr]; exact A1.out.1)
  have BP : Hid (Blk W p [.int .i64 0, .int .i64 0, .bool false, .int .i64 0, .int .i64 0, .int .i64 0, .int .i64 0] w1) := Lib.hid (by rw [hp]; exact A1.out.2.1)
  have BQ : Hid (Blk W q [.int .i64 0, .int .i64 0, .bool false, .int .i64 0, .int .i64 0, .int .i64 0, .int .i64 0] w1) := Lib.hid (by rw [hq]; exact A1.out.2.2.1)
  have GH := Lib.hid (Fr.of_grown (fun _ => False) A1.out.2.2.2)
  have n1 : r ≠ p := by omega
  have n2 : r ≠ q := by omega
  have n3 : p ≠ q := by omega
  have n4 : p ≠ r := by omega
  have n5 : q ≠ r := by omega
  have n6 : q ≠ p := by omega
  rw [← hq, ← hp, ← hr]
  clear hp hq hr g1 A0 A1 K1
  obtain ⟨c0, c1, c2, c3, c4, c5, c6⟩ := BA.out.at0
  obtain ⟨d0, d1, d2, d3, d4, d5, d6⟩ := BP.out.at0
  obtain ⟨e0, e1, e2, e3, e4, e5, e6⟩ := BQ.out.at0
  have fp := BP.out.2.2.2
  have fq := BQ.out.2.2.2
  have hself : ∀ (Z : World) (a : Addr) (v : Value), Z.cell? a = some v → Z.setCell a v = Z := fun _ _ _ h => setCell_self h
  go_wp2_with fail
  go_quiet (fail)
  go_wp2_with fail
  go_quiet (fail)
  go_wp2_with fail
  all_goals first
    | (exfalso; have hh := ‹u = 0›; rw [hh] at hu0; exact absurd hu0 (by decide))
    | exact rpost_halve (p := p) (q := q) rfl rfl rfl (BP.out.drewN _) (BQ.out.drewN _) rfl ⟨rfl, GH.out⟩
set_option maxHeartbeats 4000000 in
set_option maxRecDepth 100000 in
theorem rhalve_not_1 (x0 y0 cx cy x1 y1 : Int) (he : Pl.Ed.may ⟨x0, y0, true, cx, cy, x1, y1⟩) (h : (x0 + cx) % 2 = 0 ∧ ¬ (y0 + cy) % 2 = 0) (W : World) :
    Calls Try.prog 28 #[.agg #[.int .i64 x0, .int .i64 y0, .bool true, .int .i64 cx, .int .i64 cy, .int .i64 x1, .int .i64 y1]] W fun en w' => en = .returned (.tuple #[.agg #[.int .i64 0, .int .i64 0, .bool false, .int .i64 0, .int .i64 0, .int .i64 0, .int .i64 0], .agg #[.int .i64 0, .int .i64 0, .bool false, .int .i64 0, .int .i64 0, .int .i64 0, .int .i64 0], .bool false]) ∧ Fr (fun _ => False) W w' := by
  have K1 := Lib.hid (fun Z => isedge25_any ⟨x0, y0, true, cx, cy, x1, y1⟩ Z)
  rw [decide_eq_true he] at K1
  simp only [edv] at K1
  obtain ⟨a1, a2, a3, a4, a5, a6, _⟩ := he
  unfold Pl.crd at a1 a2 a3 a4 a5 a6
  simp only at a1 a2 a3 a4 a5 a6
  obtain ⟨h0, h1⟩ := h
  have t0 : (x0 + cx).tmod 2 = 0 := Pl.tm _ _ h0
  clear h0
  obtain ⟨u, hu⟩ : ∃ u, u = (y0 + cy).tmod 2 := ⟨_, rfl⟩
  have hu0 : (u == 0) = false := beq_eq_false_iff_ne.2 (by rw [hu]; exact Pl.tmn _ _ (by have := h1; omega))
  have t1 : (y0 + cy).tmod 2 = u := hu.symm
  clear hu
  clear h1
  go_enter Try.func28, Try.ntmps28
  go_wp2_with fail
  have A0 := Lib.hid (B3.start W #[.int .i64 x0, .int .i64 y0, .bool true, .int .i64 cx, .int .i64 cy, .int .i64 x1, .int .i64 y1] #[.int .i64 0, .int .i64 0, .bool false, .int .i64 0, .int .i64 0, .int .i64 0, .int .i64 0] #[.int .i64 0, .int .i64 0, .bool false, .int .i64 0, .int .i64 0, .int .i64 0, .int .i64 0] 25 25 25)
  refine (K1.out _).mono ?_
  rintro en w1 ⟨rfl, g1⟩
  have A1 := Lib.hid (A0.out.grow g1)
  obtain ⟨p, hp⟩ : ∃ p, p = W.heap.size + 1 := ⟨_, rfl⟩
  obtain ⟨q, hq⟩ : ∃ q, q = W.heap.size + 1 + 1 := ⟨_, rfl⟩
  obtain ⟨r, hr⟩ : ∃ r, r = W.heap.size := ⟨_, rfl⟩
  have BA : Hid (Blk W r [.int .i64 x0, .int .i64 y0, .bool true, .int .i64 cx, .int .i64 cy, .int .i64 x1, .int .i64 y1] w1) := Lib.hid (by rw [hr]; exact A1.out.1)
  have BP : Hid (Blk W p [.int .i64 0, .int .i64 0, .bool false, .int .i64 0, .int .i64 0, .int .i64 0, .int .i64 0] w1) := Lib.hid (by rw [hp]; exact A1.out.2.1)
  have BQ : Hid (Blk W q [.int .i64 0, .int .i64 0, .bool false, .int .i64 0, .int .i64 0, .int .i64 0, .int .i64 0] w1) := Lib.hid (by rw [hq]; exact A1.out.2.2.1)
  have GH := Lib.hid (Fr.of_grown (fun _ => False) A1.out.2.2.2)
  have n1 : r ≠ p := by omega
  have n2 : r ≠ q := by omega
  have n3 : p ≠ q := by omega
  have n4 : p ≠ r := by omega
  have n5 : q ≠ r := by omega
  have n6 : q ≠ p := by omega
  rw [← hq, ← hp, ← hr]
  clear hp hq hr g1 A0 A1 K1
  obtain ⟨c0, c1, c2, c3, c4, c5, c6⟩ := BA.out.at0
  obtain ⟨d0, d1, d2, d3, d4, d5, d6⟩ := BP.out.at0
  obtain ⟨e0, e1, e2, e3, e4, e5, e6⟩ := BQ.out.at0
  have fp := BP.out.2.2.2
  have fq := BQ.out.2.2.2
  have hself : ∀ (Z : World) (a : Addr) (v : Value), Z.cell? a = some v → Z.setCell a v = Z := fun _ _ _ h => setCell_self h
  go_wp2_with fail
  go_quiet (fail)
  go_wp2_with fail
  go_quiet (fail)
  go_wp2_with fail
  all_goals first
    | (exfalso; have hh := ‹u = 0›; rw [hh] at hu0; exact absurd hu0 (by decide))
    | exact rpost_halve (p := p) (q := q) rfl rfl rfl (BP.out.drewN _) (BQ.out.drewN _) rfl ⟨rfl, GH.out⟩
set_option maxHeartbeats 4000000 in
set_option maxRecDepth 100000 in
theorem rhalve_not_2 (x0 y0 cx cy x1 y1 : Int) (he : Pl.Ed.may ⟨x0, y0, true, cx, cy, x1, y1⟩) (h : (x0 + cx) % 2 = 0 ∧ (y0 + cy) % 2 = 0 ∧ ¬ (cx + x1) % 2 = 0) (W : World) :
    Calls Try.prog 28 #[.agg #[.int .i64 x0, .int .i64 y0, .bool true, .int .i64 cx, .int .i64 cy, .int .i64 x1, .int .i64 y1]] W fun en w' => en = .returned (.tuple #[.agg #[.int .i64 0, .int .i64 0, .bool false, .int .i64 0, .int .i64 0, .int .i64 0, .int .i64 0], .agg #[.int .i64 0, .int .i64 0, .bool false, .int .i64 0, .int .i64 0, .int .i64 0, .int .i64 0], .bool false]) ∧ Fr (fun _ => False) W w' := by
  have K1 := Lib.hid (fun Z => isedge25_any ⟨x0, y0, true, cx, cy, x1, y1⟩ Z)
  rw [decide_eq_true he] at K1
  simp only [edv] at K1
  obtain ⟨a1, a2, a3, a4, a5, a6, _⟩ := he
  unfold Pl.crd at a1 a2 a3 a4 a5 a6
  simp only at a1 a2 a3 a4 a5 a6
  obtain ⟨h0, h1, h2⟩ := h
  have t0 : (x0 + cx).tmod 2 = 0 := Pl.tm _ _ h0
  clear h0
  have t1 : (y0 + cy).tmod 2 = 0 := Pl.tm _ _ h1
  clear h1
  obtain ⟨u, hu⟩ : ∃ u, u = (cx + x1).tmod 2 := ⟨_, rfl⟩
  have hu0 : (u == 0) = false := beq_eq_false_iff_ne.2 (by rw [hu]; exact Pl.tmn _ _ (by have := h2; omega))
  have t2 : (cx + x1).tmod 2 = u := hu.symm
  clear hu
  clear h2
  go_enter Try.func28, Try.ntmps28
  go_wp2_with fail
  have A0 := Lib.hid (B3.start W #[.int .i64 x0, .int .i64 y0, .bool true, .int .i64 cx, .int .i64 cy, .int .i64 x1, .int .i64 y1] #[.int .i64 0, .int .i64 0, .bool false, .int .i64 0, .int .i64 0, .int .i64 0, .int .i64 0] #[.int .i64 0, .int .i64 0, .bool false, .int .i64 0, .int .i64 0, .int .i64 0, .int .i64 0] 25 25 25)
  refine (K1.out _).mono ?_
  rintro en w1 ⟨rfl, g1⟩
  have A1 := Lib.hid (A0.out.grow g1)
  obtain ⟨p, hp⟩ : ∃ p, p = W.heap.size + 1 := ⟨_, rfl⟩
  obtain ⟨q, hq⟩ : ∃ q, q = W.heap.size + 1 + 1 := ⟨_, rfl⟩
  obtain ⟨r, hr⟩ : ∃ r, r = W.heap.size := ⟨_, rfl⟩
  have BA : Hid (Blk W r [.int .i64 x0, .int .i64 y0, .bool true, .int .i64 cx, .int .i64 cy, .int .i64 x1, .int .i64 y1] w1) := Lib.hid (by rw [hr]; exact A1.out.1)
  have BP : Hid (Blk W p [.int .i64 0, .int .i64 0, .bool false, .int .i64 0, .int .i64 0, .int .i64 0, .int .i64 0] w1) := Lib.hid (by rw [hp]; exact A1.out.2.1)
  have BQ : Hid (Blk W q [.int .i64 0, .int .i64 0, .bool false, .int .i64 0, .int .i64 0, .int .i64 0, .int .i64 0] w1) := Lib.hid (by rw [hq]; exact A1.out.2.2.1)
  have GH := Lib.hid (Fr.of_grown (fun _ => False) A1.out.2.2.2)
  have n1 : r ≠ p := by omega
  have n2 : r ≠ q := by omega
  have n3 : p ≠ q := by omega
  have n4 : p ≠ r := by omega
  have n5 : q ≠ r := by omega
  have n6 : q ≠ p := by omega
  rw [← hq, ← hp, ← hr]
  clear hp hq hr g1 A0 A1 K1
  obtain ⟨c0, c1, c2, c3, c4, c5, c6⟩ := BA.out.at0
  obtain ⟨d0, d1, d2, d3, d4, d5, d6⟩ := BP.out.at0
  obtain ⟨e0, e1, e2, e3, e4, e5, e6⟩ := BQ.out.at0
  have fp := BP.out.2.2.2
  have fq := BQ.out.2.2.2
  have hself : ∀ (Z : World) (a : Addr) (v : Value), Z.cell? a = some v → Z.setCell a v = Z := fun _ _ _ h => setCell_self h
  go_wp2_with fail
  go_quiet (fail)
  go_wp2_with fail
  go_quiet (fail)
  go_wp2_with fail
  all_goals first
    | (exfalso; have hh := ‹u = 0›; rw [hh] at hu0; exact absurd hu0 (by decide))
    | exact rpost_halve (p := p) (q := q) rfl rfl rfl (BP.out.drewN _) (BQ.out.drewN _) rfl ⟨rfl, GH.out⟩
set_option maxHeartbeats 4000000 in
set_option maxRecDepth 100000 in
theorem rhalve_not_3 (x0 y0 cx cy x1 y1 : Int) (he : Pl.Ed.may ⟨x0, y0, true, cx, cy, x1, y1⟩) (h : (x0 + cx) % 2 = 0 ∧ (y0 + cy) % 2 = 0 ∧ (cx + x1) % 2 = 0 ∧ ¬ (cy + y1) % 2 = 0) (W : World) :
    Calls Try.prog 28 #[.agg #[.int .i64 x0, .int .i64 y0, .bool true, .int .i64 cx, .int .i64 cy, .int .i64 x1, .int .i64 y1]] W fun en w' => en = .returned (.tuple #[.agg #[.int .i64 0, .int .i64 0, .bool false, .int .i64 0, .int .i64 0, .int .i64 0, .int .i64 0], .agg #[.int .i64 0, .int .i64 0, .bool false, .int .i64 0, .int .i64 0, .int .i64 0, .int .i64 0], .bool false]) ∧ Fr (fun _ => False) W w' := by
  have K1 := Lib.hid (fun Z => isedge25_any ⟨x0, y0, true, cx, cy, x1, y1⟩ Z)
  rw [decide_eq_true he] at K1
  simp only [edv] at K1
  obtain ⟨a1, a2, a3, a4, a5, a6, _⟩ := he
  unfold Pl.crd at a1 a2 a3 a4 a5 a6
  simp only at a1 a2 a3 a4 a5 a6
  obtain ⟨h0, h1, h2, h3⟩ := h
  have t0 : (x0 + cx).tmod 2 = 0 := Pl.tm _ _ h0
  clear h0
  have t1 : (y0 + cy).tmod 2 = 0 := Pl.tm _ _ h1
  clear h1
  have t2 : (cx + x1).tmod 2 = 0 := Pl.tm _ _ h2
  clear h2
  obtain ⟨u, hu⟩ : ∃ u, u = (cy + y1).tmod 2 := ⟨_, rfl⟩
  have hu0 : (u == 0) = false := beq_eq_false_iff_ne.2 (by rw [hu]; exact Pl.tmn _ _ (by have := h3; omega))
  have t3 : (cy + y1).tmod 2 = u := hu.symm
  clear hu
  clear h3
  go_enter Try.func28, Try.ntmps28
  go_wp2_with fail
  have A0 := Lib.hid (B3.start W #[.int .i64 x0, .int .i64 y0, .bool true, .int .i64 cx, .int .i64 cy, .int .i64 x1, .int .i64 y1] #[.int .i64 0, .int .i64 0, .bool false, .int .i64 0, .int .i64 0, .int .i64 0, .int .i64 0] #[.int .i64 0, .int .i64 0, .bool false, .int .i64 0, .int .i64 0, .int .i64 0, .int .i64 0] 25 25 25)
  refine (K1.out _).mono ?_
  rintro en w1 ⟨rfl, g1⟩
  have A1 := Lib.hid (A0.out.grow g1)
  obtain ⟨p, hp⟩ : ∃ p, p = W.heap.size + 1 := ⟨_, rfl⟩
  obtain ⟨q, hq⟩ : ∃ q, q = W.heap.size + 1 + 1 := ⟨_, rfl⟩
  obtain ⟨r, hr⟩ : ∃ r, r = W.heap.size := ⟨_, rfl⟩
  have BA : Hid (Blk W r [.int .i64 x0, .int .i64 y0, .bool true, .int .i64 cx, .int .i64 cy, .int .i64 x1, .int .i64 y1] w1) := Lib.hid (by rw [hr]; exact A1.out.1)
  have BP : Hid (Blk W p [.int .i64 0, .int .i64 0, .bool false, .int .i64 0, .int .i64 0, .int .i64 0, .int .i64 0] w1) := Lib.hid (by rw [hp]; exact A1.out.2.1)
  have BQ : Hid (Blk W q [.int .i64 0, .int .i64 0, .bool false, .int .i64 0, .int .i64 0, .int .i64 0, .int .i64 0] w1) := Lib.hid (by rw [hq]; exact A1.out.2.2.1)
  have GH := Lib.hid (Fr.of_grown (fun _ => False) A1.out.2.2.2)
  have n1 : r ≠ p := by omega
  have n2 : r ≠ q := by omega
  have n3 : p ≠ q := by omega
  have n4 : p ≠ r := by omega
  have n5 : q ≠ r := by omega
  have n6 : q ≠ p := by omega
  rw [← hq, ← hp, ← hr]
  clear hp hq hr g1 A0 A1 K1
  obtain ⟨c0, c1, c2, c3, c4, c5, c6⟩ := BA.out.at0
  obtain ⟨d0, d1, d2, d3, d4, d5, d6⟩ := BP.out.at0
  obtain ⟨e0, e1, e2, e3, e4, e5, e6⟩ := BQ.out.at0
  have fp := BP.out.2.2.2
  have fq := BQ.out.2.2.2
  have hself : ∀ (Z : World) (a : Addr) (v : Value), Z.cell? a = some v → Z.setCell a v = Z := fun _ _ _ h => setCell_self h
  go_wp2_with fail
  go_quiet (fail)
  go_wp2_with fail
  go_quiet (fail)
  go_wp2_with fail
  all_goals first
    | (exfalso; have hh := ‹u = 0›; rw [hh] at hu0; exact absurd hu0 (by decide))
    | exact rpost_halve (p := p) (q := q) rfl rfl rfl (BP.out.drewN _) (BQ.out.drewN _) rfl ⟨rfl, GH.out⟩
set_option maxHeartbeats 4000000 in
set_option maxRecDepth 100000 in
theorem rhalve_not_4 (x0 y0 cx cy x1 y1 : Int) (he : Pl.Ed.may ⟨x0, y0, true, cx, cy, x1, y1⟩) (h : (x0 + cx) % 2 = 0 ∧ (y0 + cy) % 2 = 0 ∧ (cx + x1) % 2 = 0 ∧ (cy + y1) % 2 = 0 ∧ ¬ (x0 + cx + (cx + x1)) % 4 = 0) (W : World) :
    Calls Try.prog 28 #[.agg #[.int .i64 x0, .int .i64 y0, .bool true, .int .i64 cx, .int .i64 cy, .int .i64 x1, .int .i64 y1]] W fun en w' => en = .returned (.tuple #[.agg #[.int .i64 0, .int .i64 0, .bool false, .int .i64 0, .int .i64 0, .int .i64 0, .int .i64 0], .agg #[.int .i64 0, .int .i64 0, .bool false, .int .i64 0, .int .i64 0, .int .i64 0, .int .i64 0], .bool false]) ∧ Fr (fun _ => False) W w' := by
  have K1 := Lib.hid (fun Z => isedge25_any ⟨x0, y0, true, cx, cy, x1, y1⟩ Z)
  rw [decide_eq_true he] at K1
  simp only [edv] at K1
  obtain ⟨a1, a2, a3, a4, a5, a6, _⟩ := he
  unfold Pl.crd at a1 a2 a3 a4 a5 a6
  simp only at a1 a2 a3 a4 a5 a6
  obtain ⟨h0, h1, h2, h3, h4⟩ := h
  have t0 : (x0 + cx).tmod 2 = 0 := Pl.tm _ _ h0
  clear h0
  have t1 : (y0 + cy).tmod 2 = 0 := Pl.tm _ _ h1
  clear h1
  have t2 : (cx + x1).tmod 2 = 0 := Pl.tm _ _ h2
  clear h2
  have t3 : (cy + y1).tmod 2 = 0 := Pl.tm _ _ h3
  clear h3
  obtain ⟨u, hu⟩ : ∃ u, u = (x0 + cx + (cx + x1)).tmod 4 := ⟨_, rfl⟩
  have hu0 : (u == 0) = false := beq_eq_false_iff_ne.2 (by rw [hu]; exact Pl.tmn _ _ (by have := h4; omega))
  have t4 : (x0 + cx + (cx + x1)).tmod 4 = u := hu.symm
  clear hu
  clear h4
  go_enter Try.func28, Try.ntmps28
  go_wp2_with fail
  have A0 := Lib.hid (B3.start W #[.int .i64 x0, .int .i64 y0, .bool true, .int .i64 cx, .int .i64 cy, .int .i64 x1, .int .i64 y1] #[.int .i64 0, .int .i64 0, .bool false, .int .i64 0, .int .i64 0, .int .i64 0, .int .i64 0] #[.int .i64 0, .int .i64 0, .bool false, .int .i64 0, .int .i64 0, .int .i64 0, .int .i64 0] 25 25 25)
  refine (K1.out _).mono ?_
  rintro en w1 ⟨rfl, g1⟩
  have A1 := Lib.hid (A0.out.grow g1)
  obtain ⟨p, hp⟩ : ∃ p, p = W.heap.size + 1 := ⟨_, rfl⟩
  obtain ⟨q, hq⟩ : ∃ q, q = W.heap.size + 1 + 1 := ⟨_, rfl⟩
  obtain ⟨r, hr⟩ : ∃ r, r = W.heap.size := ⟨_, rfl⟩
  have BA : Hid (Blk W r [.int .i64 x0, .int .i64 y0, .bool true, .int .i64 cx, .int .i64 cy, .int .i64 x1, .int .i64 y1] w1) := Lib.hid (by rw [hr]; exact A1.out.1)
  have BP : Hid (Blk W p [.int .i64 0, .int .i64 0, .bool false, .int .i64 0, .int .i64 0, .int .i64 0, .int .i64 0] w1) := Lib.hid (by rw [hp]; exact A1.out.2.1)
  have BQ : Hid (Blk W q [.int .i64 0, .int .i64 0, .bool false, .int .i64 0, .int .i64 0, .int .i64 0, .int .i64 0] w1) := Lib.hid (by rw [hq]; exact A1.out.2.2.1)
  have GH := Lib.hid (Fr.of_grown (fun _ => False) A1.out.2.2.2)
  have n1 : r ≠ p := by omega
  have n2 : r ≠ q := by omega
  have n3 : p ≠ q := by omega
  have n4 : p ≠ r := by omega
  have n5 : q ≠ r := by omega
  have n6 : q ≠ p := by omega
  rw [← hq, ← hp, ← hr]
  clear hp hq hr g1 A0 A1 K1
  obtain ⟨c0, c1, c2, c3, c4, c5, c6⟩ := BA.out.at0
  obtain ⟨d0, d1, d2, d3, d4, d5, d6⟩ := BP.out.at0
  obtain ⟨e0, e1, e2, e3, e4, e5, e6⟩ := BQ.out.at0
  have fp := BP.out.2.2.2
  have fq := BQ.out.2.2.2
  have hself : ∀ (Z : World) (a : Addr) (v : Value), Z.cell? a = some v → Z.setCell a v = Z := fun _ _ _ h => setCell_self h
  go_wp2_with fail
  go_quiet (fail)
  go_wp2_with fail
  go_quiet (fail)
  go_wp2_with fail
  all_goals first
    | (exfalso; have hh := ‹u = 0›; rw [hh] at hu0; exact absurd hu0 (by decide))
    | exact rpost_halve (p := p) (q := q) rfl rfl rfl (BP.out.drewN _) (BQ.out.drewN _) rfl ⟨rfl, GH.out⟩
set_option maxHeartbeats 4000000 in
set_option maxRecDepth 100000 in
theorem rhalve_not_5 (x0 y0 cx cy x1 y1 : Int) (he : Pl.Ed.may ⟨x0, y0, true, cx, cy, x1, y1⟩) (h : (x0 + cx) % 2 = 0 ∧ (y0 + cy) % 2 = 0 ∧ (cx + x1) % 2 = 0 ∧ (cy + y1) % 2 = 0 ∧ (x0 + cx + (cx + x1)) % 4 = 0 ∧ ¬ (y0 + cy + (cy + y1)) % 4 = 0) (W : World) :
    Calls Try.prog 28 #[.agg #[.int .i64 x0, .int .i64 y0, .bool true, .int .i64 cx, .int .i64 cy, .int .i64 x1, .int .i64 y1]] W fun en w' => en = .returned (.tuple #[.agg #[.int .i64 0, .int .i64 0, .bool false, .int .i64 0, .int .i64 0, .int .i64 0, .int .i64 0], .agg #[.int .i64 0, .int .i64 0, .bool false, .int .i64 0, .int .i64 0, .int .i64 0, .int .i64 0], .bool false]) ∧ Fr (fun _ => False) W w' := by
  have K1 := Lib.hid (fun Z => isedge25_any ⟨x0, y0, true, cx, cy, x1, y1⟩ Z)
  rw [decide_eq_true he] at K1
  simp only [edv] at K1
  obtain ⟨a1, a2, a3, a4, a5, a6, _⟩ := he
  unfold Pl.crd at a1 a2 a3 a4 a5 a6
  simp only at a1 a2 a3 a4 a5 a6
  obtain ⟨h0, h1, h2, h3, h4, h5⟩ := h
  have t0 : (x0 + cx).tmod 2 = 0 := Pl.tm _ _ h0
  clear h0
  have t1 : (y0 + cy).tmod 2 = 0 := Pl.tm _ _ h1
  clear h1
  have t2 : (cx + x1).tmod 2 = 0 := Pl.tm _ _ h2
  clear h2
  have t3 : (cy + y1).tmod 2 = 0 := Pl.tm _ _ h3
  clear h3
  have t4 : (x0 + cx + (cx + x1)).tmod 4 = 0 := Pl.tm _ _ h4
  clear h4
  obtain ⟨u, hu⟩ : ∃ u, u = (y0 + cy + (cy + y1)).tmod 4 := ⟨_, rfl⟩
  have hu0 : (u == 0) = false := beq_eq_false_iff_ne.2 (by rw [hu]; exact Pl.tmn _ _ (by have := h5; omega))
  have t5 : (y0 + cy + (cy + y1)).tmod 4 = u := hu.symm
  clear hu
  clear h5
  go_enter Try.func28, Try.ntmps28
  go_wp2_with fail
  have A0 := Lib.hid (B3.start W #[.int .i64 x0, .int .i64 y0, .bool true, .int .i64 cx, .int .i64 cy, .int .i64 x1, .int .i64 y1] #[.int .i64 0, .int .i64 0, .bool false, .int .i64 0, .int .i64 0, .int .i64 0, .int .i64 0] #[.int .i64 0, .int .i64 0, .bool false, .int .i64 0, .int .i64 0, .int .i64 0, .int .i64 0] 25 25 25)
  refine (K1.out _).mono ?_
  rintro en w1 ⟨rfl, g1⟩
  have A1 := Lib.hid (A0.out.grow g1)
  obtain ⟨p, hp⟩ : ∃ p, p = W.heap.size + 1 := ⟨_, rfl⟩
  obtain ⟨q, hq⟩ : ∃ q, q = W.heap.size + 1 + 1 := ⟨_, rfl⟩
  obtain ⟨r, hr⟩ : ∃ r, r = W.heap.size := ⟨_, rfl⟩
  have BA : Hid (Blk W r [.int .i64 x0, .int .i64 y0, .bool true, .int .i64 cx, .int .i64 cy, .int .i64 x1, .int .i64 y1] w1) := Lib.hid (by rw [hr]; exact A1.out.1)
  have BP : Hid (Blk W p [.int .i64 0, .int .i64 0, .bool false, .int .i64 0, .int .i64 0, .int .i64 0, .int .i64 0] w1) := Lib.hid (by rw [hp]; exact A1.out.2.1)
  have BQ : Hid (Blk W q [.int .i64 0, .int .i64 0, .bool false, .int .i64 0, .int .i64 0, .int .i64 0, .int .i64 0] w1) := Lib.hid (by rw [hq]; exact A1.out.2.2.1)
  have GH := Lib.hid (Fr.of_grown (fun _ => False) A1.out.2.2.2)
  have n1 : r ≠ p := by omega
  have n2 : r ≠ q := by omega
  have n3 : p ≠ q := by omega
  have n4 : p ≠ r := by omega
  have n5 : q ≠ r := by omega
  have n6 : q ≠ p := by omega
  rw [← hq, ← hp, ← hr]
  clear hp hq hr g1 A0 A1 K1
  obtain ⟨c0, c1, c2, c3, c4, c5, c6⟩ := BA.out.at0
  obtain ⟨d0, d1, d2, d3, d4, d5, d6⟩ := BP.out.at0
  obtain ⟨e0, e1, e2, e3, e4, e5, e6⟩ := BQ.out.at0
  have fp := BP.out.2.2.2
  have fq := BQ.out.2.2.2
  have hself : ∀ (Z : World) (a : Addr) (v : Value), Z.cell? a = some v → Z.setCell a v = Z := fun _ _ _ h => setCell_self h
  go_wp2_with fail
  go_quiet (fail)
  go_wp2_with fail
  go_quiet (fail)
  go_wp2_with fail
  all_goals first
    | (exfalso; have hh := ‹u = 0›; rw [hh] at hu0; exact absurd hu0 (by decide))
    | exact rpost_halve (p := p) (q := q) rfl rfl rfl (BP.out.drewN _) (BQ.out.drewN _) rfl ⟨rfl, GH.out⟩
end Go.Proofs.Ytnienpalbfgflaa
