/- The walks of package bow: bent. -/
import Derived.Test.YtnienpalbfgflaaBW4
namespace Go.Proofs.Ytnienpalbfgflaa
set_option linter.unusedVariables false
open Go.RowKit

theorem post_bt {fn : Func} (hr : fn.results = #[ResultVar.cell 4 58]) {R : Ending → World → Prop} {a : Act} {W Z : World} {E : List Value} {t0 p0 q0 d0 m0 t1 p1 q1 d1 m1 : Int} (hp : a.tmps.getD 4 undef = .pointer (some ⟨W.heap.size + 1, 0, none⟩))
    (hB : Bt W E [.int .i64 t0, .int .i64 p0, .int .i64 q0, .int .i64 d0, .int .i64 m0, .int .i64 t1, .int .i64 p1, .int .i64 q1, .int .i64 d1, .int .i64 m1] Z) (hd : a.defers = [])
    (hR : Grown W Z → R (.returned (.agg #[.int .i64 t0, .int .i64 p0, .int .i64 q0, .int .i64 d0, .int .i64 m0, .int .i64 t1, .int .i64 p1, .int .i64 q1, .int .i64 d1, .int .i64 m1])) Z) : bodyPost Try.prog fn R .ret a Z :=
  post_ten hr hp hB.2.1 hd (hR hB.2.2)
set_option maxHeartbeats 8000000 in
set_option maxRecDepth 100000 in
theorem bent_even (x0 y0 : Int) (bb : Bool) (cx cy x1 y1 y b c ax bx : Int) (h1 : -8191 ≤ x0 ∧ x0 ≤ 8191) (h2 : -8191 ≤ y0 ∧ y0 ≤ 8191) (h3 : -8191 ≤ cx ∧ cx ≤ 8191) (h4 : -8191 ≤ cy ∧ cy ≤ 8191) (h5 : -8191 ≤ x1 ∧ x1 ≤ 8191) (h6 : -8191 ≤ y1 ∧ y1 ≤ 8191) (h7 : -8191 ≤ y ∧ y ≤ 8191)
    (ha : y0 - 2 * cy + y1 = 0) (hb : cy - y0 = b) (hc : y0 - y = c) (hax : x0 - 2 * cx + x1 = ax) (hbx : cx - x0 = bx) (S : Pl.Sp) (hS : S = Pl.evenS b c ax bx x0) (W : World) :
    Calls Try.prog 41 #[.agg #[.int .i64 x0, .int .i64 y0, .bool bb, .int .i64 cx, .int .i64 cy, .int .i64 x1, .int .i64 y1], .int .i64 y] W fun en w' => en = .returned (spp S Pl.Sp.z) ∧ Grown W w' := by
  have CE := Lib.hid (fun Z => even_any b c ax bx x0 (by omega) (by omega) (by omega) (by omega) h1 Z)
  rw [← hS] at CE
  clear hS
  go_enter Try.func41, Try.ntmps41
  go_wp2_with fail
  go_quiet (fail)
  go_wp2_with fail
  go_quiet (fail)
  generalize hZ : World.drewN _ _ = Z
  have BT : Hid (Bt W [.int .i64 x0, .int .i64 y0, .bool bb, .int .i64 cx, .int .i64 cy, .int .i64 x1, .int .i64 y1] [.int .i64 0, .int .i64 0, .int .i64 0, .int .i64 0, .int .i64 0, .int .i64 0, .int .i64 0, .int .i64 0, .int .i64 0, .int .i64 0] Z) := Lib.hid (by rw [← hZ]; exact ((Bt.start W #[.int .i64 x0, .int .i64 y0, .bool bb, .int .i64 cx, .int .i64 cy, .int .i64 x1, .int .i64 y1] #[.int .i64 0, .int .i64 0, .int .i64 0, .int .i64 0, .int .i64 0, .int .i64 0, .int .i64 0, .int .i64 0, .int .i64 0, .int .i64 0] 25 58).drewN _).drewN _)
  clear hZ
  obtain ⟨e0, e1, e2, e3, e4, e5, e6⟩ := BT.out.1.at0
  go_wp2_with fail
  refine (CE.out _).mono ?_
  rintro e w1 ⟨rfl, g1⟩
  have B3 := Lib.hid (BT.out.grow g1)
  obtain ⟨c0, c1, c2, c3, c4, c5, c6, c7, c8, c9⟩ := B3.out.2.1.at10
  have fz := B3.out.2.1.2.2.2
  clear g1 e0 e1 e2 e3 e4 e5 e6 BT
  go_wp2_with fail
  exact post_bt Try.results41 rfl B3.out.lo.all rfl (fun g => ⟨rfl, g⟩)
set_option maxHeartbeats 8000000 in
set_option maxRecDepth 100000 in
theorem bent_none (x0 y0 : Int) (bb : Bool) (cx cy x1 y1 y a b c ax bx B P d : Int) (h1 : -8191 ≤ x0 ∧ x0 ≤ 8191) (h2 : -8191 ≤ y0 ∧ y0 ≤ 8191) (h3 : -8191 ≤ cx ∧ cx ≤ 8191) (h4 : -8191 ≤ cy ∧ cy ≤ 8191) (h5 : -8191 ≤ x1 ∧ x1 ≤ 8191) (h6 : -8191 ≤ y1 ∧ y1 ≤ 8191) (h7 : -8191 ≤ y ∧ y ≤ 8191)
    (ha : y0 - 2 * cy + y1 = a) (hb : cy - y0 = b) (hc : y0 - y = c) (hax : x0 - 2 * cx + x1 = ax) (hbx : cx - x0 = bx) (hB : b * b = B) (hP : a * c = P) (hd : B - P = d) (hn : d < 0 ∨ (d = 0 ∧ a < 0)) (ha0 : a ≠ 0) (W : World) :
    Calls Try.prog 41 #[.agg #[.int .i64 x0, .int .i64 y0, .bool bb, .int .i64 cx, .int .i64 cy, .int .i64 x1, .int .i64 y1], .int .i64 y] W fun en w' => en = .returned (spp Pl.Sp.z Pl.Sp.z) ∧ Grown W w' := by
  have k1 := Pl.bd_mul 16382 16382 (show -16382 ≤ b ∧ b ≤ 16382 by omega) (show -16382 ≤ b ∧ b ≤ 16382 by omega)
  have k2 := Pl.bd_mul 32764 16382 (show -32764 ≤ a ∧ a ≤ 32764 by omega) (show -16382 ≤ c ∧ c ≤ 16382 by omega)
  rw [hB] at k1
  rw [hP] at k2
  obtain ⟨k3, k4⟩ := k1
  obtain ⟨k5, k6⟩ := k2
  have hab : (a == 0) = false := beq_eq_false_iff_ne.2 ha0
  clear ha0
  rcases hn with hn | ⟨rfl, hn⟩
  all_goals
    go_enter Try.func41, Try.ntmps41
    go_wp2_with fail
    go_quiet (fail)
    go_wp2_with fail
    go_quiet (fail)
    generalize hZ : World.drewN _ _ = Z
    have BT : Hid (Bt W [.int .i64 x0, .int .i64 y0, .bool bb, .int .i64 cx, .int .i64 cy, .int .i64 x1, .int .i64 y1] [.int .i64 0, .int .i64 0, .int .i64 0, .int .i64 0, .int .i64 0, .int .i64 0, .int .i64 0, .int .i64 0, .int .i64 0, .int .i64 0] Z) := Lib.hid (by rw [← hZ]; exact ((Bt.start W #[.int .i64 x0, .int .i64 y0, .bool bb, .int .i64 cx, .int .i64 cy, .int .i64 x1, .int .i64 y1] #[.int .i64 0, .int .i64 0, .int .i64 0, .int .i64 0, .int .i64 0, .int .i64 0, .int .i64 0, .int .i64 0, .int .i64 0, .int .i64 0] 25 58).drewN _).drewN _)
    clear hZ
    obtain ⟨c0, c1, c2, c3, c4, c5, c6, c7, c8, c9⟩ := BT.out.2.1.at10
    have fz := BT.out.2.1.2.2.2
    go_wp2_with fail
    exact post_bt Try.results41 rfl BT.out.all rfl (fun g => ⟨rfl, g⟩)
end Go.Proofs.Ytnienpalbfgflaa
